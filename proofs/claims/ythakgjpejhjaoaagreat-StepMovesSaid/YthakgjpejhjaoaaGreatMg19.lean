/-
  Parts of the proof (their names shortened by a program). No condition.
-/
import Derived.Test.YthakgjpejhjaoaaGreatMg01
import Derived.Test.YthakgjpejhjaoaaGreatMg18
namespace Go.Proofs.YthakgjpejhjaoaaGreat
open Go Go.RowKit
set_option linter.unusedVariables false
set_option linter.unusedSimpArgs false
set_option maxRecDepth 100000
set_option maxHeartbeats 16000000
theorem Yon (d a pb : Nat) (s : St) (i : Ins) (M : Mem) (w : World) (h : Yq w d a pb s i M) (hop : i.op = 1) (hr : opK M s i.b 4 = true) (hk : Ybg M s i.a 4 = true) :
  Calls Tryz.prog 54 #[.pointer (some ⟨d, 0, none⟩)] w fun e w' => e = .returned (.tuple #[]) ∧ Yq w' d a pb (opS s i.a 4 (opV M s i.b 4)) i (opM M s i.a 4 (opV M s i.b 4)) ∧ Upd [d, pb] w w' := by
 have HD := Yh_ h
 have HI := Yh_ h.io
 have HV := Yh_ (Yc7 h i.b h.io.b 4)
 have HR := Yh_ hr
 have HK := Yh_ hk
 clear hr hk
 clear h
 go_enter Tryz.func54, Tryz.ntmps54
 go_wp2_with fail
 refine Yai 9 (Dg w d a pb s i M [] _ 7 8 41 Ins.zero.cells i.cells) (fun _ _ => False) (by kernel_rfl) (by decide +kernel) (fun r0 => Dg.start (Dq.of HD.out) 7 8 41 Ins.zero.cells i.cells r0) (fun _ _ _ h => h.elim) ?_
 simp only [List.take_succ_cons, List.take_zero, List.drop_succ_cons, List.drop_zero]
 iterate 3
  apply Yb rfl rfl
  ·intro dn r0 K hd hdep hK w5 hB2
   have hB1 := hB2.q
   skip
   have HB := Yh_ hB2
   clear hB1 hB2 hdep
   go_wp2_with fail
   first
   |exact hK _ (HB.out.same _ (by decide) (by decide))
   |exact HB.out.same _ (by decide) (by decide)
  ·exact ⟨_, rfl⟩
 apply Yb rfl rfl
 ·intro dn r0 K hd hdep hK w5 hB2
  have hB1 := hB2.q
  refine wp_load_mid 41 _ rfl d 18 rfl i.cells.toList _ hB1.b.ri Tryz.underlying41 rfl (by rw [Array.length_toList, Ins.size]; exact Ya1) ?_
  rw [Array.toArray_toList]
  exact hK _ (hB2.same _ (by decide) (by decide))
 ·exact ⟨_, rfl⟩
 iterate 3
  apply Yb rfl rfl
  ·intro dn r0 K hd hdep hK w5 hB2
   have hB1 := hB2.q
   skip
   have HB := Yh_ hB2
   clear hB1 hB2 hdep
   go_wp2_with fail
   first
   |exact hK _ (HB.out.same _ (by decide) (by decide))
   |exact HB.out.same _ (by decide) (by decide)
  ·exact ⟨_, rfl⟩
 refine Yr rfl (fun _ => rfl) 2 rfl (by simp [Act.put]) ?_ ?_
 ·intro dn r0 K hd w5 hB2 hK
  have HB := Yh_ hB2
  clear hB2
  simp only [Yi]
  go_wp2_with fail
  first
  |exact hK (.pointer (some ⟨w5.heap.size, 0, none⟩)) _ (HB.out.lay hd (by decide))
  |exact HB.out.lay hd (by decide)
 apply Yt rfl (fun _ => rfl)
 ·intro dn r0 K hd hdep hK w5 hB2
  have h8 : dn 7 = true := hdep ⟨7, .data⟩ (by simp) rfl
  obtain ⟨g0, e1, e2, e3⟩ := hB2.x h8
  refine Ybp i g0 _ _ rfl (by show r0 7 = _; exact e1) rfl e3 (by split <;> exact Ins.size _) ?_
  intro w6 hw
  rw [← hw]
  exact hK _ (hB2.put h8 e1 (by rintro c (rfl | rfl) <;> exact Yc8 _ i rfl) (by decide))
 ·exact ⟨_, fun _ => rfl, rfl⟩
 refine Yad (fun _ r0 w6 dn hall hB2 => ?_)
 obtain ⟨g, e1, hB1, hgl⟩ := hB2.fin (hall 7 (by decide))
 rw [hall 8 (by decide), if_pos rfl] at hB1
 show wpList _ _ _ _ (Act.put (Yi _ _ [] _) (some 2) (r0 7)) _
 rw [e1]
 simp only [Yi]
 clear e1 hall hB2
 have ci := hB1.ins; unfold Ins.cells at ci
 have H3 := Yh_ hB1
 clear hB1 hgl
 go_wp2_with fail
 refine Yan 7 (Dq w d a pb s i M [(g, .cells i.cells 41 (0, 0))]) (fun _ _ => False) (by kernel_rfl) (by decide +kernel) H3.out.drew (fun _ _ _ h => h.elim) ?_
 simp only [List.take_succ_cons, List.take_zero, List.drop_succ_cons, List.drop_zero]
 iterate 6
  apply Yu rfl rfl
  ·intro K hK w5 hB1
   have ci := hB1.ins; unfold Ins.cells at ci
   have HB := Yh_ hB1
   clear hB1
   go_wp2_with fail
   first
   |exact hK _ HB.out
   |exact HB.out
  ·exact ⟨_, rfl⟩
 apply Yu rfl rfl
 ·intro K hK w5 hB1
  have HB := Yh_ hB1
  clear hB1
  go_wp2_with (go_at_call 48; refine (Yck d a pb s i M i.b 4 _ HB.out.b HI.out.b HR.out).mono ?_; rintro e w6 ⟨rfl, hu⟩)
  first
  |exact hK _ (HB.out.quiet hu)
  |exact HB.out.quiet hu
 ·exact ⟨_, rfl⟩
 refine Yaf (fun _ w6 hB1 => ?_)
 have H5 := Yh_ hB1
 clear hB1 H3 ci
 go_wp2_with (have _t := H5; clear _t; go_at_call 49; refine (Ydi d a pb s i M i.a 4 (opV M s i.b 4) _ H5.out.b HI.out.a HV.out HK.out).mono ?_; rintro e w7 ⟨rfl, hd, hu⟩; have H7 := Yh_ (H5.out.next hd hu); clear hd hu H5)
 go_end0
 exact ⟨rfl, H7.out.b, H7.out.u⟩
theorem Ynh (d a pb : Nat) (s : St) (i : Ins) (M : Mem) (w : World) (h : Yq w d a pb s i M) (hop : i.op = 1) (hr : opK M s i.b 4 = true) (hk : Ybg M s i.a 4 = false) :
  Calls Tryz.prog 54 #[.pointer (some ⟨d, 0, none⟩)] w fun e w' => e = .panicked [{ v := .iface 35 (Ycc M s i.a 4).val, recovered := false }] ∧ Yk w' a pb (opM M s i.a 4 (opV M s i.b 4)) ∧ Upd [d, pb] w w' := by
 have HD := Yh_ h
 have HI := Yh_ h.io
 have HV := Yh_ (Yc7 h i.b h.io.b 4)
 have HR := Yh_ hr
 have HK := Yh_ hk
 clear hr hk
 clear h
 go_enter Tryz.func54, Tryz.ntmps54
 go_wp2_with fail
 refine Yai 9 (Dg w d a pb s i M [] _ 7 8 41 Ins.zero.cells i.cells) (fun _ _ => False) (by kernel_rfl) (by decide +kernel) (fun r0 => Dg.start (Dq.of HD.out) 7 8 41 Ins.zero.cells i.cells r0) (fun _ _ _ h => h.elim) ?_
 simp only [List.take_succ_cons, List.take_zero, List.drop_succ_cons, List.drop_zero]
 iterate 3
  apply Yb rfl rfl
  ·intro dn r0 K hd hdep hK w5 hB2
   have hB1 := hB2.q
   skip
   have HB := Yh_ hB2
   clear hB1 hB2 hdep
   go_wp2_with fail
   first
   |exact hK _ (HB.out.same _ (by decide) (by decide))
   |exact HB.out.same _ (by decide) (by decide)
  ·exact ⟨_, rfl⟩
 apply Yb rfl rfl
 ·intro dn r0 K hd hdep hK w5 hB2
  have hB1 := hB2.q
  refine wp_load_mid 41 _ rfl d 18 rfl i.cells.toList _ hB1.b.ri Tryz.underlying41 rfl (by rw [Array.length_toList, Ins.size]; exact Ya1) ?_
  rw [Array.toArray_toList]
  exact hK _ (hB2.same _ (by decide) (by decide))
 ·exact ⟨_, rfl⟩
 iterate 3
  apply Yb rfl rfl
  ·intro dn r0 K hd hdep hK w5 hB2
   have hB1 := hB2.q
   skip
   have HB := Yh_ hB2
   clear hB1 hB2 hdep
   go_wp2_with fail
   first
   |exact hK _ (HB.out.same _ (by decide) (by decide))
   |exact HB.out.same _ (by decide) (by decide)
  ·exact ⟨_, rfl⟩
 refine Yr rfl (fun _ => rfl) 2 rfl (by simp [Act.put]) ?_ ?_
 ·intro dn r0 K hd w5 hB2 hK
  have HB := Yh_ hB2
  clear hB2
  simp only [Yi]
  go_wp2_with fail
  first
  |exact hK (.pointer (some ⟨w5.heap.size, 0, none⟩)) _ (HB.out.lay hd (by decide))
  |exact HB.out.lay hd (by decide)
 apply Yt rfl (fun _ => rfl)
 ·intro dn r0 K hd hdep hK w5 hB2
  have h8 : dn 7 = true := hdep ⟨7, .data⟩ (by simp) rfl
  obtain ⟨g0, e1, e2, e3⟩ := hB2.x h8
  refine Ybp i g0 _ _ rfl (by show r0 7 = _; exact e1) rfl e3 (by split <;> exact Ins.size _) ?_
  intro w6 hw
  rw [← hw]
  exact hK _ (hB2.put h8 e1 (by rintro c (rfl | rfl) <;> exact Yc8 _ i rfl) (by decide))
 ·exact ⟨_, fun _ => rfl, rfl⟩
 refine Yad (fun _ r0 w6 dn hall hB2 => ?_)
 obtain ⟨g, e1, hB1, hgl⟩ := hB2.fin (hall 7 (by decide))
 rw [hall 8 (by decide), if_pos rfl] at hB1
 show wpList _ _ _ _ (Act.put (Yi _ _ [] _) (some 2) (r0 7)) _
 rw [e1]
 simp only [Yi]
 clear e1 hall hB2
 have ci := hB1.ins; unfold Ins.cells at ci
 have H3 := Yh_ hB1
 clear hB1 hgl
 go_wp2_with fail
 refine Yan 7 (Dq w d a pb s i M [(g, .cells i.cells 41 (0, 0))]) (fun _ _ => False) (by kernel_rfl) (by decide +kernel) H3.out.drew (fun _ _ _ h => h.elim) ?_
 simp only [List.take_succ_cons, List.take_zero, List.drop_succ_cons, List.drop_zero]
 iterate 6
  apply Yu rfl rfl
  ·intro K hK w5 hB1
   have ci := hB1.ins; unfold Ins.cells at ci
   have HB := Yh_ hB1
   clear hB1
   go_wp2_with fail
   first
   |exact hK _ HB.out
   |exact HB.out
  ·exact ⟨_, rfl⟩
 apply Yu rfl rfl
 ·intro K hK w5 hB1
  have HB := Yh_ hB1
  clear hB1
  go_wp2_with (go_at_call 48; refine (Yck d a pb s i M i.b 4 _ HB.out.b HI.out.b HR.out).mono ?_; rintro e w6 ⟨rfl, hu⟩)
  first
  |exact hK _ (HB.out.quiet hu)
  |exact HB.out.quiet hu
 ·exact ⟨_, rfl⟩
 refine Yaf (fun _ w6 hB1 => ?_)
 have H5 := Yh_ hB1
 clear hB1 H3 ci
 go_wp2_with (have _t := H5; clear _t; go_at_call 49; refine (Yel d a pb s i M i.a 4 (opV M s i.b 4) _ H5.out.b HI.out.a HV.out HK.out).mono ?_; rintro e w7 ⟨rfl, hd, hu⟩; have H7 := Yh_ (H5.out.next hd (hu.mono (T := [d, pb]) (by simp))); clear hd hu H5)
 exact ⟨rfl, rfl, H7.out.b.m, H7.out.u⟩
theorem Yk0 (d a pb : Nat) (s : St) (i : Ins) (M : Mem) (w : World) (h : Yq w d a pb s i M) (hop : i.op = 1) (hr : opK M s i.b 4 = false) :
  Calls Tryz.prog 54 #[.pointer (some ⟨d, 0, none⟩)] w fun e w' => e = .panicked [{ v := .iface 35 (opF M s i.b 4).val, recovered := false }] ∧ Yk w' a pb (M) ∧ Upd [d, pb] w w' := by
 have HD := Yh_ h
 have HI := Yh_ h.io
 have HR := Yh_ hr
 clear hr
 clear h
 go_enter Tryz.func54, Tryz.ntmps54
 go_wp2_with fail
 refine Yai 9 (Dg w d a pb s i M [] _ 7 8 41 Ins.zero.cells i.cells) (fun _ _ => False) (by kernel_rfl) (by decide +kernel) (fun r0 => Dg.start (Dq.of HD.out) 7 8 41 Ins.zero.cells i.cells r0) (fun _ _ _ h => h.elim) ?_
 simp only [List.take_succ_cons, List.take_zero, List.drop_succ_cons, List.drop_zero]
 iterate 3
  apply Yb rfl rfl
  ·intro dn r0 K hd hdep hK w5 hB2
   have hB1 := hB2.q
   skip
   have HB := Yh_ hB2
   clear hB1 hB2 hdep
   go_wp2_with fail
   first
   |exact hK _ (HB.out.same _ (by decide) (by decide))
   |exact HB.out.same _ (by decide) (by decide)
  ·exact ⟨_, rfl⟩
 apply Yb rfl rfl
 ·intro dn r0 K hd hdep hK w5 hB2
  have hB1 := hB2.q
  refine wp_load_mid 41 _ rfl d 18 rfl i.cells.toList _ hB1.b.ri Tryz.underlying41 rfl (by rw [Array.length_toList, Ins.size]; exact Ya1) ?_
  rw [Array.toArray_toList]
  exact hK _ (hB2.same _ (by decide) (by decide))
 ·exact ⟨_, rfl⟩
 iterate 3
  apply Yb rfl rfl
  ·intro dn r0 K hd hdep hK w5 hB2
   have hB1 := hB2.q
   skip
   have HB := Yh_ hB2
   clear hB1 hB2 hdep
   go_wp2_with fail
   first
   |exact hK _ (HB.out.same _ (by decide) (by decide))
   |exact HB.out.same _ (by decide) (by decide)
  ·exact ⟨_, rfl⟩
 refine Yr rfl (fun _ => rfl) 2 rfl (by simp [Act.put]) ?_ ?_
 ·intro dn r0 K hd w5 hB2 hK
  have HB := Yh_ hB2
  clear hB2
  simp only [Yi]
  go_wp2_with fail
  first
  |exact hK (.pointer (some ⟨w5.heap.size, 0, none⟩)) _ (HB.out.lay hd (by decide))
  |exact HB.out.lay hd (by decide)
 apply Yt rfl (fun _ => rfl)
 ·intro dn r0 K hd hdep hK w5 hB2
  have h8 : dn 7 = true := hdep ⟨7, .data⟩ (by simp) rfl
  obtain ⟨g0, e1, e2, e3⟩ := hB2.x h8
  refine Ybp i g0 _ _ rfl (by show r0 7 = _; exact e1) rfl e3 (by split <;> exact Ins.size _) ?_
  intro w6 hw
  rw [← hw]
  exact hK _ (hB2.put h8 e1 (by rintro c (rfl | rfl) <;> exact Yc8 _ i rfl) (by decide))
 ·exact ⟨_, fun _ => rfl, rfl⟩
 refine Yad (fun _ r0 w6 dn hall hB2 => ?_)
 obtain ⟨g, e1, hB1, hgl⟩ := hB2.fin (hall 7 (by decide))
 rw [hall 8 (by decide), if_pos rfl] at hB1
 show wpList _ _ _ _ (Act.put (Yi _ _ [] _) (some 2) (r0 7)) _
 rw [e1]
 simp only [Yi]
 clear e1 hall hB2
 have ci := hB1.ins; unfold Ins.cells at ci
 have H3 := Yh_ hB1
 clear hB1 hgl
 go_wp2_with fail
 refine Yan 7 (Dq w d a pb s i M [(g, .cells i.cells 41 (0, 0))]) (fun c w6 => c = [{ v := .iface 35 (opF M s i.b 4).val, recovered := false }] ∧ Yk w6 a pb M ∧ Upd [d, pb] w w6) (by kernel_rfl) (by decide +kernel) H3.out.drew (fun c a6 w6 h hd6 _ _ => And.intro hd6 (by obtain ⟨h1, h2, h3⟩ := h; subst h1; exact ⟨rfl, h2, h3⟩)) ?_
 simp only [List.take_succ_cons, List.take_zero, List.drop_succ_cons, List.drop_zero]
 iterate 6
  apply Yu rfl rfl
  ·intro K hK w5 hB1
   have ci := hB1.ins; unfold Ins.cells at ci
   have HB := Yh_ hB1
   clear hB1
   go_wp2_with fail
   first
   |exact hK _ HB.out
   |exact HB.out
  ·exact ⟨_, rfl⟩
 refine Yeh rfl rfl ?_ ?_
 ·intro w5 hB1
  have HB := Yh_ hB1
  clear hB1
  go_wp2_with (go_at_call 48; refine (Yhc d a pb s i M i.b 4 _ HB.out.b HI.out.b HR.out).mono ?_; rintro e w6 ⟨rfl, hu⟩)
  first
  |exact ⟨rfl, (HB.out.quiet hu).b.m, (HB.out.quiet hu).u⟩
  |exact ⟨rfl, rfl, (HB.out.quiet hu).b.m, (HB.out.quiet hu).u⟩
 refine Yaf (fun hdead => by cases hdead)
def Ybi (op v : Int) : Int := if op = 37 then Ydr v else v
theorem Yfl (op v : Int) (h : 0 ≤ v ∧ v < 256) : 0 ≤ Ybi op v ∧ Ybi op v < 4294967296 := by
 unfold Ybi Ydr
 split
 ·split <;> omega
 ·omega
theorem Yoq {w : World} {a pb : Nat} {M : Mem} (h : Yk w a pb M) (x r : Int) : 0 ≤ M.readV x 1 r ∧ M.readV x 1 r < 256 := by
 unfold Mem.readV
 split
 ·have := Yfz h x (Yau 1).toNat
  rw [show (Yau 1).toNat = 1 from rfl] at this ⊢
  exact ⟨this.1, Int.lt_of_lt_of_le this.2 (by decide)⟩
 ·omega
theorem Yer {w : World} {d a pb : Nat} {s : St} {i : Ins} {M : Mem} (h : Yq w d a pb s i M) (o : Opd) : 0 ≤ opV M s o 1 ∧ opV M s o 1 < 256 := by
 unfold opV
 split
 ·rw [if_pos rfl]
  unfold St.reg8; split <;> omega
 ·split
  ·show 0 ≤ o.imm % 256 ∧ o.imm % 256 < 256
   omega
  ·split
   ·exact Yoq h.m _ _
   ·omega
theorem ext_37 (d a pb : Nat) (s : St) (i : Ins) (M : Mem) (w : World) (h : Yq w d a pb s i M) (hr : opK M s i.b 1 = true) (hop : i.op = 37) :
  Calls Tryz.prog 83 #[.pointer (some ⟨d, 0, none⟩)] w fun e w' => e = .returned (.int .u32 (Ybi 37 (opV M s i.b 1))) ∧ Upd [] w w' := by
 have HD := Yh_ h
 have HI := Yh_ h.io
 have HR := Yh_ hr
 have c26 : w.cell? ⟨d, 26, none⟩ = some (.int .i64 i.b.k) := h.cell 26; have c27 : w.cell? ⟨d, 27, none⟩ = some (.int .i64 i.b.r) := h.cell 27; have c28 : w.cell? ⟨d, 28, none⟩ = some (.int .u32 i.b.imm) := h.cell 28; have c29 : w.cell? ⟨d, 29, none⟩ = some (.int .i64 i.b.b) := h.cell 29; have c30 : w.cell? ⟨d, 30, none⟩ = some (.int .i64 i.b.x) := h.cell 30; have c31 : w.cell? ⟨d, 31, none⟩ = some (.int .u32 i.b.sc) := h.cell 31
 have HB := Yh_ (Yer h i.b)
 obtain ⟨v, hv⟩ : ∃ v, opV M s i.b 1 = v := ⟨_, rfl⟩
 rw [hv] at HB ⊢
 have HV := Yh_ (And.intro hv hop)
 clear hv hop
 clear h hr
 go_enter Tryz.func83, Tryz.ntmps83
 go_wp2_with (first | (have _t := HD; clear _t; go_at_call 48; refine (Yck d a pb s i M i.b 1 _ HD.out HI.out.b HR.out).mono ?_; rintro e w6 ⟨rfl, hu⟩; rw [HV.out.1]; have hd6 := HD.out.keep hu (by simp) (by simp) (by simp); have c18 : w6.cell? ⟨d, 18, none⟩ = some (.int .i64 i.op) := hd6.cell 18; rw [HV.out.2] at c18; have HU := Yh_ hu; clear hu hd6 HD) | (have _t := HU; clear _t; go_at_call 117; refine (Ye7 v _ HB.out.1 (by have := HB.out.2; omega)).mono ?_; rintro e w7 ⟨rfl, rfl⟩))
 go_ret
 exact ⟨rfl, HU.out⟩
theorem ext_36 (d a pb : Nat) (s : St) (i : Ins) (M : Mem) (w : World) (h : Yq w d a pb s i M) (hr : opK M s i.b 1 = true) (hop : i.op = 36) :
  Calls Tryz.prog 83 #[.pointer (some ⟨d, 0, none⟩)] w fun e w' => e = .returned (.int .u32 (Ybi 36 (opV M s i.b 1))) ∧ Upd [] w w' := by
 have HD := Yh_ h
 have HI := Yh_ h.io
 have HR := Yh_ hr
 have c26 : w.cell? ⟨d, 26, none⟩ = some (.int .i64 i.b.k) := h.cell 26; have c27 : w.cell? ⟨d, 27, none⟩ = some (.int .i64 i.b.r) := h.cell 27; have c28 : w.cell? ⟨d, 28, none⟩ = some (.int .u32 i.b.imm) := h.cell 28; have c29 : w.cell? ⟨d, 29, none⟩ = some (.int .i64 i.b.b) := h.cell 29; have c30 : w.cell? ⟨d, 30, none⟩ = some (.int .i64 i.b.x) := h.cell 30; have c31 : w.cell? ⟨d, 31, none⟩ = some (.int .u32 i.b.sc) := h.cell 31
 have HB := Yh_ (Yer h i.b)
 obtain ⟨v, hv⟩ : ∃ v, opV M s i.b 1 = v := ⟨_, rfl⟩
 rw [hv] at HB ⊢
 have HV := Yh_ (And.intro hv hop)
 clear hv hop
 clear h hr
 go_enter Tryz.func83, Tryz.ntmps83
 go_wp2_with (first | (have _t := HD; clear _t; go_at_call 48; refine (Yck d a pb s i M i.b 1 _ HD.out HI.out.b HR.out).mono ?_; rintro e w6 ⟨rfl, hu⟩; rw [HV.out.1]; have hd6 := HD.out.keep hu (by simp) (by simp) (by simp); have c18 : w6.cell? ⟨d, 18, none⟩ = some (.int .i64 i.op) := hd6.cell 18; rw [HV.out.2] at c18; have HU := Yh_ hu; clear hu hd6 HD))
 go_ret
 exact ⟨rfl, HU.out⟩
theorem ext_bad (d a pb : Nat) (s : St) (i : Ins) (M : Mem) (w : World) (h : Yq w d a pb s i M) (hr : opK M s i.b 1 = false) :
  Calls Tryz.prog 83 #[.pointer (some ⟨d, 0, none⟩)] w fun e w' => e = .panicked [{ v := .iface 35 (opF M s i.b 1).val, recovered := false }] ∧ Upd [] w w' := by
 have HD := Yh_ h
 have HI := Yh_ h.io
 have HR := Yh_ hr
 have c26 : w.cell? ⟨d, 26, none⟩ = some (.int .i64 i.b.k) := h.cell 26; have c27 : w.cell? ⟨d, 27, none⟩ = some (.int .i64 i.b.r) := h.cell 27; have c28 : w.cell? ⟨d, 28, none⟩ = some (.int .u32 i.b.imm) := h.cell 28; have c29 : w.cell? ⟨d, 29, none⟩ = some (.int .i64 i.b.b) := h.cell 29; have c30 : w.cell? ⟨d, 30, none⟩ = some (.int .i64 i.b.x) := h.cell 30; have c31 : w.cell? ⟨d, 31, none⟩ = some (.int .u32 i.b.sc) := h.cell 31
 clear h hr
 go_enter Tryz.func83, Tryz.ntmps83
 go_wp2_with (first | (have _t := HD; clear _t; go_at_call 48; refine (Yhc d a pb s i M i.b 1 _ HD.out HI.out.b HR.out).mono ?_; rintro e w6 ⟨rfl, hu⟩; have HU := Yh_ hu; clear hu))
 exact ⟨rfl, rfl, HU.out⟩
theorem Ync (d a pb : Nat) (s : St) (i : Ins) (M : Mem) (w : World) (h : Yq w d a pb s i M) (hop : i.op = 36) (hr : opK M s i.b 1 = true) (hk : Ybg M s i.a 4 = true) :
  Calls Tryz.prog 54 #[.pointer (some ⟨d, 0, none⟩)] w fun e w' => e = .returned (.tuple #[]) ∧ Yq w' d a pb (opS s i.a 4 (Ybi 36 (opV M s i.b 1))) i (opM M s i.a 4 (Ybi 36 (opV M s i.b 1))) ∧ Upd [d, pb] w w' := by
 have HD := Yh_ h
 have HI := Yh_ h.io
 have HV := Yh_ (Yfl 36 _ (Yer h i.b))
 have HO := Yh_ hop
 have HR := Yh_ hr
 have HK := Yh_ hk
 clear hr hk
 clear h
 go_enter Tryz.func54, Tryz.ntmps54
 go_wp2_with fail
 refine Yai 9 (Dg w d a pb s i M [] _ 7 8 41 Ins.zero.cells i.cells) (fun _ _ => False) (by kernel_rfl) (by decide +kernel) (fun r0 => Dg.start (Dq.of HD.out) 7 8 41 Ins.zero.cells i.cells r0) (fun _ _ _ h => h.elim) ?_
 simp only [List.take_succ_cons, List.take_zero, List.drop_succ_cons, List.drop_zero]
 iterate 3
  apply Yb rfl rfl
  ·intro dn r0 K hd hdep hK w5 hB2
   have hB1 := hB2.q
   skip
   have HB := Yh_ hB2
   clear hB1 hB2 hdep
   go_wp2_with fail
   first
   |exact hK _ (HB.out.same _ (by decide) (by decide))
   |exact HB.out.same _ (by decide) (by decide)
  ·exact ⟨_, rfl⟩
 apply Yb rfl rfl
 ·intro dn r0 K hd hdep hK w5 hB2
  have hB1 := hB2.q
  refine wp_load_mid 41 _ rfl d 18 rfl i.cells.toList _ hB1.b.ri Tryz.underlying41 rfl (by rw [Array.length_toList, Ins.size]; exact Ya1) ?_
  rw [Array.toArray_toList]
  exact hK _ (hB2.same _ (by decide) (by decide))
 ·exact ⟨_, rfl⟩
 iterate 3
  apply Yb rfl rfl
  ·intro dn r0 K hd hdep hK w5 hB2
   have hB1 := hB2.q
   skip
   have HB := Yh_ hB2
   clear hB1 hB2 hdep
   go_wp2_with fail
   first
   |exact hK _ (HB.out.same _ (by decide) (by decide))
   |exact HB.out.same _ (by decide) (by decide)
  ·exact ⟨_, rfl⟩
 refine Yr rfl (fun _ => rfl) 2 rfl (by simp [Act.put]) ?_ ?_
 ·intro dn r0 K hd w5 hB2 hK
  have HB := Yh_ hB2
  clear hB2
  simp only [Yi]
  go_wp2_with fail
  first
  |exact hK (.pointer (some ⟨w5.heap.size, 0, none⟩)) _ (HB.out.lay hd (by decide))
  |exact HB.out.lay hd (by decide)
 apply Yt rfl (fun _ => rfl)
 ·intro dn r0 K hd hdep hK w5 hB2
  have h8 : dn 7 = true := hdep ⟨7, .data⟩ (by simp) rfl
  obtain ⟨g0, e1, e2, e3⟩ := hB2.x h8
  refine Ybp i g0 _ _ rfl (by show r0 7 = _; exact e1) rfl e3 (by split <;> exact Ins.size _) ?_
  intro w6 hw
  rw [← hw]
  exact hK _ (hB2.put h8 e1 (by rintro c (rfl | rfl) <;> exact Yc8 _ i rfl) (by decide))
 ·exact ⟨_, fun _ => rfl, rfl⟩
 refine Yad (fun _ r0 w6 dn hall hB2 => ?_)
 obtain ⟨g, e1, hB1, hgl⟩ := hB2.fin (hall 7 (by decide))
 rw [hall 8 (by decide), if_pos rfl] at hB1
 show wpList _ _ _ _ (Act.put (Yi _ _ [] _) (some 2) (r0 7)) _
 rw [e1]
 simp only [Yi]
 clear e1 hall hB2
 have ci := hB1.ins; unfold Ins.cells at ci
 have H3 := Yh_ hB1
 clear hB1 hgl
 go_wp2_with fail
 refine Yan 5 (Dq w d a pb s i M [(g, .cells i.cells 41 (0, 0))]) (fun _ _ => False) (by kernel_rfl) (by decide +kernel) H3.out.drew (fun _ _ _ h => h.elim) ?_
 simp only [List.take_succ_cons, List.take_zero, List.drop_succ_cons, List.drop_zero]
 iterate 4
  apply Yu rfl rfl
  ·intro K hK w5 hB1
   have ci := hB1.ins; unfold Ins.cells at ci
   have HB := Yh_ hB1
   clear hB1
   go_wp2_with fail
   first
   |exact hK _ HB.out
   |exact HB.out
  ·exact ⟨_, rfl⟩
 apply Yu rfl rfl
 ·intro K hK w5 hB1
  have HB := Yh_ hB1
  clear hB1
  go_wp2_with (go_at_call 83; refine (ext_36 d a pb s i M _ HB.out.b HR.out HO.out).mono ?_; rintro e w6 ⟨rfl, hu⟩)
  first
  |exact hK _ (HB.out.quiet hu)
  |exact HB.out.quiet hu
 ·exact ⟨_, rfl⟩
 refine Yaf (fun _ w6 hB1 => ?_)
 have H5 := Yh_ hB1
 clear hB1 H3 ci
 go_wp2_with (have _t := H5; clear _t; go_at_call 49; refine (Ydi d a pb s i M i.a 4 (Ybi 36 (opV M s i.b 1)) _ H5.out.b HI.out.a HV.out HK.out).mono ?_; rintro e w7 ⟨rfl, hd, hu⟩; have H7 := Yh_ (H5.out.next hd hu); clear hd hu H5)
 go_end0
 exact ⟨rfl, H7.out.b, H7.out.u⟩
theorem Ykp (d a pb : Nat) (s : St) (i : Ins) (M : Mem) (w : World) (h : Yq w d a pb s i M) (hop : i.op = 36) (hr : opK M s i.b 1 = true) (hk : Ybg M s i.a 4 = false) :
  Calls Tryz.prog 54 #[.pointer (some ⟨d, 0, none⟩)] w fun e w' => e = .panicked [{ v := .iface 35 (Ycc M s i.a 4).val, recovered := false }] ∧ Yk w' a pb (opM M s i.a 4 (Ybi 36 (opV M s i.b 1))) ∧ Upd [d, pb] w w' := by
 have HD := Yh_ h
 have HI := Yh_ h.io
 have HV := Yh_ (Yfl 36 _ (Yer h i.b))
 have HO := Yh_ hop
 have HR := Yh_ hr
 have HK := Yh_ hk
 clear hr hk
 clear h
 go_enter Tryz.func54, Tryz.ntmps54
 go_wp2_with fail
 refine Yai 9 (Dg w d a pb s i M [] _ 7 8 41 Ins.zero.cells i.cells) (fun _ _ => False) (by kernel_rfl) (by decide +kernel) (fun r0 => Dg.start (Dq.of HD.out) 7 8 41 Ins.zero.cells i.cells r0) (fun _ _ _ h => h.elim) ?_
 simp only [List.take_succ_cons, List.take_zero, List.drop_succ_cons, List.drop_zero]
 iterate 3
  apply Yb rfl rfl
  ·intro dn r0 K hd hdep hK w5 hB2
   have hB1 := hB2.q
   skip
   have HB := Yh_ hB2
   clear hB1 hB2 hdep
   go_wp2_with fail
   first
   |exact hK _ (HB.out.same _ (by decide) (by decide))
   |exact HB.out.same _ (by decide) (by decide)
  ·exact ⟨_, rfl⟩
 apply Yb rfl rfl
 ·intro dn r0 K hd hdep hK w5 hB2
  have hB1 := hB2.q
  refine wp_load_mid 41 _ rfl d 18 rfl i.cells.toList _ hB1.b.ri Tryz.underlying41 rfl (by rw [Array.length_toList, Ins.size]; exact Ya1) ?_
  rw [Array.toArray_toList]
  exact hK _ (hB2.same _ (by decide) (by decide))
 ·exact ⟨_, rfl⟩
 iterate 3
  apply Yb rfl rfl
  ·intro dn r0 K hd hdep hK w5 hB2
   have hB1 := hB2.q
   skip
   have HB := Yh_ hB2
   clear hB1 hB2 hdep
   go_wp2_with fail
   first
   |exact hK _ (HB.out.same _ (by decide) (by decide))
   |exact HB.out.same _ (by decide) (by decide)
  ·exact ⟨_, rfl⟩
 refine Yr rfl (fun _ => rfl) 2 rfl (by simp [Act.put]) ?_ ?_
 ·intro dn r0 K hd w5 hB2 hK
  have HB := Yh_ hB2
  clear hB2
  simp only [Yi]
  go_wp2_with fail
  first
  |exact hK (.pointer (some ⟨w5.heap.size, 0, none⟩)) _ (HB.out.lay hd (by decide))
  |exact HB.out.lay hd (by decide)
 apply Yt rfl (fun _ => rfl)
 ·intro dn r0 K hd hdep hK w5 hB2
  have h8 : dn 7 = true := hdep ⟨7, .data⟩ (by simp) rfl
  obtain ⟨g0, e1, e2, e3⟩ := hB2.x h8
  refine Ybp i g0 _ _ rfl (by show r0 7 = _; exact e1) rfl e3 (by split <;> exact Ins.size _) ?_
  intro w6 hw
  rw [← hw]
  exact hK _ (hB2.put h8 e1 (by rintro c (rfl | rfl) <;> exact Yc8 _ i rfl) (by decide))
 ·exact ⟨_, fun _ => rfl, rfl⟩
 refine Yad (fun _ r0 w6 dn hall hB2 => ?_)
 obtain ⟨g, e1, hB1, hgl⟩ := hB2.fin (hall 7 (by decide))
 rw [hall 8 (by decide), if_pos rfl] at hB1
 show wpList _ _ _ _ (Act.put (Yi _ _ [] _) (some 2) (r0 7)) _
 rw [e1]
 simp only [Yi]
 clear e1 hall hB2
 have ci := hB1.ins; unfold Ins.cells at ci
 have H3 := Yh_ hB1
 clear hB1 hgl
 go_wp2_with fail
 refine Yan 5 (Dq w d a pb s i M [(g, .cells i.cells 41 (0, 0))]) (fun _ _ => False) (by kernel_rfl) (by decide +kernel) H3.out.drew (fun _ _ _ h => h.elim) ?_
 simp only [List.take_succ_cons, List.take_zero, List.drop_succ_cons, List.drop_zero]
 iterate 4
  apply Yu rfl rfl
  ·intro K hK w5 hB1
   have ci := hB1.ins; unfold Ins.cells at ci
   have HB := Yh_ hB1
   clear hB1
   go_wp2_with fail
   first
   |exact hK _ HB.out
   |exact HB.out
  ·exact ⟨_, rfl⟩
 apply Yu rfl rfl
 ·intro K hK w5 hB1
  have HB := Yh_ hB1
  clear hB1
  go_wp2_with (go_at_call 83; refine (ext_36 d a pb s i M _ HB.out.b HR.out HO.out).mono ?_; rintro e w6 ⟨rfl, hu⟩)
  first
  |exact hK _ (HB.out.quiet hu)
  |exact HB.out.quiet hu
 ·exact ⟨_, rfl⟩
 refine Yaf (fun _ w6 hB1 => ?_)
 have H5 := Yh_ hB1
 clear hB1 H3 ci
 go_wp2_with (have _t := H5; clear _t; go_at_call 49; refine (Yel d a pb s i M i.a 4 (Ybi 36 (opV M s i.b 1)) _ H5.out.b HI.out.a HV.out HK.out).mono ?_; rintro e w7 ⟨rfl, hd, hu⟩; have H7 := Yh_ (H5.out.next hd (hu.mono (T := [d, pb]) (by simp))); clear hd hu H5)
 exact ⟨rfl, rfl, H7.out.b.m, H7.out.u⟩
theorem Ymx (d a pb : Nat) (s : St) (i : Ins) (M : Mem) (w : World) (h : Yq w d a pb s i M) (hop : i.op = 37) (hr : opK M s i.b 1 = true) (hk : Ybg M s i.a 4 = true) :
  Calls Tryz.prog 54 #[.pointer (some ⟨d, 0, none⟩)] w fun e w' => e = .returned (.tuple #[]) ∧ Yq w' d a pb (opS s i.a 4 (Ybi 37 (opV M s i.b 1))) i (opM M s i.a 4 (Ybi 37 (opV M s i.b 1))) ∧ Upd [d, pb] w w' := by
 have HD := Yh_ h
 have HI := Yh_ h.io
 have HV := Yh_ (Yfl 37 _ (Yer h i.b))
 have HO := Yh_ hop
 have HR := Yh_ hr
 have HK := Yh_ hk
 clear hr hk
 clear h
 go_enter Tryz.func54, Tryz.ntmps54
 go_wp2_with fail
 refine Yai 9 (Dg w d a pb s i M [] _ 7 8 41 Ins.zero.cells i.cells) (fun _ _ => False) (by kernel_rfl) (by decide +kernel) (fun r0 => Dg.start (Dq.of HD.out) 7 8 41 Ins.zero.cells i.cells r0) (fun _ _ _ h => h.elim) ?_
 simp only [List.take_succ_cons, List.take_zero, List.drop_succ_cons, List.drop_zero]
 iterate 3
  apply Yb rfl rfl
  ·intro dn r0 K hd hdep hK w5 hB2
   have hB1 := hB2.q
   skip
   have HB := Yh_ hB2
   clear hB1 hB2 hdep
   go_wp2_with fail
   first
   |exact hK _ (HB.out.same _ (by decide) (by decide))
   |exact HB.out.same _ (by decide) (by decide)
  ·exact ⟨_, rfl⟩
 apply Yb rfl rfl
 ·intro dn r0 K hd hdep hK w5 hB2
  have hB1 := hB2.q
  refine wp_load_mid 41 _ rfl d 18 rfl i.cells.toList _ hB1.b.ri Tryz.underlying41 rfl (by rw [Array.length_toList, Ins.size]; exact Ya1) ?_
  rw [Array.toArray_toList]
  exact hK _ (hB2.same _ (by decide) (by decide))
 ·exact ⟨_, rfl⟩
 iterate 3
  apply Yb rfl rfl
  ·intro dn r0 K hd hdep hK w5 hB2
   have hB1 := hB2.q
   skip
   have HB := Yh_ hB2
   clear hB1 hB2 hdep
   go_wp2_with fail
   first
   |exact hK _ (HB.out.same _ (by decide) (by decide))
   |exact HB.out.same _ (by decide) (by decide)
  ·exact ⟨_, rfl⟩
 refine Yr rfl (fun _ => rfl) 2 rfl (by simp [Act.put]) ?_ ?_
 ·intro dn r0 K hd w5 hB2 hK
  have HB := Yh_ hB2
  clear hB2
  simp only [Yi]
  go_wp2_with fail
  first
  |exact hK (.pointer (some ⟨w5.heap.size, 0, none⟩)) _ (HB.out.lay hd (by decide))
  |exact HB.out.lay hd (by decide)
 apply Yt rfl (fun _ => rfl)
 ·intro dn r0 K hd hdep hK w5 hB2
  have h8 : dn 7 = true := hdep ⟨7, .data⟩ (by simp) rfl
  obtain ⟨g0, e1, e2, e3⟩ := hB2.x h8
  refine Ybp i g0 _ _ rfl (by show r0 7 = _; exact e1) rfl e3 (by split <;> exact Ins.size _) ?_
  intro w6 hw
  rw [← hw]
  exact hK _ (hB2.put h8 e1 (by rintro c (rfl | rfl) <;> exact Yc8 _ i rfl) (by decide))
 ·exact ⟨_, fun _ => rfl, rfl⟩
 refine Yad (fun _ r0 w6 dn hall hB2 => ?_)
 obtain ⟨g, e1, hB1, hgl⟩ := hB2.fin (hall 7 (by decide))
 rw [hall 8 (by decide), if_pos rfl] at hB1
 show wpList _ _ _ _ (Act.put (Yi _ _ [] _) (some 2) (r0 7)) _
 rw [e1]
 simp only [Yi]
 clear e1 hall hB2
 have ci := hB1.ins; unfold Ins.cells at ci
 have H3 := Yh_ hB1
 clear hB1 hgl
 go_wp2_with fail
 refine Yan 5 (Dq w d a pb s i M [(g, .cells i.cells 41 (0, 0))]) (fun _ _ => False) (by kernel_rfl) (by decide +kernel) H3.out.drew (fun _ _ _ h => h.elim) ?_
 simp only [List.take_succ_cons, List.take_zero, List.drop_succ_cons, List.drop_zero]
 iterate 4
  apply Yu rfl rfl
  ·intro K hK w5 hB1
   have ci := hB1.ins; unfold Ins.cells at ci
   have HB := Yh_ hB1
   clear hB1
   go_wp2_with fail
   first
   |exact hK _ HB.out
   |exact HB.out
  ·exact ⟨_, rfl⟩
 apply Yu rfl rfl
 ·intro K hK w5 hB1
  have HB := Yh_ hB1
  clear hB1
  go_wp2_with (go_at_call 83; refine (ext_37 d a pb s i M _ HB.out.b HR.out HO.out).mono ?_; rintro e w6 ⟨rfl, hu⟩)
  first
  |exact hK _ (HB.out.quiet hu)
  |exact HB.out.quiet hu
 ·exact ⟨_, rfl⟩
 refine Yaf (fun _ w6 hB1 => ?_)
 have H5 := Yh_ hB1
 clear hB1 H3 ci
 go_wp2_with (have _t := H5; clear _t; go_at_call 49; refine (Ydi d a pb s i M i.a 4 (Ybi 37 (opV M s i.b 1)) _ H5.out.b HI.out.a HV.out HK.out).mono ?_; rintro e w7 ⟨rfl, hd, hu⟩; have H7 := Yh_ (H5.out.next hd hu); clear hd hu H5)
 go_end0
 exact ⟨rfl, H7.out.b, H7.out.u⟩
theorem Ykc (d a pb : Nat) (s : St) (i : Ins) (M : Mem) (w : World) (h : Yq w d a pb s i M) (hop : i.op = 37) (hr : opK M s i.b 1 = true) (hk : Ybg M s i.a 4 = false) :
  Calls Tryz.prog 54 #[.pointer (some ⟨d, 0, none⟩)] w fun e w' => e = .panicked [{ v := .iface 35 (Ycc M s i.a 4).val, recovered := false }] ∧ Yk w' a pb (opM M s i.a 4 (Ybi 37 (opV M s i.b 1))) ∧ Upd [d, pb] w w' := by
 have HD := Yh_ h
 have HI := Yh_ h.io
 have HV := Yh_ (Yfl 37 _ (Yer h i.b))
 have HO := Yh_ hop
 have HR := Yh_ hr
 have HK := Yh_ hk
 clear hr hk
 clear h
 go_enter Tryz.func54, Tryz.ntmps54
 go_wp2_with fail
 refine Yai 9 (Dg w d a pb s i M [] _ 7 8 41 Ins.zero.cells i.cells) (fun _ _ => False) (by kernel_rfl) (by decide +kernel) (fun r0 => Dg.start (Dq.of HD.out) 7 8 41 Ins.zero.cells i.cells r0) (fun _ _ _ h => h.elim) ?_
 simp only [List.take_succ_cons, List.take_zero, List.drop_succ_cons, List.drop_zero]
 iterate 3
  apply Yb rfl rfl
  ·intro dn r0 K hd hdep hK w5 hB2
   have hB1 := hB2.q
   skip
   have HB := Yh_ hB2
   clear hB1 hB2 hdep
   go_wp2_with fail
   first
   |exact hK _ (HB.out.same _ (by decide) (by decide))
   |exact HB.out.same _ (by decide) (by decide)
  ·exact ⟨_, rfl⟩
 apply Yb rfl rfl
 ·intro dn r0 K hd hdep hK w5 hB2
  have hB1 := hB2.q
  refine wp_load_mid 41 _ rfl d 18 rfl i.cells.toList _ hB1.b.ri Tryz.underlying41 rfl (by rw [Array.length_toList, Ins.size]; exact Ya1) ?_
  rw [Array.toArray_toList]
  exact hK _ (hB2.same _ (by decide) (by decide))
 ·exact ⟨_, rfl⟩
 iterate 3
  apply Yb rfl rfl
  ·intro dn r0 K hd hdep hK w5 hB2
   have hB1 := hB2.q
   skip
   have HB := Yh_ hB2
   clear hB1 hB2 hdep
   go_wp2_with fail
   first
   |exact hK _ (HB.out.same _ (by decide) (by decide))
   |exact HB.out.same _ (by decide) (by decide)
  ·exact ⟨_, rfl⟩
 refine Yr rfl (fun _ => rfl) 2 rfl (by simp [Act.put]) ?_ ?_
 ·intro dn r0 K hd w5 hB2 hK
  have HB := Yh_ hB2
  clear hB2
  simp only [Yi]
  go_wp2_with fail
  first
  |exact hK (.pointer (some ⟨w5.heap.size, 0, none⟩)) _ (HB.out.lay hd (by decide))
  |exact HB.out.lay hd (by decide)
 apply Yt rfl (fun _ => rfl)
 ·intro dn r0 K hd hdep hK w5 hB2
  have h8 : dn 7 = true := hdep ⟨7, .data⟩ (by simp) rfl
  obtain ⟨g0, e1, e2, e3⟩ := hB2.x h8
  refine Ybp i g0 _ _ rfl (by show r0 7 = _; exact e1) rfl e3 (by split <;> exact Ins.size _) ?_
  intro w6 hw
  rw [← hw]
  exact hK _ (hB2.put h8 e1 (by rintro c (rfl | rfl) <;> exact Yc8 _ i rfl) (by decide))
 ·exact ⟨_, fun _ => rfl, rfl⟩
 refine Yad (fun _ r0 w6 dn hall hB2 => ?_)
 obtain ⟨g, e1, hB1, hgl⟩ := hB2.fin (hall 7 (by decide))
 rw [hall 8 (by decide), if_pos rfl] at hB1
 show wpList _ _ _ _ (Act.put (Yi _ _ [] _) (some 2) (r0 7)) _
 rw [e1]
 simp only [Yi]
 clear e1 hall hB2
 have ci := hB1.ins; unfold Ins.cells at ci
 have H3 := Yh_ hB1
 clear hB1 hgl
 go_wp2_with fail
 refine Yan 5 (Dq w d a pb s i M [(g, .cells i.cells 41 (0, 0))]) (fun _ _ => False) (by kernel_rfl) (by decide +kernel) H3.out.drew (fun _ _ _ h => h.elim) ?_
 simp only [List.take_succ_cons, List.take_zero, List.drop_succ_cons, List.drop_zero]
 iterate 4
  apply Yu rfl rfl
  ·intro K hK w5 hB1
   have ci := hB1.ins; unfold Ins.cells at ci
   have HB := Yh_ hB1
   clear hB1
   go_wp2_with fail
   first
   |exact hK _ HB.out
   |exact HB.out
  ·exact ⟨_, rfl⟩
 apply Yu rfl rfl
 ·intro K hK w5 hB1
  have HB := Yh_ hB1
  clear hB1
  go_wp2_with (go_at_call 83; refine (ext_37 d a pb s i M _ HB.out.b HR.out HO.out).mono ?_; rintro e w6 ⟨rfl, hu⟩)
  first
  |exact hK _ (HB.out.quiet hu)
  |exact HB.out.quiet hu
 ·exact ⟨_, rfl⟩
 refine Yaf (fun _ w6 hB1 => ?_)
 have H5 := Yh_ hB1
 clear hB1 H3 ci
 go_wp2_with (have _t := H5; clear _t; go_at_call 49; refine (Yel d a pb s i M i.a 4 (Ybi 37 (opV M s i.b 1)) _ H5.out.b HI.out.a HV.out HK.out).mono ?_; rintro e w7 ⟨rfl, hd, hu⟩; have H7 := Yh_ (H5.out.next hd (hu.mono (T := [d, pb]) (by simp))); clear hd hu H5)
 exact ⟨rfl, rfl, H7.out.b.m, H7.out.u⟩
theorem Yg3 : (∀ (d a pb : Nat) (s : St) (i : Ins) (M : Mem) (w : World) (h : Yq w d a pb s i M) (hop : i.op = 36) (hr : opK M s i.b 1 = false), Calls Tryz.prog 54 #[.pointer (some ⟨d, 0, none⟩)] w fun e w' => e = .panicked [{ v := .iface 35 (opF M s i.b 1).val, recovered := false }] ∧ Yk w' a pb (M) ∧ Upd [d, pb] w w') ∧
 (∀ (d a pb : Nat) (s : St) (i : Ins) (M : Mem) (w : World) (h : Yq w d a pb s i M) (hop : i.op = 37) (hr : opK M s i.b 1 = false), Calls Tryz.prog 54 #[.pointer (some ⟨d, 0, none⟩)] w fun e w' => e = .panicked [{ v := .iface 35 (opF M s i.b 1).val, recovered := false }] ∧ Yk w' a pb (M) ∧ Upd [d, pb] w w') := by
 refine ⟨fun d a pb s i M w h hop hr => ?_, fun d a pb s i M w h hop hr => ?_⟩
 all_goals
  have HD := Yh_ h
  have HI := Yh_ h.io
  have HR := Yh_ hr
  clear hr
  clear h
  go_enter Tryz.func54, Tryz.ntmps54
  go_wp2_with fail
  refine Yai 9 (Dg w d a pb s i M [] _ 7 8 41 Ins.zero.cells i.cells) (fun _ _ => False) (by kernel_rfl) (by decide +kernel) (fun r0 => Dg.start (Dq.of HD.out) 7 8 41 Ins.zero.cells i.cells r0) (fun _ _ _ h => h.elim) ?_
  simp only [List.take_succ_cons, List.take_zero, List.drop_succ_cons, List.drop_zero]
  iterate 3
   apply Yb rfl rfl
   ·intro dn r0 K hd hdep hK w5 hB2
    have hB1 := hB2.q
    skip
    have HB := Yh_ hB2
    clear hB1 hB2 hdep
    go_wp2_with fail
    first
    |exact hK _ (HB.out.same _ (by decide) (by decide))
    |exact HB.out.same _ (by decide) (by decide)
   ·exact ⟨_, rfl⟩
  apply Yb rfl rfl
  ·intro dn r0 K hd hdep hK w5 hB2
   have hB1 := hB2.q
   refine wp_load_mid 41 _ rfl d 18 rfl i.cells.toList _ hB1.b.ri Tryz.underlying41 rfl (by rw [Array.length_toList, Ins.size]; exact Ya1) ?_
   rw [Array.toArray_toList]
   exact hK _ (hB2.same _ (by decide) (by decide))
  ·exact ⟨_, rfl⟩
  iterate 3
   apply Yb rfl rfl
   ·intro dn r0 K hd hdep hK w5 hB2
    have hB1 := hB2.q
    skip
    have HB := Yh_ hB2
    clear hB1 hB2 hdep
    go_wp2_with fail
    first
    |exact hK _ (HB.out.same _ (by decide) (by decide))
    |exact HB.out.same _ (by decide) (by decide)
   ·exact ⟨_, rfl⟩
  refine Yr rfl (fun _ => rfl) 2 rfl (by simp [Act.put]) ?_ ?_
  ·intro dn r0 K hd w5 hB2 hK
   have HB := Yh_ hB2
   clear hB2
   simp only [Yi]
   go_wp2_with fail
   first
   |exact hK (.pointer (some ⟨w5.heap.size, 0, none⟩)) _ (HB.out.lay hd (by decide))
   |exact HB.out.lay hd (by decide)
  apply Yt rfl (fun _ => rfl)
  ·intro dn r0 K hd hdep hK w5 hB2
   have h8 : dn 7 = true := hdep ⟨7, .data⟩ (by simp) rfl
   obtain ⟨g0, e1, e2, e3⟩ := hB2.x h8
   refine Ybp i g0 _ _ rfl (by show r0 7 = _; exact e1) rfl e3 (by split <;> exact Ins.size _) ?_
   intro w6 hw
   rw [← hw]
   exact hK _ (hB2.put h8 e1 (by rintro c (rfl | rfl) <;> exact Yc8 _ i rfl) (by decide))
  ·exact ⟨_, fun _ => rfl, rfl⟩
  refine Yad (fun _ r0 w6 dn hall hB2 => ?_)
  obtain ⟨g, e1, hB1, hgl⟩ := hB2.fin (hall 7 (by decide))
  rw [hall 8 (by decide), if_pos rfl] at hB1
  show wpList _ _ _ _ (Act.put (Yi _ _ [] _) (some 2) (r0 7)) _
  rw [e1]
  simp only [Yi]
  clear e1 hall hB2
  have ci := hB1.ins; unfold Ins.cells at ci
  have H3 := Yh_ hB1
  clear hB1 hgl
  go_wp2_with fail
  refine Yan 5 (Dq w d a pb s i M [(g, .cells i.cells 41 (0, 0))]) (fun c w6 => c = [{ v := .iface 35 (opF M s i.b 1).val, recovered := false }] ∧ Yk w6 a pb M ∧ Upd [d, pb] w w6) (by kernel_rfl) (by decide +kernel) H3.out.drew (fun c a6 w6 h hd6 _ _ => And.intro hd6 (by obtain ⟨h1, h2, h3⟩ := h; subst h1; exact ⟨rfl, h2, h3⟩)) ?_
  simp only [List.take_succ_cons, List.take_zero, List.drop_succ_cons, List.drop_zero]
  iterate 4
   apply Yu rfl rfl
   ·intro K hK w5 hB1
    have ci := hB1.ins; unfold Ins.cells at ci
    have HB := Yh_ hB1
    clear hB1
    go_wp2_with fail
    first
    |exact hK _ HB.out
    |exact HB.out
   ·exact ⟨_, rfl⟩
  refine Yeh rfl rfl ?_ ?_
  ·intro w5 hB1
   have HB := Yh_ hB1
   clear hB1
   go_wp2_with (go_at_call 83; refine (ext_bad d a pb s i M _ HB.out.b HR.out).mono ?_; rintro e w6 ⟨rfl, hu⟩)
   first
   |exact ⟨rfl, (HB.out.quiet hu).b.m, (HB.out.quiet hu).u⟩
   |exact ⟨rfl, rfl, (HB.out.quiet hu).b.m, (HB.out.quiet hu).u⟩
  refine Yaf (fun hdead => by cases hdead)
theorem Yl6 (d a pb : Nat) (s : St) (i : Ins) (M : Mem) (w : World) (h : Yq w d a pb s i M) (hop : i.op = 26) (hk : Ybg M s i.a 4 = true) :
  Calls Tryz.prog 54 #[.pointer (some ⟨d, 0, none⟩)] w fun e w' => e = .returned (.tuple #[]) ∧ Yq w' d a pb (opS s i.a 4 (s.place i.b)) i (opM M s i.a 4 (s.place i.b)) ∧ Upd [d, pb] w w' := by
 have HD := Yh_ h
 have HI := Yh_ h.io
 have HV := Yh_ (Ydd s i.b)
 have HK := Yh_ hk
 clear hk
 clear h
 go_enter Tryz.func54, Tryz.ntmps54
 go_wp2_with fail
 refine Yai 9 (Dg w d a pb s i M [] _ 7 8 41 Ins.zero.cells i.cells) (fun _ _ => False) (by kernel_rfl) (by decide +kernel) (fun r0 => Dg.start (Dq.of HD.out) 7 8 41 Ins.zero.cells i.cells r0) (fun _ _ _ h => h.elim) ?_
 simp only [List.take_succ_cons, List.take_zero, List.drop_succ_cons, List.drop_zero]
 iterate 3
  apply Yb rfl rfl
  ·intro dn r0 K hd hdep hK w5 hB2
   have hB1 := hB2.q
   skip
   have HB := Yh_ hB2
   clear hB1 hB2 hdep
   go_wp2_with fail
   first
   |exact hK _ (HB.out.same _ (by decide) (by decide))
   |exact HB.out.same _ (by decide) (by decide)
  ·exact ⟨_, rfl⟩
 apply Yb rfl rfl
 ·intro dn r0 K hd hdep hK w5 hB2
  have hB1 := hB2.q
  refine wp_load_mid 41 _ rfl d 18 rfl i.cells.toList _ hB1.b.ri Tryz.underlying41 rfl (by rw [Array.length_toList, Ins.size]; exact Ya1) ?_
  rw [Array.toArray_toList]
  exact hK _ (hB2.same _ (by decide) (by decide))
 ·exact ⟨_, rfl⟩
 iterate 3
  apply Yb rfl rfl
  ·intro dn r0 K hd hdep hK w5 hB2
   have hB1 := hB2.q
   skip
   have HB := Yh_ hB2
   clear hB1 hB2 hdep
   go_wp2_with fail
   first
   |exact hK _ (HB.out.same _ (by decide) (by decide))
   |exact HB.out.same _ (by decide) (by decide)
  ·exact ⟨_, rfl⟩
 refine Yr rfl (fun _ => rfl) 2 rfl (by simp [Act.put]) ?_ ?_
 ·intro dn r0 K hd w5 hB2 hK
  have HB := Yh_ hB2
  clear hB2
  simp only [Yi]
  go_wp2_with fail
  first
  |exact hK (.pointer (some ⟨w5.heap.size, 0, none⟩)) _ (HB.out.lay hd (by decide))
  |exact HB.out.lay hd (by decide)
 apply Yt rfl (fun _ => rfl)
 ·intro dn r0 K hd hdep hK w5 hB2
  have h8 : dn 7 = true := hdep ⟨7, .data⟩ (by simp) rfl
  obtain ⟨g0, e1, e2, e3⟩ := hB2.x h8
  refine Ybp i g0 _ _ rfl (by show r0 7 = _; exact e1) rfl e3 (by split <;> exact Ins.size _) ?_
  intro w6 hw
  rw [← hw]
  exact hK _ (hB2.put h8 e1 (by rintro c (rfl | rfl) <;> exact Yc8 _ i rfl) (by decide))
 ·exact ⟨_, fun _ => rfl, rfl⟩
 refine Yad (fun _ r0 w6 dn hall hB2 => ?_)
 obtain ⟨g, e1, hB1, hgl⟩ := hB2.fin (hall 7 (by decide))
 rw [hall 8 (by decide), if_pos rfl] at hB1
 show wpList _ _ _ _ (Act.put (Yi _ _ [] _) (some 2) (r0 7)) _
 rw [e1]
 simp only [Yi]
 clear e1 hall hB2
 have ci := hB1.ins; unfold Ins.cells at ci
 have H3 := Yh_ hB1
 clear hB1 hgl
 go_wp2_with fail
 refine Yan 9 (Dq w d a pb s i M [(g, .cells i.cells 41 (0, 0))]) (fun _ _ => False) (by kernel_rfl) (by decide +kernel) H3.out.drew (fun _ _ _ h => h.elim) ?_
 simp only [List.take_succ_cons, List.take_zero, List.drop_succ_cons, List.drop_zero]
 iterate 5
  apply Yu rfl rfl
  ·intro K hK w5 hB1
   have ci := hB1.ins; unfold Ins.cells at ci
   have HB := Yh_ hB1
   clear hB1
   go_wp2_with fail
   first
   |exact hK _ HB.out
   |exact HB.out
  ·exact ⟨_, rfl⟩
 apply Yu rfl rfl
 ·intro K hK w5 hB1
  refine wp_load_mid 28 _ rfl d 1 rfl s.cells.toList _ hB1.b.rs Tryz.underlying28 rfl (by rw [Array.length_toList, St.size]; exact Ya8) ?_
  rw [Array.toArray_toList]
  exact hK _ hB1
 ·exact ⟨_, rfl⟩
 iterate 2
  apply Yu rfl rfl
  ·intro K hK w5 hB1
   have ci := hB1.ins; unfold Ins.cells at ci
   have HB := Yh_ hB1
   clear hB1
   go_wp2_with fail
   first
   |exact hK _ HB.out
   |exact HB.out
  ·exact ⟨_, rfl⟩
 apply Yu rfl rfl
 ·intro K hK w5 hB1
  have HB := Yh_ hB1
  clear hB1
  go_wp2_with (go_at_call 71; refine (Ydh s i.b _).mono ?_; rintro e w6 ⟨rfl, hu⟩)
  first
  |exact hK _ (HB.out.quiet hu)
  |exact HB.out.quiet hu
 ·exact ⟨_, rfl⟩
 refine Yaf (fun _ w6 hB1 => ?_)
 have H5 := Yh_ hB1
 clear hB1 H3 ci
 go_wp2_with (have _t := H5; clear _t; go_at_call 49; refine (Ydi d a pb s i M i.a 4 (s.place i.b) _ H5.out.b HI.out.a HV.out HK.out).mono ?_; rintro e w7 ⟨rfl, hd, hu⟩; have H7 := Yh_ (H5.out.next hd hu); clear hd hu H5)
 go_end0
 exact ⟨rfl, H7.out.b, H7.out.u⟩
theorem Ylk (d a pb : Nat) (s : St) (i : Ins) (M : Mem) (w : World) (h : Yq w d a pb s i M) (hop : i.op = 26) (hk : Ybg M s i.a 4 = false) :
  Calls Tryz.prog 54 #[.pointer (some ⟨d, 0, none⟩)] w fun e w' => e = .panicked [{ v := .iface 35 (Ycc M s i.a 4).val, recovered := false }] ∧ Yk w' a pb (opM M s i.a 4 (s.place i.b)) ∧ Upd [d, pb] w w' := by
 have HD := Yh_ h
 have HI := Yh_ h.io
 have HV := Yh_ (Ydd s i.b)
 have HK := Yh_ hk
 clear hk
 clear h
 go_enter Tryz.func54, Tryz.ntmps54
 go_wp2_with fail
 refine Yai 9 (Dg w d a pb s i M [] _ 7 8 41 Ins.zero.cells i.cells) (fun _ _ => False) (by kernel_rfl) (by decide +kernel) (fun r0 => Dg.start (Dq.of HD.out) 7 8 41 Ins.zero.cells i.cells r0) (fun _ _ _ h => h.elim) ?_
 simp only [List.take_succ_cons, List.take_zero, List.drop_succ_cons, List.drop_zero]
 iterate 3
  apply Yb rfl rfl
  ·intro dn r0 K hd hdep hK w5 hB2
   have hB1 := hB2.q
   skip
   have HB := Yh_ hB2
   clear hB1 hB2 hdep
   go_wp2_with fail
   first
   |exact hK _ (HB.out.same _ (by decide) (by decide))
   |exact HB.out.same _ (by decide) (by decide)
  ·exact ⟨_, rfl⟩
 apply Yb rfl rfl
 ·intro dn r0 K hd hdep hK w5 hB2
  have hB1 := hB2.q
  refine wp_load_mid 41 _ rfl d 18 rfl i.cells.toList _ hB1.b.ri Tryz.underlying41 rfl (by rw [Array.length_toList, Ins.size]; exact Ya1) ?_
  rw [Array.toArray_toList]
  exact hK _ (hB2.same _ (by decide) (by decide))
 ·exact ⟨_, rfl⟩
 iterate 3
  apply Yb rfl rfl
  ·intro dn r0 K hd hdep hK w5 hB2
   have hB1 := hB2.q
   skip
   have HB := Yh_ hB2
   clear hB1 hB2 hdep
   go_wp2_with fail
   first
   |exact hK _ (HB.out.same _ (by decide) (by decide))
   |exact HB.out.same _ (by decide) (by decide)
  ·exact ⟨_, rfl⟩
 refine Yr rfl (fun _ => rfl) 2 rfl (by simp [Act.put]) ?_ ?_
 ·intro dn r0 K hd w5 hB2 hK
  have HB := Yh_ hB2
  clear hB2
  simp only [Yi]
  go_wp2_with fail
  first
  |exact hK (.pointer (some ⟨w5.heap.size, 0, none⟩)) _ (HB.out.lay hd (by decide))
  |exact HB.out.lay hd (by decide)
 apply Yt rfl (fun _ => rfl)
 ·intro dn r0 K hd hdep hK w5 hB2
  have h8 : dn 7 = true := hdep ⟨7, .data⟩ (by simp) rfl
  obtain ⟨g0, e1, e2, e3⟩ := hB2.x h8
  refine Ybp i g0 _ _ rfl (by show r0 7 = _; exact e1) rfl e3 (by split <;> exact Ins.size _) ?_
  intro w6 hw
  rw [← hw]
  exact hK _ (hB2.put h8 e1 (by rintro c (rfl | rfl) <;> exact Yc8 _ i rfl) (by decide))
 ·exact ⟨_, fun _ => rfl, rfl⟩
 refine Yad (fun _ r0 w6 dn hall hB2 => ?_)
 obtain ⟨g, e1, hB1, hgl⟩ := hB2.fin (hall 7 (by decide))
 rw [hall 8 (by decide), if_pos rfl] at hB1
 show wpList _ _ _ _ (Act.put (Yi _ _ [] _) (some 2) (r0 7)) _
 rw [e1]
 simp only [Yi]
 clear e1 hall hB2
 have ci := hB1.ins; unfold Ins.cells at ci
 have H3 := Yh_ hB1
 clear hB1 hgl
 go_wp2_with fail
 refine Yan 9 (Dq w d a pb s i M [(g, .cells i.cells 41 (0, 0))]) (fun _ _ => False) (by kernel_rfl) (by decide +kernel) H3.out.drew (fun _ _ _ h => h.elim) ?_
 simp only [List.take_succ_cons, List.take_zero, List.drop_succ_cons, List.drop_zero]
 iterate 5
  apply Yu rfl rfl
  ·intro K hK w5 hB1
   have ci := hB1.ins; unfold Ins.cells at ci
   have HB := Yh_ hB1
   clear hB1
   go_wp2_with fail
   first
   |exact hK _ HB.out
   |exact HB.out
  ·exact ⟨_, rfl⟩
 apply Yu rfl rfl
 ·intro K hK w5 hB1
  refine wp_load_mid 28 _ rfl d 1 rfl s.cells.toList _ hB1.b.rs Tryz.underlying28 rfl (by rw [Array.length_toList, St.size]; exact Ya8) ?_
  rw [Array.toArray_toList]
  exact hK _ hB1
 ·exact ⟨_, rfl⟩
 iterate 2
  apply Yu rfl rfl
  ·intro K hK w5 hB1
   have ci := hB1.ins; unfold Ins.cells at ci
   have HB := Yh_ hB1
   clear hB1
   go_wp2_with fail
   first
   |exact hK _ HB.out
   |exact HB.out
  ·exact ⟨_, rfl⟩
 apply Yu rfl rfl
 ·intro K hK w5 hB1
  have HB := Yh_ hB1
  clear hB1
  go_wp2_with (go_at_call 71; refine (Ydh s i.b _).mono ?_; rintro e w6 ⟨rfl, hu⟩)
  first
  |exact hK _ (HB.out.quiet hu)
  |exact HB.out.quiet hu
 ·exact ⟨_, rfl⟩
 refine Yaf (fun _ w6 hB1 => ?_)
 have H5 := Yh_ hB1
 clear hB1 H3 ci
 go_wp2_with (have _t := H5; clear _t; go_at_call 49; refine (Yel d a pb s i M i.a 4 (s.place i.b) _ H5.out.b HI.out.a HV.out HK.out).mono ?_; rintro e w7 ⟨rfl, hd, hu⟩; have H7 := Yh_ (H5.out.next hd (hu.mono (T := [d, pb]) (by simp))); clear hd hu H5)
 exact ⟨rfl, rfl, H7.out.b.m, H7.out.u⟩
end Go.Proofs.YthakgjpejhjaoaaGreat
