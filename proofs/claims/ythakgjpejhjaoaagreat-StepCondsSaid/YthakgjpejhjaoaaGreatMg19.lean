/-
  Parts of the proof (their names shortened by a program). No condition.
-/
import Derived.Test.YthakgjpejhjaoaaGreatMg01
import Derived.Test.YthakgjpejhjaoaaGreatMg18
import Derived.Test.YthakgjpejhjaoaaGreatMg08
import Derived.Test.YthakgjpejhjaoaaGreatMg17
namespace Go.Proofs.YthakgjpejhjaoaaGreat
open Go Go.RowKit
set_option linter.unusedVariables false
set_option linter.unusedSimpArgs false
set_option maxRecDepth 100000
set_option maxHeartbeats 16000000
theorem Yhq (d a pb : Nat) (s : St) (i : Ins) (M : Mem) (w : World) (h : Yr w d a pb s i M) (hop : i.op = 34) (hc : Ybg s.fl i.cond = true) (hk : Yb6 M s i.a 1 = true) :
  Calls Tryz.prog 54 #[.pointer (some ⟨d, 0, none⟩)] w fun e w' => e = .returned (.tuple #[]) ∧ Yr w' d a pb (opS s i.a 1 1) i (opM M s i.a 1 1) ∧ Upd [d, pb] w w' := by
 have HD := Yh_ h
 have HI := Yh_ h.io
 have HC := Yh_ hc
 have HK := Yh_ hk
 clear hc hk
 clear h
 go_enter Tryz.func54, Tryz.ntmps54
 go_wp2_with fail
 refine Yar 9 (Dg w d a pb s i M [] _ 7 8 41 Ins.zero.cells i.cells) (fun _ _ => False) (by kernel_rfl) (by decide +kernel) (fun r0 => Dg.start (Dq.of HD.out) 7 8 41 Ins.zero.cells i.cells r0) (fun _ _ _ h => h.elim) ?_
 simp only [List.take_succ_cons, List.take_zero, List.drop_succ_cons, List.drop_zero]
 iterate 3
  apply Yc rfl rfl
  ·intro dn r0 K hd hdep hK w5 hB2
   have hB1 := hB2.q
   skip
   have HB := Yh_ hB2
   clear hB1 hB2 hdep
   go_wp2_with fail
   first
   |exact hK _ (HB.out.same _ (by decide) (by decide))
   |exact HB.out.same _ (by decide) (by decide)
  ·exact ⟨_, rfl⟩
 apply Yc rfl rfl
 ·intro dn r0 K hd hdep hK w5 hB2
  have hB1 := hB2.q
  refine wp_load_mid 41 _ rfl d 18 rfl i.cells.toList _ hB1.b.ri Tryz.underlying41 rfl (by rw [Array.length_toList, Ins.size]; exact Ybb) ?_
  rw [Array.toArray_toList]
  exact hK _ (hB2.same _ (by decide) (by decide))
 ·exact ⟨_, rfl⟩
 iterate 3
  apply Yc rfl rfl
  ·intro dn r0 K hd hdep hK w5 hB2
   have hB1 := hB2.q
   skip
   have HB := Yh_ hB2
   clear hB1 hB2 hdep
   go_wp2_with fail
   first
   |exact hK _ (HB.out.same _ (by decide) (by decide))
   |exact HB.out.same _ (by decide) (by decide)
  ·exact ⟨_, rfl⟩
 refine Yy rfl (fun _ => rfl) 2 rfl (by simp [Act.put]) ?_ ?_
 ·intro dn r0 K hd w5 hB2 hK
  have HB := Yh_ hB2
  clear hB2
  simp only [Yn]
  go_wp2_with fail
  first
  |exact hK (.pointer (some ⟨w5.heap.size, 0, none⟩)) _ (HB.out.lay hd (by decide))
  |exact HB.out.lay hd (by decide)
 apply Yab rfl (fun _ => rfl)
 ·intro dn r0 K hd hdep hK w5 hB2
  have h8 : dn 7 = true := hdep ⟨7, .data⟩ (by simp) rfl
  obtain ⟨g0, e1, e2, e3⟩ := hB2.x h8
  refine Yb5 i g0 _ _ rfl (by show r0 7 = _; exact e1) rfl e3 (by split <;> exact Ins.size _) ?_
  intro w6 hw
  rw [← hw]
  exact hK _ (hB2.put h8 e1 (by rintro c (rfl | rfl) <;> exact Ydv _ i rfl) (by decide))
 ·exact ⟨_, fun _ => rfl, rfl⟩
 refine Yak (fun _ r0 w6 dn hall hB2 => ?_)
 obtain ⟨g, e1, hB1, hgl⟩ := hB2.fin (hall 7 (by decide))
 rw [hall 8 (by decide), if_pos rfl] at hB1
 show wpList _ _ _ _ (Act.put (Yn _ _ [] _) (some 2) (r0 7)) _
 rw [e1]
 simp only [Yn]
 clear e1 hall hB2
 have ci := hB1.ins; unfold Ins.cells at ci
 have H3 := Yh_ hB1
 clear hB1 hgl
 go_wp2_with fail
 refine Yam 6 (Dq w d a pb s i M [(g, .cells i.cells 41 (0, 0))]) (fun _ _ => False) (by kernel_rfl) (by decide +kernel) H3.out.drew (fun _ _ _ h => h.elim) ?_
 simp only [List.take_succ_cons, List.take_zero, List.drop_succ_cons, List.drop_zero]
 iterate 6
  apply Yv rfl rfl
  ·intro K hK w5 hB1
   have ci := hB1.ins; unfold Ins.cells at ci; have c10 : w5.cell? ⟨d, 10, none⟩ = some (.bool s.cf) := hB1.b.cell 10; have c11 : w5.cell? ⟨d, 11, none⟩ = some (.bool s.pf) := hB1.b.cell 11; have c12 : w5.cell? ⟨d, 12, none⟩ = some (.bool s.af) := hB1.b.cell 12; have c13 : w5.cell? ⟨d, 13, none⟩ = some (.bool s.zf) := hB1.b.cell 13; have c14 : w5.cell? ⟨d, 14, none⟩ = some (.bool s.sf) := hB1.b.cell 14; have c15 : w5.cell? ⟨d, 15, none⟩ = some (.bool s.of_) := hB1.b.cell 15
   have HB := Yh_ hB1
   clear hB1
   go_wp2_with fail
   first
   |exact hK _ HB.out
   |exact HB.out
  ·exact ⟨_, rfl⟩
 refine Yad (fun _ w6 hB1 => ?_)
 have H5 := Yh_ hB1
 clear hB1 H3 ci
 go_wp2_with (first | (have _t := H5; clear _t; go_at_call 82; refine (Yc6 s.fl i.cond _).mono ?_; rintro e w7 ⟨rfl, hu⟩; rw [HC.out]; have H6 := Yh_ (H5.out.quiet hu); have ci := H6.out.ins; unfold Ins.cells at ci; clear hu H5) | (have _t := H6; clear _t; go_at_call 49; refine (Yft d a pb s i M i.a 1 1 _ H6.out.b HI.out.a (by decide) HK.out).mono ?_; rintro e w7 ⟨rfl, hd, hu⟩; have H7 := Yh_ (H6.out.next hd hu); clear hd hu H6))
 go_end0
 exact ⟨rfl, H7.out.b, H7.out.u⟩
theorem Yhe (d a pb : Nat) (s : St) (i : Ins) (M : Mem) (w : World) (h : Yr w d a pb s i M) (hop : i.op = 34) (hc : Ybg s.fl i.cond = true) (hk : Yb6 M s i.a 1 = false) :
  Calls Tryz.prog 54 #[.pointer (some ⟨d, 0, none⟩)] w fun e w' => e = .panicked [{ v := .iface 35 (Ych M s i.a 1).val, recovered := false }] ∧ Ym w' a pb (opM M s i.a 1 1) ∧ Upd [d, pb] w w' := by
 have HD := Yh_ h
 have HI := Yh_ h.io
 have HC := Yh_ hc
 have HK := Yh_ hk
 clear hc hk
 clear h
 go_enter Tryz.func54, Tryz.ntmps54
 go_wp2_with fail
 refine Yar 9 (Dg w d a pb s i M [] _ 7 8 41 Ins.zero.cells i.cells) (fun _ _ => False) (by kernel_rfl) (by decide +kernel) (fun r0 => Dg.start (Dq.of HD.out) 7 8 41 Ins.zero.cells i.cells r0) (fun _ _ _ h => h.elim) ?_
 simp only [List.take_succ_cons, List.take_zero, List.drop_succ_cons, List.drop_zero]
 iterate 3
  apply Yc rfl rfl
  ·intro dn r0 K hd hdep hK w5 hB2
   have hB1 := hB2.q
   skip
   have HB := Yh_ hB2
   clear hB1 hB2 hdep
   go_wp2_with fail
   first
   |exact hK _ (HB.out.same _ (by decide) (by decide))
   |exact HB.out.same _ (by decide) (by decide)
  ·exact ⟨_, rfl⟩
 apply Yc rfl rfl
 ·intro dn r0 K hd hdep hK w5 hB2
  have hB1 := hB2.q
  refine wp_load_mid 41 _ rfl d 18 rfl i.cells.toList _ hB1.b.ri Tryz.underlying41 rfl (by rw [Array.length_toList, Ins.size]; exact Ybb) ?_
  rw [Array.toArray_toList]
  exact hK _ (hB2.same _ (by decide) (by decide))
 ·exact ⟨_, rfl⟩
 iterate 3
  apply Yc rfl rfl
  ·intro dn r0 K hd hdep hK w5 hB2
   have hB1 := hB2.q
   skip
   have HB := Yh_ hB2
   clear hB1 hB2 hdep
   go_wp2_with fail
   first
   |exact hK _ (HB.out.same _ (by decide) (by decide))
   |exact HB.out.same _ (by decide) (by decide)
  ·exact ⟨_, rfl⟩
 refine Yy rfl (fun _ => rfl) 2 rfl (by simp [Act.put]) ?_ ?_
 ·intro dn r0 K hd w5 hB2 hK
  have HB := Yh_ hB2
  clear hB2
  simp only [Yn]
  go_wp2_with fail
  first
  |exact hK (.pointer (some ⟨w5.heap.size, 0, none⟩)) _ (HB.out.lay hd (by decide))
  |exact HB.out.lay hd (by decide)
 apply Yab rfl (fun _ => rfl)
 ·intro dn r0 K hd hdep hK w5 hB2
  have h8 : dn 7 = true := hdep ⟨7, .data⟩ (by simp) rfl
  obtain ⟨g0, e1, e2, e3⟩ := hB2.x h8
  refine Yb5 i g0 _ _ rfl (by show r0 7 = _; exact e1) rfl e3 (by split <;> exact Ins.size _) ?_
  intro w6 hw
  rw [← hw]
  exact hK _ (hB2.put h8 e1 (by rintro c (rfl | rfl) <;> exact Ydv _ i rfl) (by decide))
 ·exact ⟨_, fun _ => rfl, rfl⟩
 refine Yak (fun _ r0 w6 dn hall hB2 => ?_)
 obtain ⟨g, e1, hB1, hgl⟩ := hB2.fin (hall 7 (by decide))
 rw [hall 8 (by decide), if_pos rfl] at hB1
 show wpList _ _ _ _ (Act.put (Yn _ _ [] _) (some 2) (r0 7)) _
 rw [e1]
 simp only [Yn]
 clear e1 hall hB2
 have ci := hB1.ins; unfold Ins.cells at ci
 have H3 := Yh_ hB1
 clear hB1 hgl
 go_wp2_with fail
 refine Yam 6 (Dq w d a pb s i M [(g, .cells i.cells 41 (0, 0))]) (fun _ _ => False) (by kernel_rfl) (by decide +kernel) H3.out.drew (fun _ _ _ h => h.elim) ?_
 simp only [List.take_succ_cons, List.take_zero, List.drop_succ_cons, List.drop_zero]
 iterate 6
  apply Yv rfl rfl
  ·intro K hK w5 hB1
   have ci := hB1.ins; unfold Ins.cells at ci; have c10 : w5.cell? ⟨d, 10, none⟩ = some (.bool s.cf) := hB1.b.cell 10; have c11 : w5.cell? ⟨d, 11, none⟩ = some (.bool s.pf) := hB1.b.cell 11; have c12 : w5.cell? ⟨d, 12, none⟩ = some (.bool s.af) := hB1.b.cell 12; have c13 : w5.cell? ⟨d, 13, none⟩ = some (.bool s.zf) := hB1.b.cell 13; have c14 : w5.cell? ⟨d, 14, none⟩ = some (.bool s.sf) := hB1.b.cell 14; have c15 : w5.cell? ⟨d, 15, none⟩ = some (.bool s.of_) := hB1.b.cell 15
   have HB := Yh_ hB1
   clear hB1
   go_wp2_with fail
   first
   |exact hK _ HB.out
   |exact HB.out
  ·exact ⟨_, rfl⟩
 refine Yad (fun _ w6 hB1 => ?_)
 have H5 := Yh_ hB1
 clear hB1 H3 ci
 go_wp2_with (first | (have _t := H5; clear _t; go_at_call 82; refine (Yc6 s.fl i.cond _).mono ?_; rintro e w7 ⟨rfl, hu⟩; rw [HC.out]; have H6 := Yh_ (H5.out.quiet hu); have ci := H6.out.ins; unfold Ins.cells at ci; clear hu H5) | (have _t := H6; clear _t; go_at_call 49; refine (Ygn d a pb s i M i.a 1 1 _ H6.out.b HI.out.a (by decide) HK.out).mono ?_; rintro e w7 ⟨rfl, hd, hu⟩; have H7 := Yh_ (H6.out.next hd (hu.mono (T := [d, pb]) (by simp))); clear hd hu H6))
 exact ⟨rfl, rfl, H7.out.b.m, H7.out.u⟩
theorem Ym7 (d a pb : Nat) (s : St) (i : Ins) (M : Mem) (w : World) (h : Yr w d a pb s i M) (hop : i.op = 35) (hr : opK M s i.b 4 = true) (hc : Ybg s.fl i.cond = true) (hk : Yb6 M s i.a 4 = true) :
  Calls Tryz.prog 54 #[.pointer (some ⟨d, 0, none⟩)] w fun e w' => e = .returned (.tuple #[]) ∧ Yr w' d a pb (opS s i.a 4 (opV M s i.b 4)) i (opM M s i.a 4 (opV M s i.b 4)) ∧ Upd [d, pb] w w' := by
 have HD := Yh_ h
 have HI := Yh_ h.io
 have HV := Yh_ (Ydj h i.b h.io.b 4)
 have HR := Yh_ hr
 have HC := Yh_ hc
 have HK := Yh_ hk
 clear hr hc hk
 clear h
 go_enter Tryz.func54, Tryz.ntmps54
 go_wp2_with fail
 refine Yar 9 (Dg w d a pb s i M [] _ 7 8 41 Ins.zero.cells i.cells) (fun _ _ => False) (by kernel_rfl) (by decide +kernel) (fun r0 => Dg.start (Dq.of HD.out) 7 8 41 Ins.zero.cells i.cells r0) (fun _ _ _ h => h.elim) ?_
 simp only [List.take_succ_cons, List.take_zero, List.drop_succ_cons, List.drop_zero]
 iterate 3
  apply Yc rfl rfl
  ·intro dn r0 K hd hdep hK w5 hB2
   have hB1 := hB2.q
   skip
   have HB := Yh_ hB2
   clear hB1 hB2 hdep
   go_wp2_with fail
   first
   |exact hK _ (HB.out.same _ (by decide) (by decide))
   |exact HB.out.same _ (by decide) (by decide)
  ·exact ⟨_, rfl⟩
 apply Yc rfl rfl
 ·intro dn r0 K hd hdep hK w5 hB2
  have hB1 := hB2.q
  refine wp_load_mid 41 _ rfl d 18 rfl i.cells.toList _ hB1.b.ri Tryz.underlying41 rfl (by rw [Array.length_toList, Ins.size]; exact Ybb) ?_
  rw [Array.toArray_toList]
  exact hK _ (hB2.same _ (by decide) (by decide))
 ·exact ⟨_, rfl⟩
 iterate 3
  apply Yc rfl rfl
  ·intro dn r0 K hd hdep hK w5 hB2
   have hB1 := hB2.q
   skip
   have HB := Yh_ hB2
   clear hB1 hB2 hdep
   go_wp2_with fail
   first
   |exact hK _ (HB.out.same _ (by decide) (by decide))
   |exact HB.out.same _ (by decide) (by decide)
  ·exact ⟨_, rfl⟩
 refine Yy rfl (fun _ => rfl) 2 rfl (by simp [Act.put]) ?_ ?_
 ·intro dn r0 K hd w5 hB2 hK
  have HB := Yh_ hB2
  clear hB2
  simp only [Yn]
  go_wp2_with fail
  first
  |exact hK (.pointer (some ⟨w5.heap.size, 0, none⟩)) _ (HB.out.lay hd (by decide))
  |exact HB.out.lay hd (by decide)
 apply Yab rfl (fun _ => rfl)
 ·intro dn r0 K hd hdep hK w5 hB2
  have h8 : dn 7 = true := hdep ⟨7, .data⟩ (by simp) rfl
  obtain ⟨g0, e1, e2, e3⟩ := hB2.x h8
  refine Yb5 i g0 _ _ rfl (by show r0 7 = _; exact e1) rfl e3 (by split <;> exact Ins.size _) ?_
  intro w6 hw
  rw [← hw]
  exact hK _ (hB2.put h8 e1 (by rintro c (rfl | rfl) <;> exact Ydv _ i rfl) (by decide))
 ·exact ⟨_, fun _ => rfl, rfl⟩
 refine Yak (fun _ r0 w6 dn hall hB2 => ?_)
 obtain ⟨g, e1, hB1, hgl⟩ := hB2.fin (hall 7 (by decide))
 rw [hall 8 (by decide), if_pos rfl] at hB1
 show wpList _ _ _ _ (Act.put (Yn _ _ [] _) (some 2) (r0 7)) _
 rw [e1]
 simp only [Yn]
 clear e1 hall hB2
 have ci := hB1.ins; unfold Ins.cells at ci
 have H3 := Yh_ hB1
 clear hB1 hgl
 go_wp2_with (have _t := H3; clear _t; go_at_call 48; refine (Yd0 d a pb s i M i.b 4 _ H3.out.b HI.out.b HR.out).mono ?_; rintro e w6 ⟨rfl, hu⟩; have H4 := Yh_ (H3.out.quiet hu); clear hu H3 ci)
 refine Yam 6 (Dq w d a pb s i M [(g, .cells i.cells 41 (0, 0))]) (fun _ _ => False) (by kernel_rfl) (by decide +kernel) H4.out.drew (fun _ _ _ h => h.elim) ?_
 simp only [List.take_succ_cons, List.take_zero, List.drop_succ_cons, List.drop_zero]
 iterate 6
  apply Yv rfl rfl
  ·intro K hK w5 hB1
   have ci := hB1.ins; unfold Ins.cells at ci; have c10 : w5.cell? ⟨d, 10, none⟩ = some (.bool s.cf) := hB1.b.cell 10; have c11 : w5.cell? ⟨d, 11, none⟩ = some (.bool s.pf) := hB1.b.cell 11; have c12 : w5.cell? ⟨d, 12, none⟩ = some (.bool s.af) := hB1.b.cell 12; have c13 : w5.cell? ⟨d, 13, none⟩ = some (.bool s.zf) := hB1.b.cell 13; have c14 : w5.cell? ⟨d, 14, none⟩ = some (.bool s.sf) := hB1.b.cell 14; have c15 : w5.cell? ⟨d, 15, none⟩ = some (.bool s.of_) := hB1.b.cell 15
   have HB := Yh_ hB1
   clear hB1
   go_wp2_with fail
   first
   |exact hK _ HB.out
   |exact HB.out
  ·exact ⟨_, rfl⟩
 refine Yad (fun _ w6 hB1 => ?_)
 have H5 := Yh_ hB1
 clear hB1 H4
 go_wp2_with (first | (have _t := H5; clear _t; go_at_call 82; refine (Yc6 s.fl i.cond _).mono ?_; rintro e w7 ⟨rfl, hu⟩; rw [HC.out]; have H6 := Yh_ (H5.out.quiet hu); have ci := H6.out.ins; unfold Ins.cells at ci; clear hu H5) | (have _t := H6; clear _t; go_at_call 49; refine (Yft d a pb s i M i.a 4 (opV M s i.b 4) _ H6.out.b HI.out.a HV.out HK.out).mono ?_; rintro e w7 ⟨rfl, hd, hu⟩; have H7 := Yh_ (H6.out.next hd hu); clear hd hu H6))
 go_end0
 exact ⟨rfl, H7.out.b, H7.out.u⟩
theorem Yjq (d a pb : Nat) (s : St) (i : Ins) (M : Mem) (w : World) (h : Yr w d a pb s i M) (hop : i.op = 35) (hr : opK M s i.b 4 = true) (hc : Ybg s.fl i.cond = true) (hk : Yb6 M s i.a 4 = false) :
  Calls Tryz.prog 54 #[.pointer (some ⟨d, 0, none⟩)] w fun e w' => e = .panicked [{ v := .iface 35 (Ych M s i.a 4).val, recovered := false }] ∧ Ym w' a pb (opM M s i.a 4 (opV M s i.b 4)) ∧ Upd [d, pb] w w' := by
 have HD := Yh_ h
 have HI := Yh_ h.io
 have HV := Yh_ (Ydj h i.b h.io.b 4)
 have HR := Yh_ hr
 have HC := Yh_ hc
 have HK := Yh_ hk
 clear hr hc hk
 clear h
 go_enter Tryz.func54, Tryz.ntmps54
 go_wp2_with fail
 refine Yar 9 (Dg w d a pb s i M [] _ 7 8 41 Ins.zero.cells i.cells) (fun _ _ => False) (by kernel_rfl) (by decide +kernel) (fun r0 => Dg.start (Dq.of HD.out) 7 8 41 Ins.zero.cells i.cells r0) (fun _ _ _ h => h.elim) ?_
 simp only [List.take_succ_cons, List.take_zero, List.drop_succ_cons, List.drop_zero]
 iterate 3
  apply Yc rfl rfl
  ·intro dn r0 K hd hdep hK w5 hB2
   have hB1 := hB2.q
   skip
   have HB := Yh_ hB2
   clear hB1 hB2 hdep
   go_wp2_with fail
   first
   |exact hK _ (HB.out.same _ (by decide) (by decide))
   |exact HB.out.same _ (by decide) (by decide)
  ·exact ⟨_, rfl⟩
 apply Yc rfl rfl
 ·intro dn r0 K hd hdep hK w5 hB2
  have hB1 := hB2.q
  refine wp_load_mid 41 _ rfl d 18 rfl i.cells.toList _ hB1.b.ri Tryz.underlying41 rfl (by rw [Array.length_toList, Ins.size]; exact Ybb) ?_
  rw [Array.toArray_toList]
  exact hK _ (hB2.same _ (by decide) (by decide))
 ·exact ⟨_, rfl⟩
 iterate 3
  apply Yc rfl rfl
  ·intro dn r0 K hd hdep hK w5 hB2
   have hB1 := hB2.q
   skip
   have HB := Yh_ hB2
   clear hB1 hB2 hdep
   go_wp2_with fail
   first
   |exact hK _ (HB.out.same _ (by decide) (by decide))
   |exact HB.out.same _ (by decide) (by decide)
  ·exact ⟨_, rfl⟩
 refine Yy rfl (fun _ => rfl) 2 rfl (by simp [Act.put]) ?_ ?_
 ·intro dn r0 K hd w5 hB2 hK
  have HB := Yh_ hB2
  clear hB2
  simp only [Yn]
  go_wp2_with fail
  first
  |exact hK (.pointer (some ⟨w5.heap.size, 0, none⟩)) _ (HB.out.lay hd (by decide))
  |exact HB.out.lay hd (by decide)
 apply Yab rfl (fun _ => rfl)
 ·intro dn r0 K hd hdep hK w5 hB2
  have h8 : dn 7 = true := hdep ⟨7, .data⟩ (by simp) rfl
  obtain ⟨g0, e1, e2, e3⟩ := hB2.x h8
  refine Yb5 i g0 _ _ rfl (by show r0 7 = _; exact e1) rfl e3 (by split <;> exact Ins.size _) ?_
  intro w6 hw
  rw [← hw]
  exact hK _ (hB2.put h8 e1 (by rintro c (rfl | rfl) <;> exact Ydv _ i rfl) (by decide))
 ·exact ⟨_, fun _ => rfl, rfl⟩
 refine Yak (fun _ r0 w6 dn hall hB2 => ?_)
 obtain ⟨g, e1, hB1, hgl⟩ := hB2.fin (hall 7 (by decide))
 rw [hall 8 (by decide), if_pos rfl] at hB1
 show wpList _ _ _ _ (Act.put (Yn _ _ [] _) (some 2) (r0 7)) _
 rw [e1]
 simp only [Yn]
 clear e1 hall hB2
 have ci := hB1.ins; unfold Ins.cells at ci
 have H3 := Yh_ hB1
 clear hB1 hgl
 go_wp2_with (have _t := H3; clear _t; go_at_call 48; refine (Yd0 d a pb s i M i.b 4 _ H3.out.b HI.out.b HR.out).mono ?_; rintro e w6 ⟨rfl, hu⟩; have H4 := Yh_ (H3.out.quiet hu); clear hu H3 ci)
 refine Yam 6 (Dq w d a pb s i M [(g, .cells i.cells 41 (0, 0))]) (fun _ _ => False) (by kernel_rfl) (by decide +kernel) H4.out.drew (fun _ _ _ h => h.elim) ?_
 simp only [List.take_succ_cons, List.take_zero, List.drop_succ_cons, List.drop_zero]
 iterate 6
  apply Yv rfl rfl
  ·intro K hK w5 hB1
   have ci := hB1.ins; unfold Ins.cells at ci; have c10 : w5.cell? ⟨d, 10, none⟩ = some (.bool s.cf) := hB1.b.cell 10; have c11 : w5.cell? ⟨d, 11, none⟩ = some (.bool s.pf) := hB1.b.cell 11; have c12 : w5.cell? ⟨d, 12, none⟩ = some (.bool s.af) := hB1.b.cell 12; have c13 : w5.cell? ⟨d, 13, none⟩ = some (.bool s.zf) := hB1.b.cell 13; have c14 : w5.cell? ⟨d, 14, none⟩ = some (.bool s.sf) := hB1.b.cell 14; have c15 : w5.cell? ⟨d, 15, none⟩ = some (.bool s.of_) := hB1.b.cell 15
   have HB := Yh_ hB1
   clear hB1
   go_wp2_with fail
   first
   |exact hK _ HB.out
   |exact HB.out
  ·exact ⟨_, rfl⟩
 refine Yad (fun _ w6 hB1 => ?_)
 have H5 := Yh_ hB1
 clear hB1 H4
 go_wp2_with (first | (have _t := H5; clear _t; go_at_call 82; refine (Yc6 s.fl i.cond _).mono ?_; rintro e w7 ⟨rfl, hu⟩; rw [HC.out]; have H6 := Yh_ (H5.out.quiet hu); have ci := H6.out.ins; unfold Ins.cells at ci; clear hu H5) | (have _t := H6; clear _t; go_at_call 49; refine (Ygn d a pb s i M i.a 4 (opV M s i.b 4) _ H6.out.b HI.out.a HV.out HK.out).mono ?_; rintro e w7 ⟨rfl, hd, hu⟩; have H7 := Yh_ (H6.out.next hd (hu.mono (T := [d, pb]) (by simp))); clear hd hu H6))
 exact ⟨rfl, rfl, H7.out.b.m, H7.out.u⟩
theorem Yhf (d a pb : Nat) (s : St) (i : Ins) (M : Mem) (w : World) (h : Yr w d a pb s i M) (hop : i.op = 34) (hc : Ybg s.fl i.cond = false) (hk : Yb6 M s i.a 1 = true) :
  Calls Tryz.prog 54 #[.pointer (some ⟨d, 0, none⟩)] w fun e w' => e = .returned (.tuple #[]) ∧ Yr w' d a pb (opS s i.a 1 0) i (opM M s i.a 1 0) ∧ Upd [d, pb] w w' := by
 have HD := Yh_ h
 have HI := Yh_ h.io
 have HC := Yh_ hc
 have HK := Yh_ hk
 clear hc hk
 clear h
 go_enter Tryz.func54, Tryz.ntmps54
 go_wp2_with fail
 refine Yar 9 (Dg w d a pb s i M [] _ 7 8 41 Ins.zero.cells i.cells) (fun _ _ => False) (by kernel_rfl) (by decide +kernel) (fun r0 => Dg.start (Dq.of HD.out) 7 8 41 Ins.zero.cells i.cells r0) (fun _ _ _ h => h.elim) ?_
 simp only [List.take_succ_cons, List.take_zero, List.drop_succ_cons, List.drop_zero]
 iterate 3
  apply Yc rfl rfl
  ·intro dn r0 K hd hdep hK w5 hB2
   have hB1 := hB2.q
   skip
   have HB := Yh_ hB2
   clear hB1 hB2 hdep
   go_wp2_with fail
   first
   |exact hK _ (HB.out.same _ (by decide) (by decide))
   |exact HB.out.same _ (by decide) (by decide)
  ·exact ⟨_, rfl⟩
 apply Yc rfl rfl
 ·intro dn r0 K hd hdep hK w5 hB2
  have hB1 := hB2.q
  refine wp_load_mid 41 _ rfl d 18 rfl i.cells.toList _ hB1.b.ri Tryz.underlying41 rfl (by rw [Array.length_toList, Ins.size]; exact Ybb) ?_
  rw [Array.toArray_toList]
  exact hK _ (hB2.same _ (by decide) (by decide))
 ·exact ⟨_, rfl⟩
 iterate 3
  apply Yc rfl rfl
  ·intro dn r0 K hd hdep hK w5 hB2
   have hB1 := hB2.q
   skip
   have HB := Yh_ hB2
   clear hB1 hB2 hdep
   go_wp2_with fail
   first
   |exact hK _ (HB.out.same _ (by decide) (by decide))
   |exact HB.out.same _ (by decide) (by decide)
  ·exact ⟨_, rfl⟩
 refine Yy rfl (fun _ => rfl) 2 rfl (by simp [Act.put]) ?_ ?_
 ·intro dn r0 K hd w5 hB2 hK
  have HB := Yh_ hB2
  clear hB2
  simp only [Yn]
  go_wp2_with fail
  first
  |exact hK (.pointer (some ⟨w5.heap.size, 0, none⟩)) _ (HB.out.lay hd (by decide))
  |exact HB.out.lay hd (by decide)
 apply Yab rfl (fun _ => rfl)
 ·intro dn r0 K hd hdep hK w5 hB2
  have h8 : dn 7 = true := hdep ⟨7, .data⟩ (by simp) rfl
  obtain ⟨g0, e1, e2, e3⟩ := hB2.x h8
  refine Yb5 i g0 _ _ rfl (by show r0 7 = _; exact e1) rfl e3 (by split <;> exact Ins.size _) ?_
  intro w6 hw
  rw [← hw]
  exact hK _ (hB2.put h8 e1 (by rintro c (rfl | rfl) <;> exact Ydv _ i rfl) (by decide))
 ·exact ⟨_, fun _ => rfl, rfl⟩
 refine Yak (fun _ r0 w6 dn hall hB2 => ?_)
 obtain ⟨g, e1, hB1, hgl⟩ := hB2.fin (hall 7 (by decide))
 rw [hall 8 (by decide), if_pos rfl] at hB1
 show wpList _ _ _ _ (Act.put (Yn _ _ [] _) (some 2) (r0 7)) _
 rw [e1]
 simp only [Yn]
 clear e1 hall hB2
 have ci := hB1.ins; unfold Ins.cells at ci
 have H3 := Yh_ hB1
 clear hB1 hgl
 go_wp2_with fail
 refine Yam 6 (Dq w d a pb s i M [(g, .cells i.cells 41 (0, 0))]) (fun _ _ => False) (by kernel_rfl) (by decide +kernel) H3.out.drew (fun _ _ _ h => h.elim) ?_
 simp only [List.take_succ_cons, List.take_zero, List.drop_succ_cons, List.drop_zero]
 iterate 6
  apply Yv rfl rfl
  ·intro K hK w5 hB1
   have ci := hB1.ins; unfold Ins.cells at ci; have c10 : w5.cell? ⟨d, 10, none⟩ = some (.bool s.cf) := hB1.b.cell 10; have c11 : w5.cell? ⟨d, 11, none⟩ = some (.bool s.pf) := hB1.b.cell 11; have c12 : w5.cell? ⟨d, 12, none⟩ = some (.bool s.af) := hB1.b.cell 12; have c13 : w5.cell? ⟨d, 13, none⟩ = some (.bool s.zf) := hB1.b.cell 13; have c14 : w5.cell? ⟨d, 14, none⟩ = some (.bool s.sf) := hB1.b.cell 14; have c15 : w5.cell? ⟨d, 15, none⟩ = some (.bool s.of_) := hB1.b.cell 15
   have HB := Yh_ hB1
   clear hB1
   go_wp2_with fail
   first
   |exact hK _ HB.out
   |exact HB.out
  ·exact ⟨_, rfl⟩
 refine Yad (fun _ w6 hB1 => ?_)
 have H5 := Yh_ hB1
 clear hB1 H3 ci
 go_wp2_with (first | (have _t := H5; clear _t; go_at_call 82; refine (Yc6 s.fl i.cond _).mono ?_; rintro e w7 ⟨rfl, hu⟩; rw [HC.out]; have H6 := Yh_ (H5.out.quiet hu); have ci := H6.out.ins; unfold Ins.cells at ci; clear hu H5) | (have _t := H6; clear _t; go_at_call 49; refine (Yft d a pb s i M i.a 1 0 _ H6.out.b HI.out.a (by decide) HK.out).mono ?_; rintro e w7 ⟨rfl, hd, hu⟩; have H7 := Yh_ (H6.out.next hd hu); clear hd hu H6))
 go_end0
 exact ⟨rfl, H7.out.b, H7.out.u⟩
theorem Yg5 (d a pb : Nat) (s : St) (i : Ins) (M : Mem) (w : World) (h : Yr w d a pb s i M) (hop : i.op = 34) (hc : Ybg s.fl i.cond = false) (hk : Yb6 M s i.a 1 = false) :
  Calls Tryz.prog 54 #[.pointer (some ⟨d, 0, none⟩)] w fun e w' => e = .panicked [{ v := .iface 35 (Ych M s i.a 1).val, recovered := false }] ∧ Ym w' a pb (opM M s i.a 1 0) ∧ Upd [d, pb] w w' := by
 have HD := Yh_ h
 have HI := Yh_ h.io
 have HC := Yh_ hc
 have HK := Yh_ hk
 clear hc hk
 clear h
 go_enter Tryz.func54, Tryz.ntmps54
 go_wp2_with fail
 refine Yar 9 (Dg w d a pb s i M [] _ 7 8 41 Ins.zero.cells i.cells) (fun _ _ => False) (by kernel_rfl) (by decide +kernel) (fun r0 => Dg.start (Dq.of HD.out) 7 8 41 Ins.zero.cells i.cells r0) (fun _ _ _ h => h.elim) ?_
 simp only [List.take_succ_cons, List.take_zero, List.drop_succ_cons, List.drop_zero]
 iterate 3
  apply Yc rfl rfl
  ·intro dn r0 K hd hdep hK w5 hB2
   have hB1 := hB2.q
   skip
   have HB := Yh_ hB2
   clear hB1 hB2 hdep
   go_wp2_with fail
   first
   |exact hK _ (HB.out.same _ (by decide) (by decide))
   |exact HB.out.same _ (by decide) (by decide)
  ·exact ⟨_, rfl⟩
 apply Yc rfl rfl
 ·intro dn r0 K hd hdep hK w5 hB2
  have hB1 := hB2.q
  refine wp_load_mid 41 _ rfl d 18 rfl i.cells.toList _ hB1.b.ri Tryz.underlying41 rfl (by rw [Array.length_toList, Ins.size]; exact Ybb) ?_
  rw [Array.toArray_toList]
  exact hK _ (hB2.same _ (by decide) (by decide))
 ·exact ⟨_, rfl⟩
 iterate 3
  apply Yc rfl rfl
  ·intro dn r0 K hd hdep hK w5 hB2
   have hB1 := hB2.q
   skip
   have HB := Yh_ hB2
   clear hB1 hB2 hdep
   go_wp2_with fail
   first
   |exact hK _ (HB.out.same _ (by decide) (by decide))
   |exact HB.out.same _ (by decide) (by decide)
  ·exact ⟨_, rfl⟩
 refine Yy rfl (fun _ => rfl) 2 rfl (by simp [Act.put]) ?_ ?_
 ·intro dn r0 K hd w5 hB2 hK
  have HB := Yh_ hB2
  clear hB2
  simp only [Yn]
  go_wp2_with fail
  first
  |exact hK (.pointer (some ⟨w5.heap.size, 0, none⟩)) _ (HB.out.lay hd (by decide))
  |exact HB.out.lay hd (by decide)
 apply Yab rfl (fun _ => rfl)
 ·intro dn r0 K hd hdep hK w5 hB2
  have h8 : dn 7 = true := hdep ⟨7, .data⟩ (by simp) rfl
  obtain ⟨g0, e1, e2, e3⟩ := hB2.x h8
  refine Yb5 i g0 _ _ rfl (by show r0 7 = _; exact e1) rfl e3 (by split <;> exact Ins.size _) ?_
  intro w6 hw
  rw [← hw]
  exact hK _ (hB2.put h8 e1 (by rintro c (rfl | rfl) <;> exact Ydv _ i rfl) (by decide))
 ·exact ⟨_, fun _ => rfl, rfl⟩
 refine Yak (fun _ r0 w6 dn hall hB2 => ?_)
 obtain ⟨g, e1, hB1, hgl⟩ := hB2.fin (hall 7 (by decide))
 rw [hall 8 (by decide), if_pos rfl] at hB1
 show wpList _ _ _ _ (Act.put (Yn _ _ [] _) (some 2) (r0 7)) _
 rw [e1]
 simp only [Yn]
 clear e1 hall hB2
 have ci := hB1.ins; unfold Ins.cells at ci
 have H3 := Yh_ hB1
 clear hB1 hgl
 go_wp2_with fail
 refine Yam 6 (Dq w d a pb s i M [(g, .cells i.cells 41 (0, 0))]) (fun _ _ => False) (by kernel_rfl) (by decide +kernel) H3.out.drew (fun _ _ _ h => h.elim) ?_
 simp only [List.take_succ_cons, List.take_zero, List.drop_succ_cons, List.drop_zero]
 iterate 6
  apply Yv rfl rfl
  ·intro K hK w5 hB1
   have ci := hB1.ins; unfold Ins.cells at ci; have c10 : w5.cell? ⟨d, 10, none⟩ = some (.bool s.cf) := hB1.b.cell 10; have c11 : w5.cell? ⟨d, 11, none⟩ = some (.bool s.pf) := hB1.b.cell 11; have c12 : w5.cell? ⟨d, 12, none⟩ = some (.bool s.af) := hB1.b.cell 12; have c13 : w5.cell? ⟨d, 13, none⟩ = some (.bool s.zf) := hB1.b.cell 13; have c14 : w5.cell? ⟨d, 14, none⟩ = some (.bool s.sf) := hB1.b.cell 14; have c15 : w5.cell? ⟨d, 15, none⟩ = some (.bool s.of_) := hB1.b.cell 15
   have HB := Yh_ hB1
   clear hB1
   go_wp2_with fail
   first
   |exact hK _ HB.out
   |exact HB.out
  ·exact ⟨_, rfl⟩
 refine Yad (fun _ w6 hB1 => ?_)
 have H5 := Yh_ hB1
 clear hB1 H3 ci
 go_wp2_with (first | (have _t := H5; clear _t; go_at_call 82; refine (Yc6 s.fl i.cond _).mono ?_; rintro e w7 ⟨rfl, hu⟩; rw [HC.out]; have H6 := Yh_ (H5.out.quiet hu); have ci := H6.out.ins; unfold Ins.cells at ci; clear hu H5) | (have _t := H6; clear _t; go_at_call 49; refine (Ygn d a pb s i M i.a 1 0 _ H6.out.b HI.out.a (by decide) HK.out).mono ?_; rintro e w7 ⟨rfl, hd, hu⟩; have H7 := Yh_ (H6.out.next hd (hu.mono (T := [d, pb]) (by simp))); clear hd hu H6))
 exact ⟨rfl, rfl, H7.out.b.m, H7.out.u⟩
theorem Yk9 (d a pb : Nat) (s : St) (i : Ins) (M : Mem) (w : World) (h : Yr w d a pb s i M) (hop : i.op = 35) (hr : opK M s i.b 4 = true) (hc : Ybg s.fl i.cond = false) :
  Calls Tryz.prog 54 #[.pointer (some ⟨d, 0, none⟩)] w fun e w' => e = .returned (.tuple #[]) ∧ Yr w' d a pb (s) i (M) ∧ Upd [d, pb] w w' := by
 have HD := Yh_ h
 have HI := Yh_ h.io
 have HV := Yh_ (Ydj h i.b h.io.b 4)
 have HR := Yh_ hr
 have HC := Yh_ hc
 clear hr hc
 clear h
 go_enter Tryz.func54, Tryz.ntmps54
 go_wp2_with fail
 refine Yar 9 (Dg w d a pb s i M [] _ 7 8 41 Ins.zero.cells i.cells) (fun _ _ => False) (by kernel_rfl) (by decide +kernel) (fun r0 => Dg.start (Dq.of HD.out) 7 8 41 Ins.zero.cells i.cells r0) (fun _ _ _ h => h.elim) ?_
 simp only [List.take_succ_cons, List.take_zero, List.drop_succ_cons, List.drop_zero]
 iterate 3
  apply Yc rfl rfl
  ·intro dn r0 K hd hdep hK w5 hB2
   have hB1 := hB2.q
   skip
   have HB := Yh_ hB2
   clear hB1 hB2 hdep
   go_wp2_with fail
   first
   |exact hK _ (HB.out.same _ (by decide) (by decide))
   |exact HB.out.same _ (by decide) (by decide)
  ·exact ⟨_, rfl⟩
 apply Yc rfl rfl
 ·intro dn r0 K hd hdep hK w5 hB2
  have hB1 := hB2.q
  refine wp_load_mid 41 _ rfl d 18 rfl i.cells.toList _ hB1.b.ri Tryz.underlying41 rfl (by rw [Array.length_toList, Ins.size]; exact Ybb) ?_
  rw [Array.toArray_toList]
  exact hK _ (hB2.same _ (by decide) (by decide))
 ·exact ⟨_, rfl⟩
 iterate 3
  apply Yc rfl rfl
  ·intro dn r0 K hd hdep hK w5 hB2
   have hB1 := hB2.q
   skip
   have HB := Yh_ hB2
   clear hB1 hB2 hdep
   go_wp2_with fail
   first
   |exact hK _ (HB.out.same _ (by decide) (by decide))
   |exact HB.out.same _ (by decide) (by decide)
  ·exact ⟨_, rfl⟩
 refine Yy rfl (fun _ => rfl) 2 rfl (by simp [Act.put]) ?_ ?_
 ·intro dn r0 K hd w5 hB2 hK
  have HB := Yh_ hB2
  clear hB2
  simp only [Yn]
  go_wp2_with fail
  first
  |exact hK (.pointer (some ⟨w5.heap.size, 0, none⟩)) _ (HB.out.lay hd (by decide))
  |exact HB.out.lay hd (by decide)
 apply Yab rfl (fun _ => rfl)
 ·intro dn r0 K hd hdep hK w5 hB2
  have h8 : dn 7 = true := hdep ⟨7, .data⟩ (by simp) rfl
  obtain ⟨g0, e1, e2, e3⟩ := hB2.x h8
  refine Yb5 i g0 _ _ rfl (by show r0 7 = _; exact e1) rfl e3 (by split <;> exact Ins.size _) ?_
  intro w6 hw
  rw [← hw]
  exact hK _ (hB2.put h8 e1 (by rintro c (rfl | rfl) <;> exact Ydv _ i rfl) (by decide))
 ·exact ⟨_, fun _ => rfl, rfl⟩
 refine Yak (fun _ r0 w6 dn hall hB2 => ?_)
 obtain ⟨g, e1, hB1, hgl⟩ := hB2.fin (hall 7 (by decide))
 rw [hall 8 (by decide), if_pos rfl] at hB1
 show wpList _ _ _ _ (Act.put (Yn _ _ [] _) (some 2) (r0 7)) _
 rw [e1]
 simp only [Yn]
 clear e1 hall hB2
 have ci := hB1.ins; unfold Ins.cells at ci
 have H3 := Yh_ hB1
 clear hB1 hgl
 go_wp2_with (have _t := H3; clear _t; go_at_call 48; refine (Yd0 d a pb s i M i.b 4 _ H3.out.b HI.out.b HR.out).mono ?_; rintro e w6 ⟨rfl, hu⟩; have H4 := Yh_ (H3.out.quiet hu); clear hu H3 ci)
 refine Yam 6 (Dq w d a pb s i M [(g, .cells i.cells 41 (0, 0))]) (fun _ _ => False) (by kernel_rfl) (by decide +kernel) H4.out.drew (fun _ _ _ h => h.elim) ?_
 simp only [List.take_succ_cons, List.take_zero, List.drop_succ_cons, List.drop_zero]
 iterate 6
  apply Yv rfl rfl
  ·intro K hK w5 hB1
   have ci := hB1.ins; unfold Ins.cells at ci; have c10 : w5.cell? ⟨d, 10, none⟩ = some (.bool s.cf) := hB1.b.cell 10; have c11 : w5.cell? ⟨d, 11, none⟩ = some (.bool s.pf) := hB1.b.cell 11; have c12 : w5.cell? ⟨d, 12, none⟩ = some (.bool s.af) := hB1.b.cell 12; have c13 : w5.cell? ⟨d, 13, none⟩ = some (.bool s.zf) := hB1.b.cell 13; have c14 : w5.cell? ⟨d, 14, none⟩ = some (.bool s.sf) := hB1.b.cell 14; have c15 : w5.cell? ⟨d, 15, none⟩ = some (.bool s.of_) := hB1.b.cell 15
   have HB := Yh_ hB1
   clear hB1
   go_wp2_with fail
   first
   |exact hK _ HB.out
   |exact HB.out
  ·exact ⟨_, rfl⟩
 refine Yad (fun _ w6 hB1 => ?_)
 have H5 := Yh_ hB1
 clear hB1 H4
 go_wp2_with (have _t := H5; clear _t; go_at_call 82; refine (Yc6 s.fl i.cond _).mono ?_; rintro e w7 ⟨rfl, hu⟩; rw [HC.out]; have H6 := Yh_ (H5.out.quiet hu); have ci := H6.out.ins; unfold Ins.cells at ci; clear hu H5)
 go_end0
 exact ⟨rfl, H6.out.b, H6.out.u⟩
theorem Yjk (d a pb : Nat) (s : St) (i : Ins) (M : Mem) (w : World) (h : Yr w d a pb s i M) (hop : i.op = 35) (hr : opK M s i.b 4 = false) :
  Calls Tryz.prog 54 #[.pointer (some ⟨d, 0, none⟩)] w fun e w' => e = .panicked [{ v := .iface 35 (opF M s i.b 4).val, recovered := false }] ∧ Ym w' a pb (M) ∧ Upd [d, pb] w w' := by
 have HD := Yh_ h
 have HI := Yh_ h.io
 have HR := Yh_ hr
 clear hr
 clear h
 go_enter Tryz.func54, Tryz.ntmps54
 go_wp2_with fail
 refine Yar 9 (Dg w d a pb s i M [] _ 7 8 41 Ins.zero.cells i.cells) (fun _ _ => False) (by kernel_rfl) (by decide +kernel) (fun r0 => Dg.start (Dq.of HD.out) 7 8 41 Ins.zero.cells i.cells r0) (fun _ _ _ h => h.elim) ?_
 simp only [List.take_succ_cons, List.take_zero, List.drop_succ_cons, List.drop_zero]
 iterate 3
  apply Yc rfl rfl
  ·intro dn r0 K hd hdep hK w5 hB2
   have hB1 := hB2.q
   skip
   have HB := Yh_ hB2
   clear hB1 hB2 hdep
   go_wp2_with fail
   first
   |exact hK _ (HB.out.same _ (by decide) (by decide))
   |exact HB.out.same _ (by decide) (by decide)
  ·exact ⟨_, rfl⟩
 apply Yc rfl rfl
 ·intro dn r0 K hd hdep hK w5 hB2
  have hB1 := hB2.q
  refine wp_load_mid 41 _ rfl d 18 rfl i.cells.toList _ hB1.b.ri Tryz.underlying41 rfl (by rw [Array.length_toList, Ins.size]; exact Ybb) ?_
  rw [Array.toArray_toList]
  exact hK _ (hB2.same _ (by decide) (by decide))
 ·exact ⟨_, rfl⟩
 iterate 3
  apply Yc rfl rfl
  ·intro dn r0 K hd hdep hK w5 hB2
   have hB1 := hB2.q
   skip
   have HB := Yh_ hB2
   clear hB1 hB2 hdep
   go_wp2_with fail
   first
   |exact hK _ (HB.out.same _ (by decide) (by decide))
   |exact HB.out.same _ (by decide) (by decide)
  ·exact ⟨_, rfl⟩
 refine Yy rfl (fun _ => rfl) 2 rfl (by simp [Act.put]) ?_ ?_
 ·intro dn r0 K hd w5 hB2 hK
  have HB := Yh_ hB2
  clear hB2
  simp only [Yn]
  go_wp2_with fail
  first
  |exact hK (.pointer (some ⟨w5.heap.size, 0, none⟩)) _ (HB.out.lay hd (by decide))
  |exact HB.out.lay hd (by decide)
 apply Yab rfl (fun _ => rfl)
 ·intro dn r0 K hd hdep hK w5 hB2
  have h8 : dn 7 = true := hdep ⟨7, .data⟩ (by simp) rfl
  obtain ⟨g0, e1, e2, e3⟩ := hB2.x h8
  refine Yb5 i g0 _ _ rfl (by show r0 7 = _; exact e1) rfl e3 (by split <;> exact Ins.size _) ?_
  intro w6 hw
  rw [← hw]
  exact hK _ (hB2.put h8 e1 (by rintro c (rfl | rfl) <;> exact Ydv _ i rfl) (by decide))
 ·exact ⟨_, fun _ => rfl, rfl⟩
 refine Yak (fun _ r0 w6 dn hall hB2 => ?_)
 obtain ⟨g, e1, hB1, hgl⟩ := hB2.fin (hall 7 (by decide))
 rw [hall 8 (by decide), if_pos rfl] at hB1
 show wpList _ _ _ _ (Act.put (Yn _ _ [] _) (some 2) (r0 7)) _
 rw [e1]
 simp only [Yn]
 clear e1 hall hB2
 have ci := hB1.ins; unfold Ins.cells at ci
 have H3 := Yh_ hB1
 clear hB1 hgl
 go_wp2_with (have _t := H3; clear _t; go_at_call 48; refine (Yi9 d a pb s i M i.b 4 _ H3.out.b HI.out.b HR.out).mono ?_; rintro e w6 ⟨rfl, hu⟩; have H4 := Yh_ (H3.out.quiet hu); clear hu H3 ci)
 exact ⟨rfl, rfl, H4.out.b.m, H4.out.u⟩
section
structure AlW (w : World) (f g : Fl) (w1 : World) : Prop where
 z7 : w1.heap[w.heap.size]? = some (.cells f.cells 25 (0, 0))
 z9 : w1.heap[w.heap.size + 1]? = some (.cells Fl.zero.cells 25 (0, 0))
 z10 : w1.heap[w.heap.size + 1 + 1]? = some (.cells g.cells 25 (0, 0))
 u : Upd [] w w1
section
variable {w w1 w2 : World} {f g : Fl}
theorem AlW.of (w : World) (f g : Fl) : AlW w f g (((w.alloc (.cells f.cells 25)).alloc (.cells Fl.zero.cells 25)).alloc (.cells g.cells 25)) := by
 have h2 := heap_alloc_new ((w.alloc (.cells f.cells 25)).alloc (.cells Fl.zero.cells 25)) (.cells g.cells 25)
 rw [show ((w.alloc (.cells f.cells 25)).alloc (.cells Fl.zero.cells 25)).heap.size = w.heap.size + 1 + 1 from by simp] at h2
 exact ⟨Yk _ (heap_alloc2_old _ _ _), Yk _ (heap_alloc2_new _ _ _), h2, (((Upd.refl [] w).alloc _).alloc _).alloc _⟩
theorem AlW.drew (h : AlW w f g w1) : AlW w f g w1.drew := by
 have u := (Upd.refl [] w1).drew
 exact ⟨u.get h.z7 (by simp), u.get h.z9 (by simp), u.get h.z10 (by simp), h.u.drew⟩
theorem AlW.quiet (h : AlW w f g w1) (u : Upd [] w1 w2) : AlW w f g w2 := ⟨u.get h.z7 (by simp), u.get h.z9 (by simp), u.get h.z10 (by simp), h.u.also u (by simp)⟩
theorem AlW.put (h : AlW w f g w1) (k : Nat) (x : Bool) (f' : Fl) (he : f.cells.setIfInBounds k (.bool x) = f'.cells) : AlW w f' g (w1.setCell ⟨w.heap.size, k, none⟩ (.bool x)) := by
 have u := (Upd.refl [w.heap.size] w1).setCell (p := ⟨w.heap.size, k, none⟩) (.inl (by simp)) (.bool x)
 exact ⟨by rw [← he]; exact Yg h.z7 k (.bool x), u.get h.z9 (by simp), u.get h.z10 (by simp <;> omega), h.u.setCell (p := ⟨w.heap.size, k, none⟩) (.inr (Nat.le_refl _)) _⟩
theorem AlW.st (h : AlW w f g w1) (x0 x1 x2 x3 x4 x5 : Bool) : AlW w ⟨x0, x1, x2, x3, x4, x5⟩ g ((((((w1.setCell ⟨w.heap.size, 0, none⟩ (.bool x0)).setCell ⟨w.heap.size, 1, none⟩ (.bool x1)).setCell ⟨w.heap.size, 2, none⟩ (.bool x2)).setCell ⟨w.heap.size, 3, none⟩ (.bool x3)).setCell ⟨w.heap.size, 4, none⟩ (.bool x4)).setCell ⟨w.heap.size, 5, none⟩ (.bool x5)) := by
 have u := Ybc (S := [w.heap.size]) (b := w.heap.size) (Upd.refl _ w1) (.inl (by simp)) (.bool x0) (.bool x1) (.bool x2) (.bool x3) (.bool x4) (.bool x5)
 exact ⟨Ycf h.z7 _ _ _ _ _ _, u.get h.z9 (by simp), u.get h.z10 (by simp <;> omega), Ybc h.u (.inr (Nat.le_refl _)) _ _ _ _ _ _⟩
end
end
section
structure DrF (w : World) (d a pb cb : Nat) (s : St) (i : Ins) (M : Mem) (f : Nat) (dn : Nat → Bool) (r : Nat → Value) (w1 : World) : Prop where
 b : Yr w1 d a pb s i M
 o : w1.heap[cb]? = some (.cells i.cells 41 (0, 0))
 u : Upd [d, pb] w w1
 y : dn f = true → ∃ g, r f = .pointer (some ⟨g, 0, none⟩) ∧ cb < g ∧ w1.heap[g]? = some (.cells Fl.zero.cells 25 (0, 0))
section
variable {w w1 w2 : World} {d a pb cb : Nat} {s : St} {i : Ins} {M : Mem} {f : Nat} {dn : Nat → Bool} {r : Nat → Value}
theorem DrF.start (h : Yr w1 d a pb s i M) (ho : w1.heap[cb]? = some (.cells i.cells 41 (0, 0))) (u : Upd [d, pb] w w1) (r : Nat → Value) : DrF w d a pb cb s i M f (fun _ => false) r w1.drew :=
 ⟨h.keep (Upd.refl [] _).drew (by simp) (by simp) (by simp), ((Upd.refl [] _).drew).get ho (by simp), u.drew, fun h => (by cases h)⟩
theorem DrF.quiet (h : DrF w d a pb cb s i M f dn r w1) (u : Upd [] w1 w2) (m : Nat) (h1 : f ≠ m) : DrF w d a pb cb s i M f (Yaf dn m) r w2 := by
 refine ⟨h.b.keep u (by simp) (by simp) (by simp), u.get h.o (by simp), h.u.also u (by simp), fun hy => ?_⟩
 rw [Yo h1] at hy
 obtain ⟨g, e1, e2, e3⟩ := h.y hy
 exact ⟨g, e1, e2, u.get e3 (by simp)⟩
theorem DrF.same (h : DrF w d a pb cb s i M f dn r w1) (m : Nat) (h1 : f ≠ m) : DrF w d a pb cb s i M f (Yaf dn m) r w1 := h.quiet (Upd.refl [] w1) m h1
theorem DrF.lay (h : DrF w d a pb cb s i M f dn r w1) : DrF w d a pb cb s i M f (Yaf dn f) (Ycu r f (.pointer (some ⟨w1.heap.size, 0, none⟩))) (w1.alloc (.cells #[.bool false, .bool false, .bool false, .bool false, .bool false, .bool false] 25)) := by
 have u := (Upd.refl [] w1).alloc (.cells #[.bool false, .bool false, .bool false, .bool false, .bool false, .bool false] 25)
 exact ⟨h.b.keep u (by simp) (by simp) (by simp), u.get h.o (by simp), h.u.also u (by simp), fun _ => ⟨_, Yfn, Yi h.o, heap_alloc_new _ _⟩⟩
theorem dr_setfl (a : Nat) (s : St) (i : Ins) (F : Fl) : wr (Ybq a s i) 10 F.cells.toList = Ybq a (s.setFl F) i := by kernel_rfl
theorem Yr.putFl (h : Yr w d a pb s i M) (F : Fl) : Yr (w.setCells d 10 F.cells.toList) d a pb (s.setFl F) i M := by
 refine ⟨?_, h.m.keep ((Upd.refl [d] w).setCells (.inl (by simp)) _ _) (by simpa using fun e => h.na e.symm) (by simpa using fun e => h.np e.symm), ⟨h.ok.R, h.ok.pc, h.ok.f⟩, h.io, h.na, h.np⟩
 rw [Yag _ _ _ _ h.h, dr_setfl]
theorem fl_one (F : Fl) : F.cells.all (·.oneCell') = true := by simp [Fl.cells, Value.oneCell']
theorem fl_new {g : Nat} {F G : Fl} {t : TypeId} (hw : w.setCells g 0 F.cells.toList = w2) (hb : w.heap[g]? = some (.cells G.cells t (0, 0))) : w2.heap[g]? = some (.cells F.cells t (0, 0)) ∧ Upd [g] w w2 := by
 subst hw
 exact ⟨by rw [Yag _ _ _ _ hb]; rfl, (Upd.refl [g] w).setCells (.inl (by simp)) _ _⟩
end
theorem Ym2 (d a pb : Nat) (s : St) (i : Ins) (M : Mem) (w : World) (h : Yr w d a pb s i M) (hop : 12 ≤ i.op ∧ i.op ≤ 15) (hc : Yfl M s i.a 4 3 = true) (hr : opK M s i.a 4 = true)
  (hw : Yb6 M (s.setFl (Ybk i.op (opV M s i.a 4) 0 s.fl)) i.a 4 = true) :
  Calls Tryz.prog 32 #[.pointer (some ⟨d, 0, none⟩)] w fun e w' => e = .returned (.tuple #[]) ∧ Yr w' d a pb (opS (s.setFl (Ybk i.op (opV M s i.a 4) 0 s.fl)) i.a 4 (Ybw i.op (opV M s i.a 4) 0 s.fl)) i (opM M (s.setFl (Ybk i.op (opV M s i.a 4) 0 s.fl)) i.a 4 (Ybw i.op (opV M s i.a 4) 0 s.fl)) ∧ Upd [d, pb] w w' := by
 have HRV := Yh_ (Ydj h i.a h.io.a 4)
 have HD := Yh_ h
 have tokL : True := trivial
 have tokS : True := trivial
 obtain ⟨op, ho⟩ : ∃ op, i.op = op := ⟨_, rfl⟩
 rw [ho] at hop hw ⊢
 have e1 : decide (3 ≤ op) = true := by simp; omega
 have e2 : decide (op ≤ 11) = false := by simp; omega
 have e3 : decide (12 ≤ op) = true := by simp; omega
 have e4 : decide (op ≤ 15) = true := by simp; omega
 have HI := Yh_ h.io
 have HOP := Yh_ (show Yh2 op = true by simp only [Yh2, Bool.and_eq_true, decide_eq_true_eq]; omega)
 obtain ⟨v, hv⟩ : ∃ v, opV M s i.a 4 = v := ⟨_, rfl⟩
 rw [hv] at hw HRV ⊢
 obtain ⟨V, hV⟩ : ∃ V, Ybw op v 0 s.fl = V := ⟨_, rfl⟩
 have HVR := Yh_ (show 0 ≤ V ∧ V < 4294967296 from hV ▸ Yoe op v 0 s.fl HRV.out (by decide))
 obtain ⟨⟨x0, x1, x2, x3, x4, x5⟩, hF⟩ : ∃ F, Ybk op v 0 s.fl = F := ⟨_, rfl⟩
 rw [hF] at hw ⊢
 rw [hV]
 have HC := Yh_ (And.intro hc (And.intro hr (And.intro hw (And.intro hv (And.intro hV hF)))))
 have HCC := Yh_ hc
 clear h hop hc hr hw hv hV hF
 go_enter Tryz.func32, Tryz.ntmps32
 go_wp2_with (first | (have _t := tokL; clear _t tokL; refine Yaq 41 rfl ?_; refine wpList_load_mid rfl 41 _ rfl d 18 rfl i.cells.toList _ HD.out.ri Tryz.underlying41 rfl (by rw [Array.length_toList, Ins.size]; exact Ybb) ?_; rw [Array.toArray_toList]) | (have _t := tokS; clear _t tokS; refine Ye 41 rfl ?_; refine Yd i w.heap.size rfl _ _ rfl rfl rfl (heap_alloc_new w (.cells Ins.zero.cells 41)) rfl ?_; intro w3 hw; have h3 := Yej HD.out hw; have ci := Ya h3.2.1; unfold Ins.cells at ci; have H3 := Yh_ h3; clear hw h3) | (have _t := H3; clear _t; go_at_call 46; refine (dboth_ok d a pb s i M i.a _ H3.out.1 HCC.out).mono ?_; rintro e w4 ⟨rfl, hu⟩; have H4 := Yh_ (And.intro (H3.out.1.keep hu (by simp) (by simp) (by simp)) (And.intro (hu.get H3.out.2.1 (by simp)) (H3.out.2.2.also hu (by simp)))); clear hu H3 ci))
 refine Yar 16 (DrF w d a pb w.heap.size s i M 14) (fun _ _ => False) (by kernel_rfl) (by decide +kernel) (fun r0 => DrF.start H4.out.1 H4.out.2.1 H4.out.2.2 r0) (fun _ _ _ h => h.elim) ?_
 simp only [List.take_succ_cons, List.take_zero, List.drop_succ_cons, List.drop_zero]
 iterate 4
  apply Yc rfl rfl
  ·intro dn r0 K hd hdep hK w5 hB1
   have c10 : w5.cell? ⟨d, 10, none⟩ = some (.bool s.cf) := hB1.b.cell 10
   have c11 : w5.cell? ⟨d, 11, none⟩ = some (.bool s.pf) := hB1.b.cell 11
   have c12 : w5.cell? ⟨d, 12, none⟩ = some (.bool s.af) := hB1.b.cell 12
   have c13 : w5.cell? ⟨d, 13, none⟩ = some (.bool s.zf) := hB1.b.cell 13
   have c14 : w5.cell? ⟨d, 14, none⟩ = some (.bool s.sf) := hB1.b.cell 14
   have c15 : w5.cell? ⟨d, 15, none⟩ = some (.bool s.of_) := hB1.b.cell 15
   have ci := Ya hB1.o
   unfold Ins.cells at ci
   have HB := Yh_ hB1
   clear hB1 hdep
   go_wp2_with fail
   first
   |exact hK _ (HB.out.same _ (by decide))
   |exact HB.out.same _ (by decide)
  ·exact ⟨_, rfl⟩
 apply Yc rfl rfl
 ·intro dn r0 K hd hdep hK w5 hB1
  have HB := Yh_ hB1
  clear hB1 hdep
  go_wp2_with (go_at_call 48; refine (Yd0 d a pb s i M i.a 4 _ HB.out.b HI.out.a HC.out.2.1).mono ?_; rintro e w6 ⟨rfl, hu⟩; rw [HC.out.2.2.2.1])
  first
  |exact hK _ (HB.out.quiet hu _ (by decide))
  |exact HB.out.quiet hu _ (by decide)
 ·exact ⟨_, rfl⟩
 iterate 5
  apply Yc rfl rfl
  ·intro dn r0 K hd hdep hK w5 hB1
   have c10 : w5.cell? ⟨d, 10, none⟩ = some (.bool s.cf) := hB1.b.cell 10
   have c11 : w5.cell? ⟨d, 11, none⟩ = some (.bool s.pf) := hB1.b.cell 11
   have c12 : w5.cell? ⟨d, 12, none⟩ = some (.bool s.af) := hB1.b.cell 12
   have c13 : w5.cell? ⟨d, 13, none⟩ = some (.bool s.zf) := hB1.b.cell 13
   have c14 : w5.cell? ⟨d, 14, none⟩ = some (.bool s.sf) := hB1.b.cell 14
   have c15 : w5.cell? ⟨d, 15, none⟩ = some (.bool s.of_) := hB1.b.cell 15
   have ci := Ya hB1.o
   unfold Ins.cells at ci
   have HB := Yh_ hB1
   clear hB1 hdep
   go_wp2_with fail
   first
   |exact hK _ (HB.out.same _ (by decide))
   |exact HB.out.same _ (by decide)
  ·exact ⟨_, rfl⟩
 apply Yc rfl rfl
 ·intro dn r0 K hd hdep hK w5 hB1
  have HB := Yh_ hB1
  clear hB1 hdep
  go_wp2_with (go_at_call 47; refine (Yor op v 0 s.fl _ HOP.out HRV.out (by decide)).mono ?_; rintro e w6 ⟨rfl, hu⟩; rw [HC.out.2.2.2.2.1, HC.out.2.2.2.2.2]; unfold Fl.cells)
  first
  |exact hK _ (HB.out.quiet hu _ (by decide))
  |exact HB.out.quiet hu _ (by decide)
 ·exact ⟨_, rfl⟩
 iterate 3
  apply Yc rfl rfl
  ·intro dn r0 K hd hdep hK w5 hB1
   have c10 : w5.cell? ⟨d, 10, none⟩ = some (.bool s.cf) := hB1.b.cell 10
   have c11 : w5.cell? ⟨d, 11, none⟩ = some (.bool s.pf) := hB1.b.cell 11
   have c12 : w5.cell? ⟨d, 12, none⟩ = some (.bool s.af) := hB1.b.cell 12
   have c13 : w5.cell? ⟨d, 13, none⟩ = some (.bool s.zf) := hB1.b.cell 13
   have c14 : w5.cell? ⟨d, 14, none⟩ = some (.bool s.sf) := hB1.b.cell 14
   have c15 : w5.cell? ⟨d, 15, none⟩ = some (.bool s.of_) := hB1.b.cell 15
   have ci := Ya hB1.o
   unfold Ins.cells at ci
   have HB := Yh_ hB1
   clear hB1 hdep
   go_wp2_with fail
   first
   |exact hK _ (HB.out.same _ (by decide))
   |exact HB.out.same _ (by decide)
  ·exact ⟨_, rfl⟩
 refine Yy rfl (fun _ => rfl) 5 rfl (by simp [Act.put]) ?_ ?_
 ·intro dn r0 K hd w5 hB1 hK
  have HB := Yh_ hB1
  clear hB1
  simp only [Yn]
  go_wp2_with fail
  first
  |exact hK (.pointer (some ⟨w5.heap.size, 0, none⟩)) _ HB.out.lay
  |exact HB.out.lay
 iterate 1
  apply Yab rfl (fun _ => rfl)
  ·intro dn r0 K hd hdep hK w5 hB1
   have c10 : w5.cell? ⟨d, 10, none⟩ = some (.bool s.cf) := hB1.b.cell 10
   have c11 : w5.cell? ⟨d, 11, none⟩ = some (.bool s.pf) := hB1.b.cell 11
   have c12 : w5.cell? ⟨d, 12, none⟩ = some (.bool s.af) := hB1.b.cell 12
   have c13 : w5.cell? ⟨d, 13, none⟩ = some (.bool s.zf) := hB1.b.cell 13
   have c14 : w5.cell? ⟨d, 14, none⟩ = some (.bool s.sf) := hB1.b.cell 14
   have c15 : w5.cell? ⟨d, 15, none⟩ = some (.bool s.of_) := hB1.b.cell 15
   have ci := Ya hB1.o
   unfold Ins.cells at ci
   have HB := Yh_ hB1
   clear hB1 hdep
   simp only [Yn]
   go_wp2_with fail
   first
   |exact hK _ (HB.out.same _ (by decide))
   |exact HB.out.same _ (by decide)
  ·exact ⟨_, fun _ => rfl, rfl⟩
 refine Yak (fun _ r0 w5 dn hall hB1 => ?_)
 obtain ⟨g, e1', e2', e3'⟩ := hB1.y (hall 14 (by decide))
 have ci := Ya hB1.o
 unfold Ins.cells at ci
 have hcb := Yi HD.out.h
 have hpb : pb < w.heap.size := by obtain ⟨C, _, hc⟩ := HD.out.m.pg; exact Yi hc
 have hab : a < w.heap.size := by obtain ⟨C, _, hc⟩ := HD.out.m.hd; exact Yi hc
 have H5 := Yh_ (And.intro hB1.b (And.intro hB1.o (And.intro hB1.u (And.intro e3' (And.intro e2' (And.intro hcb (And.intro hpb hab)))))))
 clear hB1 e3' hall e2' hcb hpb hab
 show wpList _ _ _ _ (Act.put (Yn _ _ [] _) (some 5) (r0 14)) _
 rw [e1']
 simp only [Yn]
 clear e1'
 go_wp2_with (first | (have _t := H5; clear _t; refine Ye 25 rfl ?_; refine Ye0 rfl 25 _ _ rfl g 0 (Fl.cells ⟨x0, x1, x2, x3, x4, x5⟩) rfl rfl H5.out.2.2.2.1 (show 0 + 6 ≤ 6 by decide) Yiq (fl_one _) ?_; intro w6 hw; have h6 := fl_new hw H5.out.2.2.2.1; have hl := H5.out.2.2.2.2; have cg := Ya h6.1; unfold Fl.cells at cg; have H6 := Yh_ (And.intro (H5.out.1.keep h6.2 (by simp; omega) (by simp; omega) (by simp; omega)) (And.intro (h6.2.get H5.out.2.1 (by simp; omega)) (H5.out.2.2.1.also (S' := [g]) h6.2 (by simp; omega)))); clear hw h6 hl H5 ci) | (have _t := H6; clear _t; refine Ye 25 rfl ?_; refine wpList_store_mid rfl 25 _ _ rfl d 10 (Fl.cells ⟨x0, x1, x2, x3, x4, x5⟩) rfl rfl (Ydz H6.out.1.h 10 6 (by rw [Yns]; decide)) Yiq (fl_one _) ?_; have u7 : Upd [d] w6 (w6.setCells d 10 (Fl.cells ⟨x0, x1, x2, x3, x4, x5⟩).toList) := (Upd.refl [d] w6).setCells (.inl (by simp)) _ _; have hcb := Yi HD.out.h; have hi7 := u7.get H6.out.2.1 (by simp; omega); have ci := Ya hi7; unfold Ins.cells at ci; have H7 := Yh_ (And.intro (H6.out.1.putFl ⟨x0, x1, x2, x3, x4, x5⟩) (H6.out.2.2.also u7 (by simp))); clear u7 hcb hi7 H6 cg) | (have _t := H7; clear _t; go_at_call 49; refine (Yft d a pb _ i M i.a 4 V _ H7.out.1 HI.out.a HVR.out HC.out.2.2.1).mono ?_; rintro e w8 ⟨rfl, hd, hu⟩; have H8 := Yh_ (And.intro hd (H7.out.2.also hu (fun x hx => .inl hx))); clear hd hu H7))
 go_end0
 exact ⟨rfl, H8.out.1, H8.out.2⟩
end
theorem Dq.copy {w w3 : World} {d a pb : Nat} {s : St} {i : Ins} {M : Mem} (h : Yr w d a pb s i M) (hw : (w.alloc (.cells Ins.zero.cells 41)).setCells w.heap.size 0 i.cells.toList = w3) : Dq w d a pb s i M [(w.heap.size, .cells i.cells 41 (0, 0))] w3 := by
 have h3 := Yej h hw
 have hpb : pb < w.heap.size := by obtain ⟨C, _, hc⟩ := h.m.pg; exact Yi hc
 have hd := h.lt
 exact ⟨h3.1, fun p hp => by rw [List.mem_singleton.1 hp]; exact h3.2.1, h3.2.2, fun p hp => by rw [List.mem_singleton.1 hp]; dsimp only; omega⟩
theorem Dq.putFl {w w1 : World} {d a pb : Nat} {s : St} {i : Ins} {M : Mem} {L : List (Nat × Obj)} (h : Dq w d a pb s i M L w1) (F : Fl) : Dq w d a pb (s.setFl F) i M L (w1.setCells d 10 F.cells.toList) :=
 h.next (h.b.putFl F) ((Upd.refl [d, pb] w1).setCells (.inl (by simp)) _ _)
theorem Yeq (d a pb : Nat) (s : St) (i : Ins) (M : Mem) (w : World) (h : Yr w d a pb s i M) (hop : 34 ≤ i.op ∧ i.op ≤ 44) (s2 : St) (M2 : Mem) (hj : ∀ w1, Yr w1 d a pb s i M → Calls Tryz.prog 54 #[.pointer (some ⟨d, 0, none⟩)] w1 fun e w' => e = .returned (.tuple #[]) ∧ Yr w' d a pb (s2) i (M2) ∧ Upd [d, pb] w1 w') :
  Calls Tryz.prog 32 #[.pointer (some ⟨d, 0, none⟩)] w fun e w' => e = .returned (.tuple #[]) ∧ Yr w' d a pb (s2) i (M2) ∧ Upd [d, pb] w w' := by
 have HI := Yh_ h.io
 have HD := Yh_ h
 have tokL : True := trivial
 have tokS : True := trivial
 obtain ⟨op, ho⟩ : ∃ op, i.op = op := ⟨_, rfl⟩
 rw [ho] at hop
 have e0 : decide (3 ≤ op) = true := by simp; omega
 have e1 : decide (op ≤ 11) = false := by simp; omega
 have e2 : decide (12 ≤ op) = true := by simp; omega
 have e3 : decide (op ≤ 15) = false := by simp; omega
 have e4 : decide (21 ≤ op) = true := by simp; omega
 have e5 : decide (op ≤ 25) = false := by simp; omega
 have e6 : decide (16 ≤ op) = true := by simp; omega
 have e7 : decide (op ≤ 20) = false := by simp; omega
 have e8 : decide (45 ≤ op) = false := by simp; omega
 have e9 : decide (28 ≤ op) = true := by simp; omega
 have e10 : decide (op ≤ 33) = false := by simp; omega
 have HJ := Yh_ hj
 clear h hj hop
 go_enter Tryz.func32, Tryz.ntmps32
 go_wp2_with (first | (have _t := tokL; clear _t tokL; refine Yaq 41 rfl ?_; refine wpList_load_mid rfl 41 _ rfl d 18 rfl i.cells.toList _ HD.out.ri Tryz.underlying41 rfl (by rw [Array.length_toList, Ins.size]; exact Ybb) ?_; rw [Array.toArray_toList]) | (have _t := tokS; clear _t tokS; refine Ye 41 rfl ?_; refine Yd i w.heap.size rfl _ _ rfl rfl rfl (heap_alloc_new w (.cells Ins.zero.cells 41)) rfl ?_; intro w3 hw; have h3 := Dq.copy HD.out hw; have ci := h3.ins; unfold Ins.cells at ci; have H3 := Yh_ h3; clear hw h3) | (have _t := H3; clear _t; go_at_call 54; refine (HJ.out _ H3.out.b).mono ?_; rintro e w5 ⟨rfl, hd, hu⟩; have H5 := Yh_ (And.intro hd (H3.out.u.also hu (fun x hx => .inl hx))); clear hd hu H3 ci))
 go_end0
 exact ⟨rfl, H5.out.1, H5.out.2⟩
theorem Yed (d a pb : Nat) (s : St) (i : Ins) (M : Mem) (w : World) (h : Yr w d a pb s i M) (hop : 34 ≤ i.op ∧ i.op ≤ 44) (M2 : Mem) (F : Flt) (hj : ∀ w1, Yr w1 d a pb s i M → Calls Tryz.prog 54 #[.pointer (some ⟨d, 0, none⟩)] w1 fun e w' => e = .panicked [{ v := .iface 35 (F).val, recovered := false }] ∧ Ym w' a pb (M2) ∧ Upd [d, pb] w1 w') :
  Calls Tryz.prog 32 #[.pointer (some ⟨d, 0, none⟩)] w fun e w' => e = .panicked [{ v := .iface 35 (F).val, recovered := false }] ∧ Ym w' a pb (M2) ∧ Upd [d, pb] w w' := by
 have HI := Yh_ h.io
 have HD := Yh_ h
 have tokL : True := trivial
 have tokS : True := trivial
 obtain ⟨op, ho⟩ : ∃ op, i.op = op := ⟨_, rfl⟩
 rw [ho] at hop
 have e0 : decide (3 ≤ op) = true := by simp; omega
 have e1 : decide (op ≤ 11) = false := by simp; omega
 have e2 : decide (12 ≤ op) = true := by simp; omega
 have e3 : decide (op ≤ 15) = false := by simp; omega
 have e4 : decide (21 ≤ op) = true := by simp; omega
 have e5 : decide (op ≤ 25) = false := by simp; omega
 have e6 : decide (16 ≤ op) = true := by simp; omega
 have e7 : decide (op ≤ 20) = false := by simp; omega
 have e8 : decide (45 ≤ op) = false := by simp; omega
 have e9 : decide (28 ≤ op) = true := by simp; omega
 have e10 : decide (op ≤ 33) = false := by simp; omega
 have HJ := Yh_ hj
 clear h hj hop
 go_enter Tryz.func32, Tryz.ntmps32
 go_wp2_with (first | (have _t := tokL; clear _t tokL; refine Yaq 41 rfl ?_; refine wpList_load_mid rfl 41 _ rfl d 18 rfl i.cells.toList _ HD.out.ri Tryz.underlying41 rfl (by rw [Array.length_toList, Ins.size]; exact Ybb) ?_; rw [Array.toArray_toList]) | (have _t := tokS; clear _t tokS; refine Ye 41 rfl ?_; refine Yd i w.heap.size rfl _ _ rfl rfl rfl (heap_alloc_new w (.cells Ins.zero.cells 41)) rfl ?_; intro w3 hw; have h3 := Dq.copy HD.out hw; have ci := h3.ins; unfold Ins.cells at ci; have H3 := Yh_ h3; clear hw h3) | (have _t := H3; clear _t; go_at_call 54; refine (HJ.out _ H3.out.b).mono ?_; rintro e w5 ⟨rfl, hd, hu⟩; have H5 := Yh_ (And.intro hd (H3.out.u.also hu (fun x hx => .inl hx))); clear hd hu H3 ci))
 exact ⟨rfl, rfl, H5.out.1, H5.out.2⟩
end Go.Proofs.YthakgjpejhjaoaaGreat
