/-
  Parts of the proof (their names shortened by a program). No condition.
-/
import Derived.Test.YthakgjpejhjaoaaGreatMg01
import Derived.Test.YthakgjpejhjaoaaGreatMg20
import Derived.Test.YthakgjpejhjaoaaGreatMg18
import Derived.Test.YthakgjpejhjaoaaGreatMg05
import Derived.Test.YthakgjpejhjaoaaGreatProg
import Derived.Laws.FloatArith
import Derived.Laws.Externs
import Derived.Test.YthakgjpejhjaoaaGreatMg04
import Derived.Test.YthakgjpejhjaoaaGreatMg06
import Derived.Test.YthakgjpejhjaoaaGreatMg17
namespace Go.Proofs.YthakgjpejhjaoaaGreat
open Go Go.RowKit
set_option linter.unusedVariables false
set_option linter.unusedSimpArgs false
set_option maxRecDepth 100000
set_option maxHeartbeats 16000000
theorem alu_both (d a pb : Nat) (s : St) (i : Ins) (M : Mem) (w : World) (h : Yx w d a pb s i M) (hop : 3 ≤ i.op ∧ i.op ≤ 9) (hc : Ybt M s i.a 4 3 = false) :
  Calls Tryz.prog 45 #[.pointer (some ⟨d, 0, none⟩)] w fun e w' => e = .panicked [{ v := .iface 35 (Yct M s i.a 4 3).val, recovered := false }] ∧ Yj w' a pb (M) ∧ Upd [d, pb] w w' := by
 have HD := Yh_ (Dq.of h)
 have HI := Yh_ h.io
 have tok : True := trivial
 obtain ⟨op, ho⟩ : ∃ op, i.op = op := ⟨_, rfl⟩
 have c18 : w.cell? ⟨d, 18, none⟩ = some (.int .i64 op) := by rw [← ho]; exact h.cell 18
 rw [ho] at hop
 have t10 : (op == 10) = false := by simp; omega
 have t11 : (op == 11) = false := by simp; omega
 have HOQ := Yh_ (show i.op = op from ho)
 have HOP := Yh_ (show Ydh op = true by simp only [Ydh, Bool.and_eq_true, decide_eq_true_eq]; omega)
 have c20 : w.cell? ⟨d, 20, none⟩ = some (.int .i64 i.a.k) := h.cell 20; have c21 : w.cell? ⟨d, 21, none⟩ = some (.int .i64 i.a.r) := h.cell 21; have c22 : w.cell? ⟨d, 22, none⟩ = some (.int .u32 i.a.imm) := h.cell 22; have c23 : w.cell? ⟨d, 23, none⟩ = some (.int .i64 i.a.b) := h.cell 23; have c24 : w.cell? ⟨d, 24, none⟩ = some (.int .i64 i.a.x) := h.cell 24; have c25 : w.cell? ⟨d, 25, none⟩ = some (.int .u32 i.a.sc) := h.cell 25
 have HC := Yh_ hc
 clear hc
 clear h hop
 go_enter Tryz.func45, Tryz.ntmps45
 go_wp2_with (first | (have _t := tok; clear _t tok; go_at_call 46; refine (Yhq d a pb s i M i.a _ HD.out.b HC.out).mono ?_; rintro e w4 ⟨rfl, hu⟩; have H4 := Yh_ (HD.out.quiet hu); clear c20 c21 c22 c23 c24 c25; have c20 : w4.cell? ⟨d, 20, none⟩ = some (.int .i64 i.a.k) := H4.out.b.cell 20; have c21 : w4.cell? ⟨d, 21, none⟩ = some (.int .i64 i.a.r) := H4.out.b.cell 21; have c22 : w4.cell? ⟨d, 22, none⟩ = some (.int .u32 i.a.imm) := H4.out.b.cell 22; have c23 : w4.cell? ⟨d, 23, none⟩ = some (.int .i64 i.a.b) := H4.out.b.cell 23; have c24 : w4.cell? ⟨d, 24, none⟩ = some (.int .i64 i.a.x) := H4.out.b.cell 24; have c25 : w4.cell? ⟨d, 25, none⟩ = some (.int .u32 i.a.sc) := H4.out.b.cell 25; clear hu))
 exact ⟨rfl, rfl, H4.out.b.m, H4.out.u⟩
theorem alu_none (d a pb : Nat) (s : St) (i : Ins) (M : Mem) (w : World) (h : Yx w d a pb s i M) (hop : 3 ≤ i.op ∧ i.op ≤ 9) (hc : Ybt M s i.a 4 3 = true) (hra : opK M s i.a 4 = true) (hrb : opK M s i.b 4 = false) :
  Calls Tryz.prog 45 #[.pointer (some ⟨d, 0, none⟩)] w fun e w' => e = .panicked [{ v := .iface 35 (opF M s i.b 4).val, recovered := false }] ∧ Yj w' a pb (M) ∧ Upd [d, pb] w w' := by
 have HD := Yh_ (Dq.of h)
 have HI := Yh_ h.io
 have tok : True := trivial
 obtain ⟨op, ho⟩ : ∃ op, i.op = op := ⟨_, rfl⟩
 have c18 : w.cell? ⟨d, 18, none⟩ = some (.int .i64 op) := by rw [← ho]; exact h.cell 18
 rw [ho] at hop
 have t10 : (op == 10) = false := by simp; omega
 have t11 : (op == 11) = false := by simp; omega
 have HOQ := Yh_ (show i.op = op from ho)
 have HOP := Yh_ (show Ydh op = true by simp only [Ydh, Bool.and_eq_true, decide_eq_true_eq]; omega)
 have c20 : w.cell? ⟨d, 20, none⟩ = some (.int .i64 i.a.k) := h.cell 20; have c21 : w.cell? ⟨d, 21, none⟩ = some (.int .i64 i.a.r) := h.cell 21; have c22 : w.cell? ⟨d, 22, none⟩ = some (.int .u32 i.a.imm) := h.cell 22; have c23 : w.cell? ⟨d, 23, none⟩ = some (.int .i64 i.a.b) := h.cell 23; have c24 : w.cell? ⟨d, 24, none⟩ = some (.int .i64 i.a.x) := h.cell 24; have c25 : w.cell? ⟨d, 25, none⟩ = some (.int .u32 i.a.sc) := h.cell 25
 have HVR := Yh_ (Yb6 h i.a h.io.a 4)
 have HBR := Yh_ (Yb6 h i.b h.io.b 4)
 obtain ⟨v, hv⟩ : ∃ v, opV M s i.a 4 = v := ⟨_, rfl⟩
 obtain ⟨x, hx⟩ : ∃ x, opV M s i.b 4 = x := ⟨_, rfl⟩
 rw [hv] at HVR
 rw [hx] at HBR
 have HV := Yh_ (And.intro hv hx)
 clear hv hx
 have HC := Yh_ hc
 have HRA := Yh_ hra
 have HRB := Yh_ hrb
 clear hc hra hrb
 clear h hop
 go_enter Tryz.func45, Tryz.ntmps45
 go_wp2_with (first | (have _t := tok; clear _t tok; go_at_call 46; refine (Yft d a pb s i M i.a _ HD.out.b HC.out).mono ?_; rintro e w4 ⟨rfl, hu⟩; have H4 := Yh_ (HD.out.quiet hu); clear c20 c21 c22 c23 c24 c25; have c20 : w4.cell? ⟨d, 20, none⟩ = some (.int .i64 i.a.k) := H4.out.b.cell 20; have c21 : w4.cell? ⟨d, 21, none⟩ = some (.int .i64 i.a.r) := H4.out.b.cell 21; have c22 : w4.cell? ⟨d, 22, none⟩ = some (.int .u32 i.a.imm) := H4.out.b.cell 22; have c23 : w4.cell? ⟨d, 23, none⟩ = some (.int .i64 i.a.b) := H4.out.b.cell 23; have c24 : w4.cell? ⟨d, 24, none⟩ = some (.int .i64 i.a.x) := H4.out.b.cell 24; have c25 : w4.cell? ⟨d, 25, none⟩ = some (.int .u32 i.a.sc) := H4.out.b.cell 25; clear hu) | (have _t := H4; clear _t; go_at_call 48; refine (Ycs d a pb s i M i.a 4 _ H4.out.b HI.out.a HRA.out).mono ?_; rintro e w5 ⟨rfl, hu⟩; rw [HV.out.1]; have H5 := Yh_ (H4.out.quiet hu); clear c20 c21 c22 c23 c24 c25 c18; clear hu))
 refine Yaz 24 (Dg w d a pb s i M [] _ 22 99 25 Fl.zero.cells Fl.zero.cells) (fun c w6 => c = [{ v := .iface 35 (opF M s i.b 4).val, recovered := false }] ∧ Yj w6 a pb M ∧ Upd [d, pb] w w6) (by kernel_rfl) (by decide +kernel) (fun r0 => Dg.start H5.out 22 99 25 Fl.zero.cells Fl.zero.cells r0) (fun c a6 w6 h hd6 _ _ => And.intro hd6 (by obtain ⟨h1, h2, h3⟩ := h; subst h1; exact ⟨rfl, h2, h3⟩)) ?_
 simp only [List.take_succ_cons, List.take_zero, List.drop_succ_cons, List.drop_zero]
 iterate 12
  apply Yd rfl rfl
  ·intro dn r0 K hd hdep hK w5 hB2
   have hB1 := hB2.q
   have c18 : w5.cell? ⟨d, 18, none⟩ = some (.int .i64 op) := (by rw [← HOQ.out]; exact hB1.b.cell 18); have c26 : w5.cell? ⟨d, 26, none⟩ = some (.int .i64 i.b.k) := hB1.b.cell 26; have c27 : w5.cell? ⟨d, 27, none⟩ = some (.int .i64 i.b.r) := hB1.b.cell 27; have c28 : w5.cell? ⟨d, 28, none⟩ = some (.int .u32 i.b.imm) := hB1.b.cell 28; have c29 : w5.cell? ⟨d, 29, none⟩ = some (.int .i64 i.b.b) := hB1.b.cell 29; have c30 : w5.cell? ⟨d, 30, none⟩ = some (.int .i64 i.b.x) := hB1.b.cell 30; have c31 : w5.cell? ⟨d, 31, none⟩ = some (.int .u32 i.b.sc) := hB1.b.cell 31; have c10 : w5.cell? ⟨d, 10, none⟩ = some (.bool s.cf) := hB1.b.cell 10; have c11 : w5.cell? ⟨d, 11, none⟩ = some (.bool s.pf) := hB1.b.cell 11; have c12 : w5.cell? ⟨d, 12, none⟩ = some (.bool s.af) := hB1.b.cell 12; have c13 : w5.cell? ⟨d, 13, none⟩ = some (.bool s.zf) := hB1.b.cell 13; have c14 : w5.cell? ⟨d, 14, none⟩ = some (.bool s.sf) := hB1.b.cell 14; have c15 : w5.cell? ⟨d, 15, none⟩ = some (.bool s.of_) := hB1.b.cell 15
   have HB := Yh_ hB2
   clear hB1 hB2 hdep
   go_wp2_with fail
   first
   |exact hK _ (HB.out.same _ (by decide) (by decide))
   |exact HB.out.same _ (by decide) (by decide)
  ·exact ⟨_, rfl⟩
 refine Ydd rfl rfl ?_ ?_
 ·intro dn r0 w5 hd hB2
  have HB := Yh_ hB2
  clear hB2
  go_wp2_with (go_at_call 48; refine (Yf6 d a pb s i M i.b 4 _ HB.out.q.b HI.out.b HRB.out).mono ?_; rintro e w6 ⟨rfl, hu⟩)
  first
  |exact ⟨rfl, (HB.out.q.quiet hu).b.m, (HB.out.q.quiet hu).u⟩
  |exact ⟨rfl, rfl, (HB.out.q.quiet hu).b.m, (HB.out.q.quiet hu).u⟩
 iterate 5
  apply Yd rfl rfl
  ·intro dn r0 K hd hdep hK w5 hB2
   have hB1 := hB2.q
   have c18 : w5.cell? ⟨d, 18, none⟩ = some (.int .i64 op) := (by rw [← HOQ.out]; exact hB1.b.cell 18); have c26 : w5.cell? ⟨d, 26, none⟩ = some (.int .i64 i.b.k) := hB1.b.cell 26; have c27 : w5.cell? ⟨d, 27, none⟩ = some (.int .i64 i.b.r) := hB1.b.cell 27; have c28 : w5.cell? ⟨d, 28, none⟩ = some (.int .u32 i.b.imm) := hB1.b.cell 28; have c29 : w5.cell? ⟨d, 29, none⟩ = some (.int .i64 i.b.b) := hB1.b.cell 29; have c30 : w5.cell? ⟨d, 30, none⟩ = some (.int .i64 i.b.x) := hB1.b.cell 30; have c31 : w5.cell? ⟨d, 31, none⟩ = some (.int .u32 i.b.sc) := hB1.b.cell 31; have c10 : w5.cell? ⟨d, 10, none⟩ = some (.bool s.cf) := hB1.b.cell 10; have c11 : w5.cell? ⟨d, 11, none⟩ = some (.bool s.pf) := hB1.b.cell 11; have c12 : w5.cell? ⟨d, 12, none⟩ = some (.bool s.af) := hB1.b.cell 12; have c13 : w5.cell? ⟨d, 13, none⟩ = some (.bool s.zf) := hB1.b.cell 13; have c14 : w5.cell? ⟨d, 14, none⟩ = some (.bool s.sf) := hB1.b.cell 14; have c15 : w5.cell? ⟨d, 15, none⟩ = some (.bool s.of_) := hB1.b.cell 15
   have HB := Yh_ hB2
   clear hB1 hB2 hdep
   go_wp2_with fail
   first
   |exact hK _ (HB.out.same _ (by decide) (by decide))
   |exact HB.out.same _ (by decide) (by decide)
  ·exact ⟨_, rfl⟩
 apply Yaw rfl
 apply Yaw rfl
 apply Yaw rfl
 apply Yaw rfl
 refine Yak rfl (fun _ => rfl) 5 rfl (by simp [Act.put]) ?_ ?_
 ·intro dn r0 K hd w5 hB2 hK
  have HB := Yh_ hB2
  clear hB2
  simp only [Yn]
  go_wp2_with fail
  first
  |exact hK (.pointer (some ⟨w5.heap.size, 0, none⟩)) _ (HB.out.lay hd (by decide))
  |exact HB.out.lay hd (by decide)
 apply Yaw rfl
 refine Yar (fun hdead => by cases hdead)
theorem alu_ok (d a pb : Nat) (s : St) (i : Ins) (M : Mem) (w : World) (h : Yx w d a pb s i M) (hop : 3 ≤ i.op ∧ i.op ≤ 9) (hc : Ybt M s i.a 4 3 = true) (hra : opK M s i.a 4 = true) (hrb : opK M s i.b 4 = true) (hwa : Yc5 M (s.setFl (Ya2 i.op (opV M s i.a 4) (opV M s i.b 4) s.fl)) i.a 4 = true) :
  Calls Tryz.prog 45 #[.pointer (some ⟨d, 0, none⟩)] w fun e w' => e = .returned (.tuple #[]) ∧ Yx w' d a pb (opS (s.setFl (Ya2 i.op (opV M s i.a 4) (opV M s i.b 4) s.fl)) i.a 4 (Ybl i.op (opV M s i.a 4) (opV M s i.b 4) s.fl)) i (opM M (s.setFl (Ya2 i.op (opV M s i.a 4) (opV M s i.b 4) s.fl)) i.a 4 (Ybl i.op (opV M s i.a 4) (opV M s i.b 4) s.fl)) ∧ Upd [d, pb] w w' := by
 have HD := Yh_ (Dq.of h)
 have HI := Yh_ h.io
 have tok : True := trivial
 obtain ⟨op, ho⟩ : ∃ op, i.op = op := ⟨_, rfl⟩
 have c18 : w.cell? ⟨d, 18, none⟩ = some (.int .i64 op) := by rw [← ho]; exact h.cell 18
 rw [ho] at hop
 have t10 : (op == 10) = false := by simp; omega
 have t11 : (op == 11) = false := by simp; omega
 have HOQ := Yh_ (show i.op = op from ho)
 have HOP := Yh_ (show Ydh op = true by simp only [Ydh, Bool.and_eq_true, decide_eq_true_eq]; omega)
 have c20 : w.cell? ⟨d, 20, none⟩ = some (.int .i64 i.a.k) := h.cell 20; have c21 : w.cell? ⟨d, 21, none⟩ = some (.int .i64 i.a.r) := h.cell 21; have c22 : w.cell? ⟨d, 22, none⟩ = some (.int .u32 i.a.imm) := h.cell 22; have c23 : w.cell? ⟨d, 23, none⟩ = some (.int .i64 i.a.b) := h.cell 23; have c24 : w.cell? ⟨d, 24, none⟩ = some (.int .i64 i.a.x) := h.cell 24; have c25 : w.cell? ⟨d, 25, none⟩ = some (.int .u32 i.a.sc) := h.cell 25
 have HVR := Yh_ (Yb6 h i.a h.io.a 4)
 have HBR := Yh_ (Yb6 h i.b h.io.b 4)
 obtain ⟨v, hv⟩ : ∃ v, opV M s i.a 4 = v := ⟨_, rfl⟩
 obtain ⟨x, hx⟩ : ∃ x, opV M s i.b 4 = x := ⟨_, rfl⟩
 rw [hv] at HVR
 rw [hx] at HBR
 have HV := Yh_ (And.intro hv hx)
 rw [show i.op = op from ho] at hwa ⊢
 rw [hv, hx] at hwa ⊢
 obtain ⟨V, hV⟩ : ∃ V, Ybl op v x s.fl = V := ⟨_, rfl⟩
 have HVV := Yh_ (show 0 ≤ V ∧ V < 4294967296 from hV ▸ Ygx op v x s.fl HVR.out HBR.out)
 obtain ⟨⟨x0, x1, x2, x3, x4, x5⟩, hF⟩ : ∃ F, Ya2 op v x s.fl = F := ⟨_, rfl⟩
 rw [hF] at hwa ⊢
 rw [hV]
 have HRV := Yh_ (And.intro hV hF)
 clear hv hx hV hF
 have HC := Yh_ hc
 have HRA := Yh_ hra
 have HRB := Yh_ hrb
 have HWA := Yh_ hwa
 clear hc hra hrb hwa
 clear h hop
 go_enter Tryz.func45, Tryz.ntmps45
 go_wp2_with (first | (have _t := tok; clear _t tok; go_at_call 46; refine (Yft d a pb s i M i.a _ HD.out.b HC.out).mono ?_; rintro e w4 ⟨rfl, hu⟩; have H4 := Yh_ (HD.out.quiet hu); clear c20 c21 c22 c23 c24 c25; have c20 : w4.cell? ⟨d, 20, none⟩ = some (.int .i64 i.a.k) := H4.out.b.cell 20; have c21 : w4.cell? ⟨d, 21, none⟩ = some (.int .i64 i.a.r) := H4.out.b.cell 21; have c22 : w4.cell? ⟨d, 22, none⟩ = some (.int .u32 i.a.imm) := H4.out.b.cell 22; have c23 : w4.cell? ⟨d, 23, none⟩ = some (.int .i64 i.a.b) := H4.out.b.cell 23; have c24 : w4.cell? ⟨d, 24, none⟩ = some (.int .i64 i.a.x) := H4.out.b.cell 24; have c25 : w4.cell? ⟨d, 25, none⟩ = some (.int .u32 i.a.sc) := H4.out.b.cell 25; clear hu) | (have _t := H4; clear _t; go_at_call 48; refine (Ycs d a pb s i M i.a 4 _ H4.out.b HI.out.a HRA.out).mono ?_; rintro e w5 ⟨rfl, hu⟩; rw [HV.out.1]; have H5 := Yh_ (H4.out.quiet hu); clear c20 c21 c22 c23 c24 c25 c18; clear hu))
 refine Yaz 24 (Dg w d a pb s i M [] _ 22 99 25 Fl.zero.cells Fl.zero.cells) (fun _ _ => False) (by kernel_rfl) (by decide +kernel) (fun r0 => Dg.start H5.out 22 99 25 Fl.zero.cells Fl.zero.cells r0) (fun _ _ _ h => h.elim) ?_
 simp only [List.take_succ_cons, List.take_zero, List.drop_succ_cons, List.drop_zero]
 iterate 12
  apply Yd rfl rfl
  ·intro dn r0 K hd hdep hK w5 hB2
   have hB1 := hB2.q
   have c18 : w5.cell? ⟨d, 18, none⟩ = some (.int .i64 op) := (by rw [← HOQ.out]; exact hB1.b.cell 18); have c26 : w5.cell? ⟨d, 26, none⟩ = some (.int .i64 i.b.k) := hB1.b.cell 26; have c27 : w5.cell? ⟨d, 27, none⟩ = some (.int .i64 i.b.r) := hB1.b.cell 27; have c28 : w5.cell? ⟨d, 28, none⟩ = some (.int .u32 i.b.imm) := hB1.b.cell 28; have c29 : w5.cell? ⟨d, 29, none⟩ = some (.int .i64 i.b.b) := hB1.b.cell 29; have c30 : w5.cell? ⟨d, 30, none⟩ = some (.int .i64 i.b.x) := hB1.b.cell 30; have c31 : w5.cell? ⟨d, 31, none⟩ = some (.int .u32 i.b.sc) := hB1.b.cell 31; have c10 : w5.cell? ⟨d, 10, none⟩ = some (.bool s.cf) := hB1.b.cell 10; have c11 : w5.cell? ⟨d, 11, none⟩ = some (.bool s.pf) := hB1.b.cell 11; have c12 : w5.cell? ⟨d, 12, none⟩ = some (.bool s.af) := hB1.b.cell 12; have c13 : w5.cell? ⟨d, 13, none⟩ = some (.bool s.zf) := hB1.b.cell 13; have c14 : w5.cell? ⟨d, 14, none⟩ = some (.bool s.sf) := hB1.b.cell 14; have c15 : w5.cell? ⟨d, 15, none⟩ = some (.bool s.of_) := hB1.b.cell 15
   have HB := Yh_ hB2
   clear hB1 hB2 hdep
   go_wp2_with fail
   first
   |exact hK _ (HB.out.same _ (by decide) (by decide))
   |exact HB.out.same _ (by decide) (by decide)
  ·exact ⟨_, rfl⟩
 apply Yd rfl rfl
 ·intro dn r0 K hd hdep hK w5 hB2
  have HB := Yh_ hB2
  clear hB2 hdep
  go_wp2_with (go_at_call 48; refine (Ycs d a pb s i M i.b 4 _ HB.out.q.b HI.out.b HRB.out).mono ?_; rintro e w6 ⟨rfl, hu⟩; rw [HV.out.2])
  first
  |exact hK _ (HB.out.quiet hu _ (by decide) (by decide))
  |exact HB.out.quiet hu _ (by decide) (by decide)
 ·exact ⟨_, rfl⟩
 iterate 5
  apply Yd rfl rfl
  ·intro dn r0 K hd hdep hK w5 hB2
   have hB1 := hB2.q
   have c18 : w5.cell? ⟨d, 18, none⟩ = some (.int .i64 op) := (by rw [← HOQ.out]; exact hB1.b.cell 18); have c26 : w5.cell? ⟨d, 26, none⟩ = some (.int .i64 i.b.k) := hB1.b.cell 26; have c27 : w5.cell? ⟨d, 27, none⟩ = some (.int .i64 i.b.r) := hB1.b.cell 27; have c28 : w5.cell? ⟨d, 28, none⟩ = some (.int .u32 i.b.imm) := hB1.b.cell 28; have c29 : w5.cell? ⟨d, 29, none⟩ = some (.int .i64 i.b.b) := hB1.b.cell 29; have c30 : w5.cell? ⟨d, 30, none⟩ = some (.int .i64 i.b.x) := hB1.b.cell 30; have c31 : w5.cell? ⟨d, 31, none⟩ = some (.int .u32 i.b.sc) := hB1.b.cell 31; have c10 : w5.cell? ⟨d, 10, none⟩ = some (.bool s.cf) := hB1.b.cell 10; have c11 : w5.cell? ⟨d, 11, none⟩ = some (.bool s.pf) := hB1.b.cell 11; have c12 : w5.cell? ⟨d, 12, none⟩ = some (.bool s.af) := hB1.b.cell 12; have c13 : w5.cell? ⟨d, 13, none⟩ = some (.bool s.zf) := hB1.b.cell 13; have c14 : w5.cell? ⟨d, 14, none⟩ = some (.bool s.sf) := hB1.b.cell 14; have c15 : w5.cell? ⟨d, 15, none⟩ = some (.bool s.of_) := hB1.b.cell 15
   have HB := Yh_ hB2
   clear hB1 hB2 hdep
   go_wp2_with fail
   first
   |exact hK _ (HB.out.same _ (by decide) (by decide))
   |exact HB.out.same _ (by decide) (by decide)
  ·exact ⟨_, rfl⟩
 apply Yd rfl rfl
 ·intro dn r0 K hd hdep hK w5 hB2
  have HB := Yh_ hB2
  clear hB2 hdep
  go_wp2_with (go_at_call 47; refine (Yhp op v x s.fl _ HOP.out HVR.out HBR.out).mono ?_; rintro e w6 ⟨rfl, hu⟩; rw [HRV.out.1, HRV.out.2]; unfold Fl.cells)
  first
  |exact hK _ (HB.out.quiet hu _ (by decide) (by decide))
  |exact HB.out.quiet hu _ (by decide) (by decide)
 ·exact ⟨_, rfl⟩
 iterate 3
  apply Yd rfl rfl
  ·intro dn r0 K hd hdep hK w5 hB2
   have hB1 := hB2.q
   have c18 : w5.cell? ⟨d, 18, none⟩ = some (.int .i64 op) := (by rw [← HOQ.out]; exact hB1.b.cell 18); have c26 : w5.cell? ⟨d, 26, none⟩ = some (.int .i64 i.b.k) := hB1.b.cell 26; have c27 : w5.cell? ⟨d, 27, none⟩ = some (.int .i64 i.b.r) := hB1.b.cell 27; have c28 : w5.cell? ⟨d, 28, none⟩ = some (.int .u32 i.b.imm) := hB1.b.cell 28; have c29 : w5.cell? ⟨d, 29, none⟩ = some (.int .i64 i.b.b) := hB1.b.cell 29; have c30 : w5.cell? ⟨d, 30, none⟩ = some (.int .i64 i.b.x) := hB1.b.cell 30; have c31 : w5.cell? ⟨d, 31, none⟩ = some (.int .u32 i.b.sc) := hB1.b.cell 31; have c10 : w5.cell? ⟨d, 10, none⟩ = some (.bool s.cf) := hB1.b.cell 10; have c11 : w5.cell? ⟨d, 11, none⟩ = some (.bool s.pf) := hB1.b.cell 11; have c12 : w5.cell? ⟨d, 12, none⟩ = some (.bool s.af) := hB1.b.cell 12; have c13 : w5.cell? ⟨d, 13, none⟩ = some (.bool s.zf) := hB1.b.cell 13; have c14 : w5.cell? ⟨d, 14, none⟩ = some (.bool s.sf) := hB1.b.cell 14; have c15 : w5.cell? ⟨d, 15, none⟩ = some (.bool s.of_) := hB1.b.cell 15
   have HB := Yh_ hB2
   clear hB1 hB2 hdep
   go_wp2_with fail
   first
   |exact hK _ (HB.out.same _ (by decide) (by decide))
   |exact HB.out.same _ (by decide) (by decide)
  ·exact ⟨_, rfl⟩
 refine Yak rfl (fun _ => rfl) 5 rfl (by simp [Act.put]) ?_ ?_
 ·intro dn r0 K hd w5 hB2 hK
  have HB := Yh_ hB2
  clear hB2
  simp only [Yn]
  go_wp2_with fail
  first
  |exact hK (.pointer (some ⟨w5.heap.size, 0, none⟩)) _ (HB.out.lay hd (by decide))
  |exact HB.out.lay hd (by decide)
 iterate 1
  apply Ya4 rfl (fun _ => rfl)
  ·intro dn r0 K hd hdep hK w5 hB2
   have hB1 := hB2.q
   have c18 : w5.cell? ⟨d, 18, none⟩ = some (.int .i64 op) := (by rw [← HOQ.out]; exact hB1.b.cell 18); have c26 : w5.cell? ⟨d, 26, none⟩ = some (.int .i64 i.b.k) := hB1.b.cell 26; have c27 : w5.cell? ⟨d, 27, none⟩ = some (.int .i64 i.b.r) := hB1.b.cell 27; have c28 : w5.cell? ⟨d, 28, none⟩ = some (.int .u32 i.b.imm) := hB1.b.cell 28; have c29 : w5.cell? ⟨d, 29, none⟩ = some (.int .i64 i.b.b) := hB1.b.cell 29; have c30 : w5.cell? ⟨d, 30, none⟩ = some (.int .i64 i.b.x) := hB1.b.cell 30; have c31 : w5.cell? ⟨d, 31, none⟩ = some (.int .u32 i.b.sc) := hB1.b.cell 31; have c10 : w5.cell? ⟨d, 10, none⟩ = some (.bool s.cf) := hB1.b.cell 10; have c11 : w5.cell? ⟨d, 11, none⟩ = some (.bool s.pf) := hB1.b.cell 11; have c12 : w5.cell? ⟨d, 12, none⟩ = some (.bool s.af) := hB1.b.cell 12; have c13 : w5.cell? ⟨d, 13, none⟩ = some (.bool s.zf) := hB1.b.cell 13; have c14 : w5.cell? ⟨d, 14, none⟩ = some (.bool s.sf) := hB1.b.cell 14; have c15 : w5.cell? ⟨d, 15, none⟩ = some (.bool s.of_) := hB1.b.cell 15
   have HB := Yh_ hB2
   clear hB1 hB2 hdep
   simp only [Yn]
   go_wp2_with fail
   first
   |exact hK _ (HB.out.same _ (by decide) (by decide))
   |exact HB.out.same _ (by decide) (by decide)
  ·exact ⟨_, fun _ => rfl, rfl⟩
 refine Yar (fun _ r0 w6 dn hall hB2 => ?_)
 obtain ⟨g, e1, hB1, hgl⟩ := hB2.fin (hall 22 (by decide))
 simp only [ite_self] at hB1
 show wpList _ _ _ _ (Act.put (Yn _ _ [] _) (some 5) (r0 22)) _
 rw [e1]
 simp only [Yn]
 clear e1 hall hB2
 have H6 := Yh_ hB1
 clear hB1 H5
 go_wp2_with (first | (have _t := H6; clear _t; refine Ye 25 rfl ?_; refine Ydg rfl 25 _ _ rfl g 0 (Fl.cells ⟨x0, x1, x2, x3, x4, x5⟩) rfl rfl H6.out.one (show 0 + 6 ≤ 6 by decide) Yef (Yfy _) ?_; intro w7 hw; have H7 := Yh_ (H6.out.put hgl.1 hgl.2.1 hgl.2.2 (wr_fl Fl.zero ⟨x0, x1, x2, x3, x4, x5⟩) hw); have cg := Ya H7.out.one; unfold Fl.cells at cg; clear hw H6 hgl) | (have _t := H7; clear _t; refine Ye 25 rfl ?_; refine wpList_store_mid rfl 25 _ _ rfl d 10 (Fl.cells ⟨x0, x1, x2, x3, x4, x5⟩) rfl rfl (Ydc H7.out.b.h 10 6 (by rw [Ygt]; decide)) Yef (Yfy _) ?_; have H8 := Yh_ (H7.out.putFl ⟨x0, x1, x2, x3, x4, x5⟩); have c20 : (w7.setCells d 10 (Fl.cells ⟨x0, x1, x2, x3, x4, x5⟩).toList).cell? ⟨d, 20, none⟩ = some (.int .i64 i.a.k) := H8.out.b.cell 20; have c21 : (w7.setCells d 10 (Fl.cells ⟨x0, x1, x2, x3, x4, x5⟩).toList).cell? ⟨d, 21, none⟩ = some (.int .i64 i.a.r) := H8.out.b.cell 21; have c22 : (w7.setCells d 10 (Fl.cells ⟨x0, x1, x2, x3, x4, x5⟩).toList).cell? ⟨d, 22, none⟩ = some (.int .u32 i.a.imm) := H8.out.b.cell 22; have c23 : (w7.setCells d 10 (Fl.cells ⟨x0, x1, x2, x3, x4, x5⟩).toList).cell? ⟨d, 23, none⟩ = some (.int .i64 i.a.b) := H8.out.b.cell 23; have c24 : (w7.setCells d 10 (Fl.cells ⟨x0, x1, x2, x3, x4, x5⟩).toList).cell? ⟨d, 24, none⟩ = some (.int .i64 i.a.x) := H8.out.b.cell 24; have c25 : (w7.setCells d 10 (Fl.cells ⟨x0, x1, x2, x3, x4, x5⟩).toList).cell? ⟨d, 25, none⟩ = some (.int .u32 i.a.sc) := H8.out.b.cell 25; clear H7 cg) | (have _t := H8; clear _t; go_at_call 49; refine (Yhs d a pb _ i M i.a 4 V _ H8.out.b HI.out.a HVV.out HWA.out).mono ?_; rintro e w8 ⟨rfl, hd, hu⟩; have H9 := Yh_ (H8.out.next hd hu); clear hd hu H8))
 go_end0
 exact ⟨rfl, H9.out.b, H9.out.u⟩
theorem tell10_a (d a pb : Nat) (s : St) (i : Ins) (M : Mem) (w : World) (h : Yx w d a pb s i M) (hop : i.op = 10) (hra : opK M s i.a 4 = false) :
  Calls Tryz.prog 45 #[.pointer (some ⟨d, 0, none⟩)] w fun e w' => e = .panicked [{ v := .iface 35 (opF M s i.a 4).val, recovered := false }] ∧ Yj w' a pb (M) ∧ Upd [d, pb] w w' := by
 have HD := Yh_ (Dq.of h)
 have HI := Yh_ h.io
 have tok : True := trivial
 have c18 : w.cell? ⟨d, 18, none⟩ = some (.int .i64 10) := by rw [← hop]; exact h.cell 18
 have HOQ := Yh_ (show i.op = 10 from hop)
 have HOP := Yh_ (show Ydh 10 = true by decide)
 have c20 : w.cell? ⟨d, 20, none⟩ = some (.int .i64 i.a.k) := h.cell 20; have c21 : w.cell? ⟨d, 21, none⟩ = some (.int .i64 i.a.r) := h.cell 21; have c22 : w.cell? ⟨d, 22, none⟩ = some (.int .u32 i.a.imm) := h.cell 22; have c23 : w.cell? ⟨d, 23, none⟩ = some (.int .i64 i.a.b) := h.cell 23; have c24 : w.cell? ⟨d, 24, none⟩ = some (.int .i64 i.a.x) := h.cell 24; have c25 : w.cell? ⟨d, 25, none⟩ = some (.int .u32 i.a.sc) := h.cell 25
 have HRA := Yh_ hra
 clear hra
 clear h hop
 go_enter Tryz.func45, Tryz.ntmps45
 go_wp2_with (first | (have _t := tok; clear _t tok; go_at_call 48; refine (Yf6 d a pb s i M i.a 4 _ HD.out.b HI.out.a HRA.out).mono ?_; rintro e w5 ⟨rfl, hu⟩; have H5 := Yh_ (HD.out.quiet hu); clear c20 c21 c22 c23 c24 c25 c18; clear hu))
 exact ⟨rfl, rfl, H5.out.b.m, H5.out.u⟩
theorem tell10_b (d a pb : Nat) (s : St) (i : Ins) (M : Mem) (w : World) (h : Yx w d a pb s i M) (hop : i.op = 10) (hra : opK M s i.a 4 = true) (hrb : opK M s i.b 4 = false) :
  Calls Tryz.prog 45 #[.pointer (some ⟨d, 0, none⟩)] w fun e w' => e = .panicked [{ v := .iface 35 (opF M s i.b 4).val, recovered := false }] ∧ Yj w' a pb (M) ∧ Upd [d, pb] w w' := by
 have HD := Yh_ (Dq.of h)
 have HI := Yh_ h.io
 have tok : True := trivial
 have c18 : w.cell? ⟨d, 18, none⟩ = some (.int .i64 10) := by rw [← hop]; exact h.cell 18
 have HOQ := Yh_ (show i.op = 10 from hop)
 have HOP := Yh_ (show Ydh 10 = true by decide)
 have c20 : w.cell? ⟨d, 20, none⟩ = some (.int .i64 i.a.k) := h.cell 20; have c21 : w.cell? ⟨d, 21, none⟩ = some (.int .i64 i.a.r) := h.cell 21; have c22 : w.cell? ⟨d, 22, none⟩ = some (.int .u32 i.a.imm) := h.cell 22; have c23 : w.cell? ⟨d, 23, none⟩ = some (.int .i64 i.a.b) := h.cell 23; have c24 : w.cell? ⟨d, 24, none⟩ = some (.int .i64 i.a.x) := h.cell 24; have c25 : w.cell? ⟨d, 25, none⟩ = some (.int .u32 i.a.sc) := h.cell 25
 have HVR := Yh_ (Yb6 h i.a h.io.a 4)
 have HBR := Yh_ (Yb6 h i.b h.io.b 4)
 obtain ⟨v, hv⟩ : ∃ v, opV M s i.a 4 = v := ⟨_, rfl⟩
 obtain ⟨x, hx⟩ : ∃ x, opV M s i.b 4 = x := ⟨_, rfl⟩
 rw [hv] at HVR
 rw [hx] at HBR
 have HV := Yh_ (And.intro hv hx)
 clear hv hx
 have HRA := Yh_ hra
 have HRB := Yh_ hrb
 clear hra hrb
 clear h hop
 go_enter Tryz.func45, Tryz.ntmps45
 go_wp2_with (first | (have _t := tok; clear _t tok; go_at_call 48; refine (Ycs d a pb s i M i.a 4 _ HD.out.b HI.out.a HRA.out).mono ?_; rintro e w5 ⟨rfl, hu⟩; rw [HV.out.1]; have H5 := Yh_ (HD.out.quiet hu); clear c20 c21 c22 c23 c24 c25 c18; clear hu))
 refine Yaz 24 (Dg w d a pb s i M [] _ 22 99 25 Fl.zero.cells Fl.zero.cells) (fun c w6 => c = [{ v := .iface 35 (opF M s i.b 4).val, recovered := false }] ∧ Yj w6 a pb M ∧ Upd [d, pb] w w6) (by kernel_rfl) (by decide +kernel) (fun r0 => Dg.start H5.out 22 99 25 Fl.zero.cells Fl.zero.cells r0) (fun c a6 w6 h hd6 _ _ => And.intro hd6 (by obtain ⟨h1, h2, h3⟩ := h; subst h1; exact ⟨rfl, h2, h3⟩)) ?_
 simp only [List.take_succ_cons, List.take_zero, List.drop_succ_cons, List.drop_zero]
 iterate 12
  apply Yd rfl rfl
  ·intro dn r0 K hd hdep hK w5 hB2
   have hB1 := hB2.q
   have c18 : w5.cell? ⟨d, 18, none⟩ = some (.int .i64 10) := (by rw [← HOQ.out]; exact hB1.b.cell 18); have c26 : w5.cell? ⟨d, 26, none⟩ = some (.int .i64 i.b.k) := hB1.b.cell 26; have c27 : w5.cell? ⟨d, 27, none⟩ = some (.int .i64 i.b.r) := hB1.b.cell 27; have c28 : w5.cell? ⟨d, 28, none⟩ = some (.int .u32 i.b.imm) := hB1.b.cell 28; have c29 : w5.cell? ⟨d, 29, none⟩ = some (.int .i64 i.b.b) := hB1.b.cell 29; have c30 : w5.cell? ⟨d, 30, none⟩ = some (.int .i64 i.b.x) := hB1.b.cell 30; have c31 : w5.cell? ⟨d, 31, none⟩ = some (.int .u32 i.b.sc) := hB1.b.cell 31; have c10 : w5.cell? ⟨d, 10, none⟩ = some (.bool s.cf) := hB1.b.cell 10; have c11 : w5.cell? ⟨d, 11, none⟩ = some (.bool s.pf) := hB1.b.cell 11; have c12 : w5.cell? ⟨d, 12, none⟩ = some (.bool s.af) := hB1.b.cell 12; have c13 : w5.cell? ⟨d, 13, none⟩ = some (.bool s.zf) := hB1.b.cell 13; have c14 : w5.cell? ⟨d, 14, none⟩ = some (.bool s.sf) := hB1.b.cell 14; have c15 : w5.cell? ⟨d, 15, none⟩ = some (.bool s.of_) := hB1.b.cell 15
   have HB := Yh_ hB2
   clear hB1 hB2 hdep
   go_wp2_with fail
   first
   |exact hK _ (HB.out.same _ (by decide) (by decide))
   |exact HB.out.same _ (by decide) (by decide)
  ·exact ⟨_, rfl⟩
 refine Ydd rfl rfl ?_ ?_
 ·intro dn r0 w5 hd hB2
  have HB := Yh_ hB2
  clear hB2
  go_wp2_with (go_at_call 48; refine (Yf6 d a pb s i M i.b 4 _ HB.out.q.b HI.out.b HRB.out).mono ?_; rintro e w6 ⟨rfl, hu⟩)
  first
  |exact ⟨rfl, (HB.out.q.quiet hu).b.m, (HB.out.q.quiet hu).u⟩
  |exact ⟨rfl, rfl, (HB.out.q.quiet hu).b.m, (HB.out.q.quiet hu).u⟩
 iterate 5
  apply Yd rfl rfl
  ·intro dn r0 K hd hdep hK w5 hB2
   have hB1 := hB2.q
   have c18 : w5.cell? ⟨d, 18, none⟩ = some (.int .i64 10) := (by rw [← HOQ.out]; exact hB1.b.cell 18); have c26 : w5.cell? ⟨d, 26, none⟩ = some (.int .i64 i.b.k) := hB1.b.cell 26; have c27 : w5.cell? ⟨d, 27, none⟩ = some (.int .i64 i.b.r) := hB1.b.cell 27; have c28 : w5.cell? ⟨d, 28, none⟩ = some (.int .u32 i.b.imm) := hB1.b.cell 28; have c29 : w5.cell? ⟨d, 29, none⟩ = some (.int .i64 i.b.b) := hB1.b.cell 29; have c30 : w5.cell? ⟨d, 30, none⟩ = some (.int .i64 i.b.x) := hB1.b.cell 30; have c31 : w5.cell? ⟨d, 31, none⟩ = some (.int .u32 i.b.sc) := hB1.b.cell 31; have c10 : w5.cell? ⟨d, 10, none⟩ = some (.bool s.cf) := hB1.b.cell 10; have c11 : w5.cell? ⟨d, 11, none⟩ = some (.bool s.pf) := hB1.b.cell 11; have c12 : w5.cell? ⟨d, 12, none⟩ = some (.bool s.af) := hB1.b.cell 12; have c13 : w5.cell? ⟨d, 13, none⟩ = some (.bool s.zf) := hB1.b.cell 13; have c14 : w5.cell? ⟨d, 14, none⟩ = some (.bool s.sf) := hB1.b.cell 14; have c15 : w5.cell? ⟨d, 15, none⟩ = some (.bool s.of_) := hB1.b.cell 15
   have HB := Yh_ hB2
   clear hB1 hB2 hdep
   go_wp2_with fail
   first
   |exact hK _ (HB.out.same _ (by decide) (by decide))
   |exact HB.out.same _ (by decide) (by decide)
  ·exact ⟨_, rfl⟩
 apply Yaw rfl
 apply Yaw rfl
 apply Yaw rfl
 apply Yaw rfl
 refine Yak rfl (fun _ => rfl) 5 rfl (by simp [Act.put]) ?_ ?_
 ·intro dn r0 K hd w5 hB2 hK
  have HB := Yh_ hB2
  clear hB2
  simp only [Yn]
  go_wp2_with fail
  first
  |exact hK (.pointer (some ⟨w5.heap.size, 0, none⟩)) _ (HB.out.lay hd (by decide))
  |exact HB.out.lay hd (by decide)
 apply Yaw rfl
 refine Yar (fun hdead => by cases hdead)
theorem Ypq (d a pb : Nat) (s : St) (i : Ins) (M : Mem) (w : World) (h : Yx w d a pb s i M) (hop : i.op = 10) (hra : opK M s i.a 4 = true) (hrb : opK M s i.b 4 = true) :
  Calls Tryz.prog 45 #[.pointer (some ⟨d, 0, none⟩)] w fun e w' => e = .returned (.tuple #[]) ∧ Yx w' d a pb ((s.setFl (Ya2 i.op (opV M s i.a 4) (opV M s i.b 4) s.fl))) i (M) ∧ Upd [d, pb] w w' := by
 have HD := Yh_ (Dq.of h)
 have HI := Yh_ h.io
 have tok : True := trivial
 have c18 : w.cell? ⟨d, 18, none⟩ = some (.int .i64 10) := by rw [← hop]; exact h.cell 18
 have HOQ := Yh_ (show i.op = 10 from hop)
 have HOP := Yh_ (show Ydh 10 = true by decide)
 have c20 : w.cell? ⟨d, 20, none⟩ = some (.int .i64 i.a.k) := h.cell 20; have c21 : w.cell? ⟨d, 21, none⟩ = some (.int .i64 i.a.r) := h.cell 21; have c22 : w.cell? ⟨d, 22, none⟩ = some (.int .u32 i.a.imm) := h.cell 22; have c23 : w.cell? ⟨d, 23, none⟩ = some (.int .i64 i.a.b) := h.cell 23; have c24 : w.cell? ⟨d, 24, none⟩ = some (.int .i64 i.a.x) := h.cell 24; have c25 : w.cell? ⟨d, 25, none⟩ = some (.int .u32 i.a.sc) := h.cell 25
 have HVR := Yh_ (Yb6 h i.a h.io.a 4)
 have HBR := Yh_ (Yb6 h i.b h.io.b 4)
 obtain ⟨v, hv⟩ : ∃ v, opV M s i.a 4 = v := ⟨_, rfl⟩
 obtain ⟨x, hx⟩ : ∃ x, opV M s i.b 4 = x := ⟨_, rfl⟩
 rw [hv] at HVR
 rw [hx] at HBR
 have HV := Yh_ (And.intro hv hx)
 rw [show i.op = 10 from hop] 
 rw [hv, hx] 
 obtain ⟨V, hV⟩ : ∃ V, Ybl 10 v x s.fl = V := ⟨_, rfl⟩
 have HVV := Yh_ (show 0 ≤ V ∧ V < 4294967296 from hV ▸ Ygx 10 v x s.fl HVR.out HBR.out)
 obtain ⟨⟨x0, x1, x2, x3, x4, x5⟩, hF⟩ : ∃ F, Ya2 10 v x s.fl = F := ⟨_, rfl⟩
 rw [hF] 
 skip
 have HRV := Yh_ (And.intro hV hF)
 clear hv hx hV hF
 have HRA := Yh_ hra
 have HRB := Yh_ hrb
 clear hra hrb
 clear h hop
 go_enter Tryz.func45, Tryz.ntmps45
 go_wp2_with (first | (have _t := tok; clear _t tok; go_at_call 48; refine (Ycs d a pb s i M i.a 4 _ HD.out.b HI.out.a HRA.out).mono ?_; rintro e w5 ⟨rfl, hu⟩; rw [HV.out.1]; have H5 := Yh_ (HD.out.quiet hu); clear c20 c21 c22 c23 c24 c25 c18; clear hu))
 refine Yaz 24 (Dg w d a pb s i M [] _ 22 99 25 Fl.zero.cells Fl.zero.cells) (fun _ _ => False) (by kernel_rfl) (by decide +kernel) (fun r0 => Dg.start H5.out 22 99 25 Fl.zero.cells Fl.zero.cells r0) (fun _ _ _ h => h.elim) ?_
 simp only [List.take_succ_cons, List.take_zero, List.drop_succ_cons, List.drop_zero]
 iterate 12
  apply Yd rfl rfl
  ·intro dn r0 K hd hdep hK w5 hB2
   have hB1 := hB2.q
   have c18 : w5.cell? ⟨d, 18, none⟩ = some (.int .i64 10) := (by rw [← HOQ.out]; exact hB1.b.cell 18); have c26 : w5.cell? ⟨d, 26, none⟩ = some (.int .i64 i.b.k) := hB1.b.cell 26; have c27 : w5.cell? ⟨d, 27, none⟩ = some (.int .i64 i.b.r) := hB1.b.cell 27; have c28 : w5.cell? ⟨d, 28, none⟩ = some (.int .u32 i.b.imm) := hB1.b.cell 28; have c29 : w5.cell? ⟨d, 29, none⟩ = some (.int .i64 i.b.b) := hB1.b.cell 29; have c30 : w5.cell? ⟨d, 30, none⟩ = some (.int .i64 i.b.x) := hB1.b.cell 30; have c31 : w5.cell? ⟨d, 31, none⟩ = some (.int .u32 i.b.sc) := hB1.b.cell 31; have c10 : w5.cell? ⟨d, 10, none⟩ = some (.bool s.cf) := hB1.b.cell 10; have c11 : w5.cell? ⟨d, 11, none⟩ = some (.bool s.pf) := hB1.b.cell 11; have c12 : w5.cell? ⟨d, 12, none⟩ = some (.bool s.af) := hB1.b.cell 12; have c13 : w5.cell? ⟨d, 13, none⟩ = some (.bool s.zf) := hB1.b.cell 13; have c14 : w5.cell? ⟨d, 14, none⟩ = some (.bool s.sf) := hB1.b.cell 14; have c15 : w5.cell? ⟨d, 15, none⟩ = some (.bool s.of_) := hB1.b.cell 15
   have HB := Yh_ hB2
   clear hB1 hB2 hdep
   go_wp2_with fail
   first
   |exact hK _ (HB.out.same _ (by decide) (by decide))
   |exact HB.out.same _ (by decide) (by decide)
  ·exact ⟨_, rfl⟩
 apply Yd rfl rfl
 ·intro dn r0 K hd hdep hK w5 hB2
  have HB := Yh_ hB2
  clear hB2 hdep
  go_wp2_with (go_at_call 48; refine (Ycs d a pb s i M i.b 4 _ HB.out.q.b HI.out.b HRB.out).mono ?_; rintro e w6 ⟨rfl, hu⟩; rw [HV.out.2])
  first
  |exact hK _ (HB.out.quiet hu _ (by decide) (by decide))
  |exact HB.out.quiet hu _ (by decide) (by decide)
 ·exact ⟨_, rfl⟩
 iterate 5
  apply Yd rfl rfl
  ·intro dn r0 K hd hdep hK w5 hB2
   have hB1 := hB2.q
   have c18 : w5.cell? ⟨d, 18, none⟩ = some (.int .i64 10) := (by rw [← HOQ.out]; exact hB1.b.cell 18); have c26 : w5.cell? ⟨d, 26, none⟩ = some (.int .i64 i.b.k) := hB1.b.cell 26; have c27 : w5.cell? ⟨d, 27, none⟩ = some (.int .i64 i.b.r) := hB1.b.cell 27; have c28 : w5.cell? ⟨d, 28, none⟩ = some (.int .u32 i.b.imm) := hB1.b.cell 28; have c29 : w5.cell? ⟨d, 29, none⟩ = some (.int .i64 i.b.b) := hB1.b.cell 29; have c30 : w5.cell? ⟨d, 30, none⟩ = some (.int .i64 i.b.x) := hB1.b.cell 30; have c31 : w5.cell? ⟨d, 31, none⟩ = some (.int .u32 i.b.sc) := hB1.b.cell 31; have c10 : w5.cell? ⟨d, 10, none⟩ = some (.bool s.cf) := hB1.b.cell 10; have c11 : w5.cell? ⟨d, 11, none⟩ = some (.bool s.pf) := hB1.b.cell 11; have c12 : w5.cell? ⟨d, 12, none⟩ = some (.bool s.af) := hB1.b.cell 12; have c13 : w5.cell? ⟨d, 13, none⟩ = some (.bool s.zf) := hB1.b.cell 13; have c14 : w5.cell? ⟨d, 14, none⟩ = some (.bool s.sf) := hB1.b.cell 14; have c15 : w5.cell? ⟨d, 15, none⟩ = some (.bool s.of_) := hB1.b.cell 15
   have HB := Yh_ hB2
   clear hB1 hB2 hdep
   go_wp2_with fail
   first
   |exact hK _ (HB.out.same _ (by decide) (by decide))
   |exact HB.out.same _ (by decide) (by decide)
  ·exact ⟨_, rfl⟩
 apply Yd rfl rfl
 ·intro dn r0 K hd hdep hK w5 hB2
  have HB := Yh_ hB2
  clear hB2 hdep
  go_wp2_with (go_at_call 47; refine (Yhp 10 v x s.fl _ HOP.out HVR.out HBR.out).mono ?_; rintro e w6 ⟨rfl, hu⟩; rw [HRV.out.1, HRV.out.2]; unfold Fl.cells)
  first
  |exact hK _ (HB.out.quiet hu _ (by decide) (by decide))
  |exact HB.out.quiet hu _ (by decide) (by decide)
 ·exact ⟨_, rfl⟩
 iterate 3
  apply Yd rfl rfl
  ·intro dn r0 K hd hdep hK w5 hB2
   have hB1 := hB2.q
   have c18 : w5.cell? ⟨d, 18, none⟩ = some (.int .i64 10) := (by rw [← HOQ.out]; exact hB1.b.cell 18); have c26 : w5.cell? ⟨d, 26, none⟩ = some (.int .i64 i.b.k) := hB1.b.cell 26; have c27 : w5.cell? ⟨d, 27, none⟩ = some (.int .i64 i.b.r) := hB1.b.cell 27; have c28 : w5.cell? ⟨d, 28, none⟩ = some (.int .u32 i.b.imm) := hB1.b.cell 28; have c29 : w5.cell? ⟨d, 29, none⟩ = some (.int .i64 i.b.b) := hB1.b.cell 29; have c30 : w5.cell? ⟨d, 30, none⟩ = some (.int .i64 i.b.x) := hB1.b.cell 30; have c31 : w5.cell? ⟨d, 31, none⟩ = some (.int .u32 i.b.sc) := hB1.b.cell 31; have c10 : w5.cell? ⟨d, 10, none⟩ = some (.bool s.cf) := hB1.b.cell 10; have c11 : w5.cell? ⟨d, 11, none⟩ = some (.bool s.pf) := hB1.b.cell 11; have c12 : w5.cell? ⟨d, 12, none⟩ = some (.bool s.af) := hB1.b.cell 12; have c13 : w5.cell? ⟨d, 13, none⟩ = some (.bool s.zf) := hB1.b.cell 13; have c14 : w5.cell? ⟨d, 14, none⟩ = some (.bool s.sf) := hB1.b.cell 14; have c15 : w5.cell? ⟨d, 15, none⟩ = some (.bool s.of_) := hB1.b.cell 15
   have HB := Yh_ hB2
   clear hB1 hB2 hdep
   go_wp2_with fail
   first
   |exact hK _ (HB.out.same _ (by decide) (by decide))
   |exact HB.out.same _ (by decide) (by decide)
  ·exact ⟨_, rfl⟩
 refine Yak rfl (fun _ => rfl) 5 rfl (by simp [Act.put]) ?_ ?_
 ·intro dn r0 K hd w5 hB2 hK
  have HB := Yh_ hB2
  clear hB2
  simp only [Yn]
  go_wp2_with fail
  first
  |exact hK (.pointer (some ⟨w5.heap.size, 0, none⟩)) _ (HB.out.lay hd (by decide))
  |exact HB.out.lay hd (by decide)
 iterate 1
  apply Ya4 rfl (fun _ => rfl)
  ·intro dn r0 K hd hdep hK w5 hB2
   have hB1 := hB2.q
   have c18 : w5.cell? ⟨d, 18, none⟩ = some (.int .i64 10) := (by rw [← HOQ.out]; exact hB1.b.cell 18); have c26 : w5.cell? ⟨d, 26, none⟩ = some (.int .i64 i.b.k) := hB1.b.cell 26; have c27 : w5.cell? ⟨d, 27, none⟩ = some (.int .i64 i.b.r) := hB1.b.cell 27; have c28 : w5.cell? ⟨d, 28, none⟩ = some (.int .u32 i.b.imm) := hB1.b.cell 28; have c29 : w5.cell? ⟨d, 29, none⟩ = some (.int .i64 i.b.b) := hB1.b.cell 29; have c30 : w5.cell? ⟨d, 30, none⟩ = some (.int .i64 i.b.x) := hB1.b.cell 30; have c31 : w5.cell? ⟨d, 31, none⟩ = some (.int .u32 i.b.sc) := hB1.b.cell 31; have c10 : w5.cell? ⟨d, 10, none⟩ = some (.bool s.cf) := hB1.b.cell 10; have c11 : w5.cell? ⟨d, 11, none⟩ = some (.bool s.pf) := hB1.b.cell 11; have c12 : w5.cell? ⟨d, 12, none⟩ = some (.bool s.af) := hB1.b.cell 12; have c13 : w5.cell? ⟨d, 13, none⟩ = some (.bool s.zf) := hB1.b.cell 13; have c14 : w5.cell? ⟨d, 14, none⟩ = some (.bool s.sf) := hB1.b.cell 14; have c15 : w5.cell? ⟨d, 15, none⟩ = some (.bool s.of_) := hB1.b.cell 15
   have HB := Yh_ hB2
   clear hB1 hB2 hdep
   simp only [Yn]
   go_wp2_with fail
   first
   |exact hK _ (HB.out.same _ (by decide) (by decide))
   |exact HB.out.same _ (by decide) (by decide)
  ·exact ⟨_, fun _ => rfl, rfl⟩
 refine Yar (fun _ r0 w6 dn hall hB2 => ?_)
 obtain ⟨g, e1, hB1, hgl⟩ := hB2.fin (hall 22 (by decide))
 simp only [ite_self] at hB1
 show wpList _ _ _ _ (Act.put (Yn _ _ [] _) (some 5) (r0 22)) _
 rw [e1]
 simp only [Yn]
 clear e1 hall hB2
 have H6 := Yh_ hB1
 clear hB1 H5
 go_wp2_with (first | (have _t := H6; clear _t; refine Ye 25 rfl ?_; refine Ydg rfl 25 _ _ rfl g 0 (Fl.cells ⟨x0, x1, x2, x3, x4, x5⟩) rfl rfl H6.out.one (show 0 + 6 ≤ 6 by decide) Yef (Yfy _) ?_; intro w7 hw; have H7 := Yh_ (H6.out.put hgl.1 hgl.2.1 hgl.2.2 (wr_fl Fl.zero ⟨x0, x1, x2, x3, x4, x5⟩) hw); have cg := Ya H7.out.one; unfold Fl.cells at cg; clear hw H6 hgl) | (have _t := H7; clear _t; refine Ye 25 rfl ?_; refine wpList_store_mid rfl 25 _ _ rfl d 10 (Fl.cells ⟨x0, x1, x2, x3, x4, x5⟩) rfl rfl (Ydc H7.out.b.h 10 6 (by rw [Ygt]; decide)) Yef (Yfy _) ?_; have H8 := Yh_ (H7.out.putFl ⟨x0, x1, x2, x3, x4, x5⟩); have c20 : (w7.setCells d 10 (Fl.cells ⟨x0, x1, x2, x3, x4, x5⟩).toList).cell? ⟨d, 20, none⟩ = some (.int .i64 i.a.k) := H8.out.b.cell 20; have c21 : (w7.setCells d 10 (Fl.cells ⟨x0, x1, x2, x3, x4, x5⟩).toList).cell? ⟨d, 21, none⟩ = some (.int .i64 i.a.r) := H8.out.b.cell 21; have c22 : (w7.setCells d 10 (Fl.cells ⟨x0, x1, x2, x3, x4, x5⟩).toList).cell? ⟨d, 22, none⟩ = some (.int .u32 i.a.imm) := H8.out.b.cell 22; have c23 : (w7.setCells d 10 (Fl.cells ⟨x0, x1, x2, x3, x4, x5⟩).toList).cell? ⟨d, 23, none⟩ = some (.int .i64 i.a.b) := H8.out.b.cell 23; have c24 : (w7.setCells d 10 (Fl.cells ⟨x0, x1, x2, x3, x4, x5⟩).toList).cell? ⟨d, 24, none⟩ = some (.int .i64 i.a.x) := H8.out.b.cell 24; have c25 : (w7.setCells d 10 (Fl.cells ⟨x0, x1, x2, x3, x4, x5⟩).toList).cell? ⟨d, 25, none⟩ = some (.int .u32 i.a.sc) := H8.out.b.cell 25; clear H7 cg))
 go_end0
 exact ⟨rfl, H8.out.b, H8.out.u⟩
section
def mS (s : St) (x y : Int) (b1 b2 : Bool) : St := let t := if b1 = true then s.setR 0 x else s; if b2 = true then t.setR 2 y else t
theorem mS_comm (s : St) (x y : Int) : (s.setR 2 y).setR 0 x = (s.setR 0 x).setR 2 y := by
 unfold St.setR
 dsimp only
 congr 1
 funext j
 by_cases h0 : j = 0
 ·simp [h0]
 ·simp [h0]
theorem mS_first (s : St) (x y : Int) (b : Bool) : (mS s x y false b).setR 0 x = mS s x y true b := by
 cases b
 ·rfl
 ·exact mS_comm s x y
theorem mS_R0 (s : St) (x y : Int) (b2 : Bool) : (mS s x y false b2).R 0 = s.R 0 := by cases b2 <;> rfl
structure D9 (w : World) (d a pb : Nat) (s : St) (i : Ins) (M : Mem) (x y : Int) (dn : Nat → Bool) (w1 : World) : Prop where
 i1 : dn 18 = true → dn 11 = true
 i2 : dn 19 = true → dn 18 = true
 i3 : dn 20 = true → dn 19 = true
 i4 : dn 25 = true → dn 11 = true
 q : Dq w d a pb (mS s x y (dn 25) (dn 28)) i M [] w1
theorem Yfv {dn : Nat → Bool} {p q : Nat} (h : dn p = true → dn q = true) (j : Nat) (hj : p ≠ j) : Yai dn j p = true → Yai dn j q = true := by
 rw [Yp hj]
 intro hp
 by_cases e : q = j
 ·rw [e]; exact Yda
 ·rw [Yp e]; exact h hp
theorem imp_at {dn : Nat → Bool} {p q : Nat} (h : dn q = true) : Yai dn p p = true → Yai dn p q = true := by
 intro _
 by_cases e : q = p
 ·rw [e]; exact Yda
 ·rw [Yp e]; exact h
section
variable {w w1 w2 : World} {d a pb : Nat} {s : St} {i : Ins} {M : Mem} {x y : Int} {dn : Nat → Bool}
theorem D9.start (h : Dq w d a pb s i M [] w1) : D9 w d a pb s i M x y (fun _ => false) w1.drew :=
 ⟨fun h => (by cases h), fun h => (by cases h), fun h => (by cases h), fun h => (by cases h), h.drew⟩
theorem D9.same (h : D9 w d a pb s i M x y dn w1) (u : Upd [] w1 w2) (j : Nat) (h1 : 18 ≠ j) (h2 : 19 ≠ j) (h3 : 20 ≠ j) (h4 : 25 ≠ j) (h5 : 28 ≠ j) : D9 w d a pb s i M x y (Yai dn j) w2 :=
 ⟨Yfv h.i1 j h1, Yfv h.i2 j h2, Yfv h.i3 j h3, Yfv h.i4 j h4, by rw [Yp h4, Yp h5]; exact h.q.quiet u⟩
theorem D9.call (h : D9 w d a pb s i M x y dn w1) (u : Upd [] w1 w2) (hd : dn 11 = true) : D9 w d a pb s i M x y (Yai dn 18) w2 :=
 ⟨imp_at hd, Yfv h.i2 18 (by decide), Yfv h.i3 18 (by decide), Yfv h.i4 18 (by decide), by rw [Yp (by decide), Yp (by decide)]; exact h.q.quiet u⟩
theorem D9.c1 (h : D9 w d a pb s i M x y dn w1) (hd : dn 11 = false) : w1.cell? ⟨d, 1, none⟩ = some (.int .u32 (s.R 0)) := by
 have h0 : dn 25 = false := by
  cases e : dn 25 with
  |false => rfl
  |true => rw [h.i4 e] at hd; cases hd
 have := h.q.b.cR 0 (by decide)
 rw [h0, mS_R0] at this
 exact this
structure D6 (w : World) (d a pb : Nat) (s : St) (i : Ins) (M : Mem) (x : Int) (dn : Nat → Bool) (w1 : World) : Prop where
 q : Dq w d a pb (mS s x 0 (dn 6) false) i M [] w1
theorem D6.start (h : Dq w d a pb s i M [] w1) : D6 w d a pb s i M x (fun _ => false) w1.drew := ⟨h.drew⟩
theorem D6.same (h : D6 w d a pb s i M x dn w1) (j : Nat) (hj : 6 ≠ j) : D6 w d a pb s i M x (Yai dn j) w1 := ⟨by rw [Yp hj]; exact h.q⟩
theorem D6.put (h : D6 w d a pb s i M x dn w1) (h0 : dn 6 = false) (hx : 0 ≤ x ∧ x < 4294967296) : D6 w d a pb s i M x (Yai dn 6) (w1.setCell ⟨d, 1, none⟩ (.int .u32 x)) := by
 have hq := h.q
 rw [h0] at hq
 refine ⟨?_⟩
 rw [Yda, ← mS_first]
 exact hq.next (hq.b.setR 0 (by decide) x hx) ((Upd.refl [d, pb] w1).setCell (p := ⟨d, 1, none⟩) (.inl (by simp)) _)
end
end
structure Hs where
 x : Nat → Int
 mem : Value
 pc : Int
 why : Int
def Hs.at_ (H : Hs) (k : Nat) : Value := if k < 32 then .int .u32 (H.x k) else if k = 32 then H.mem else if k = 33 then .int .u32 H.pc else .int .u32 H.why
def Hs.cells (H : Hs) : Array Value := (Array.range 35).map H.at_
def Hs.set (H : Hs) (i : Nat) (v : Int) : Hs := { H with x := fun j => if j = i then v else H.x j }
def Hs.get (H : Hs) (i : Int) : Int := if i < 1 ∨ 32 ≤ i then 0 else H.x i.toNat
def Hs.put (H : Hs) (i v : Int) : Hs := if i < 1 ∨ 32 ≤ i then H else H.set i.toNat v
theorem Hs.cell (H : Hs) (k : Nat) (h : k < 35) : H.cells[k]? = some (H.at_ k) := by simp [Hs.cells, h]
theorem Hs.size (H : Hs) : H.cells.size = 35 := by simp [Hs.cells]
def Hs.zero (m : Nat) : Hs := ⟨fun _ => 0, .slice (some ⟨m, 0, none⟩) 32768 32768, 1024, 0⟩
def Hs.two (H : Hs) (i : Int) : Int := H.get (10 + i) + H.get (11 + i) * 4294967296
section
def cS (s : St) (z p : Bool) (b1 b2 : Bool) : St := { s with zf := cond b1 z s.zf, pf := cond b2 p s.pf }
structure D21 (w : World) (d a pb : Nat) (s : St) (i : Ins) (M : Mem) (z p : Bool) (dn : Nat → Bool) (w1 : World) : Prop where
 q : Dq w d a pb (cS s z p (dn 17) (dn 21)) i M [] w1
def mM (M M2 : Mem) (b : Bool) : Mem := cond b M2 M
structure D5 (w : World) (d a pb : Nat) (s : St) (i : Ins) (M M2 : Mem) (n0 : Nat) (V : Array Value) (dn : Nat → Bool) (r : Nat → Value) (w1 : World) : Prop where
 q : Dq w d a pb s i (mM M M2 (dn 17)) [] w1
 b : n0 ≤ w1.heap.size
 lt : (d < n0 ∧ a < n0 ∧ pb < n0) ∧ w.heap.size ≤ n0
 x : dn 21 = true → ∃ g, r 21 = .pointer (some ⟨g, 0, none⟩) ∧ n0 ≤ g ∧ w1.heap[g]? = some (.cells (if dn 22 = true then V else Ys Flt.zero) 35 (0, 0))
 xo : dn 22 = true → dn 21 = true
section
variable {w w1 w2 : World} {d a pb n0 : Nat} {s : St} {i : Ins} {M M2 : Mem} {z p : Bool} {V : Array Value} {dn : Nat → Bool} {r : Nat → Value}
theorem D21.start (h : Dq w d a pb s i M [] w1) : D21 w d a pb s i M z p (fun _ => false) w1.drew := ⟨h.drew⟩
theorem D21.quiet (h : D21 w d a pb s i M z p dn w1) (u : Upd [] w1 w2) (j : Nat) (h1 : 17 ≠ j) (h2 : 21 ≠ j) : D21 w d a pb s i M z p (Yai dn j) w2 := ⟨by rw [Yp h1, Yp h2]; exact h.q.quiet u⟩
theorem D21.next (h : D21 w d a pb s i M z p dn w1) (hd : Yx w2 d a pb (cS s z p (dn 17) (dn 21)) i M) (u : Upd [d, pb] w1 w2) (j : Nat) (h1 : 17 ≠ j) (h2 : 21 ≠ j) : D21 w d a pb s i M z p (Yai dn j) w2 := ⟨by rw [Yp h1, Yp h2]; exact h.q.next hd u⟩
theorem D5.start (h : Dq w d a pb s i M [] w1) (M2 : Mem) (V : Array Value) (r : Nat → Value) : D5 w d a pb s i M M2 w1.heap.size V (fun _ => false) r w1.drew :=
 ⟨h.drew, ((Upd.refl [] w1).drew).size, ⟨⟨h.lts.1, h.lts.2.1, h.lts.2.2.1⟩, h.u.size⟩, fun h => (by cases h), fun h => (by cases h)⟩
theorem D5.quiet (h : D5 w d a pb s i M M2 n0 V dn r w1) (u : Upd [] w1 w2) (j : Nat) (h0 : 17 ≠ j) (h1 : 21 ≠ j) (h2 : 22 ≠ j) : D5 w d a pb s i M M2 n0 V (Yai dn j) r w2 := by
 refine ⟨by rw [Yp h0]; exact h.q.quiet u, Nat.le_trans h.b u.size, h.lt, fun hx => ?_, fun hx => ?_⟩
 ·rw [Yp h1] at hx
  obtain ⟨g, e1, e2, e3⟩ := h.x hx
  exact ⟨g, e1, e2, by rw [Yp h2]; exact u.get e3 (by simp)⟩
 ·rw [Yp h2] at hx; rw [Yp h1]; exact h.xo hx
theorem D5.same (h : D5 w d a pb s i M M2 n0 V dn r w1) (j : Nat) (h0 : 17 ≠ j) (h1 : 21 ≠ j) (h2 : 22 ≠ j) : D5 w d a pb s i M M2 n0 V (Yai dn j) r w1 := h.quiet (Upd.refl [] w1) j h0 h1 h2
theorem D5.call (h : D5 w d a pb s i M M2 n0 V dn r w1) (hm : Yj w2 a pb M2) (u : Upd [pb] w1 w2) : D5 w d a pb s i M M2 n0 V (Yai dn 17) r w2 := by
 have hl := h.lt
 refine ⟨by rw [Yda]; exact h.q.next (h.q.b.mem u hm) (u.mono (by simp)), Nat.le_trans h.b u.size, h.lt, fun hx => ?_, fun hx => ?_⟩
 ·rw [Yp (by decide)] at hx
  obtain ⟨g, e1, e2, e3⟩ := h.x hx
  exact ⟨g, e1, e2, by rw [Yp (by decide)]; exact u.get e3 (by simp; omega)⟩
 ·rw [Yp (by decide)] at hx; rw [Yp (by decide)]; exact h.xo hx
theorem D5.lay (h : D5 w d a pb s i M M2 n0 V dn r w1) (hd : dn 21 = false) : D5 w d a pb s i M M2 n0 V (Yai dn 21) (Ycw r 21 (.pointer (some ⟨w1.heap.size, 0, none⟩))) (w1.alloc (.cells (Ys Flt.zero) 35)) := by
 have hdm : dn 22 = false := by
  cases e : dn 22 with
  |false => rfl
  |true => rw [h.xo e] at hd; cases hd
 have u := (Upd.refl [] w1).alloc (.cells (Ys Flt.zero) 35)
 refine ⟨by rw [Yp (by decide)]; exact h.q.quiet u, Nat.le_trans h.b u.size, h.lt, fun _ => ⟨_, Yfm, h.b, ?_⟩, fun _ => Yda⟩
 rw [Yp (by decide), hdm]
 exact heap_alloc_new _ _
theorem D5.put (h : D5 w d a pb s i M M2 n0 V dn r w1) (hd : dn 21 = true) {g : Nat} (e1 : r 21 = .pointer (some ⟨g, 0, none⟩)) (hv : ∀ c, (c = V ∨ c = Ys Flt.zero) → wr c 0 V.toList = V) : D5 w d a pb s i M M2 n0 V (Yai dn 22) r (w1.setCells g 0 V.toList) := by
 obtain ⟨g', e1', e2, e3⟩ := h.x hd
 obtain rfl : g' = g := by rw [e1] at e1'; injection e1' with e; injection e with e; injection e with e; exact e.symm
 have u := (Upd.refl [g'] w1).setCells (q := g') (.inl (by simp)) V.toList 0
 have hl := h.lt.1
 refine ⟨by rw [Yp (by decide)]; exact ⟨h.q.b.keep u (by simp; omega) (by simp; omega) (by simp; omega), by simp, h.q.u.also u (fun x hx => .inr (by rw [List.mem_singleton.1 hx]; exact Nat.le_trans h.lt.2 e2)), by simp⟩, Nat.le_trans h.b u.size, h.lt, fun _ => ⟨g', e1, e2, ?_⟩, fun _ => by rw [Yp (by decide)]; exact hd⟩
 rw [Yda, if_pos rfl, Yaf _ _ _ _ e3, hv _ (by split <;> simp)]
end
end
theorem outs_yes (kb sb ub : Nat) (w : World) (hk : w.heap[kb]? = some (.cells #[.bool true] 4 (0, 0))) :
  CallsD Tryz.prog 30 #[.pointer (some ⟨kb, 0, none⟩), .pointer (some ⟨sb, 0, none⟩), .pointer (some ⟨ub, 0, none⟩)] .returning w fun e u' w' => e = .returned (.tuple #[]) ∧ u' = .returning ∧ w = w' := by
 refine callsD_of_wpS Tryz.func30 rfl fun c₀ cs hu => ?_
 simp only [Tryz.ntmps30, List.size_toArray, List.length_cons, List.length_nil, Nat.reduceAdd, Nat.reduceSub, Array.replicate_succ, Array.replicate_zero, List.push_toArray, List.append_toArray, List.nil_append, List.cons_append]
 refine wpS_of_wp ?_
 have ck := Ya hk
 have HU := Yh_ hu
 clear hu hk
 go_wp2_with fail
 refine ⟨rfl, .returning, ?_, _, results_none rfl _ _ _, rfl, rfl, rfl⟩
 rw [← HU.out]
theorem outs_no (kb sb ub : Nat) (s : St) (c : Array Value) (w : World) (hk : w.heap[kb]? = some (.cells #[.bool false] 4 (0, 0))) (hs : w.heap[sb]? = some (.cells s.cells 28 (0, 0))) (hb : w.heap[ub]? = some (.cells c 28 (0, 0))) (hc : c.size = 17) :
  CallsD Tryz.prog 30 #[.pointer (some ⟨kb, 0, none⟩), .pointer (some ⟨sb, 0, none⟩), .pointer (some ⟨ub, 0, none⟩)] .returning w fun e u' w' => e = .returned (.tuple #[]) ∧ u' = .returning ∧ w' = w.setCells ub 0 s.cells.toList := by
 refine callsD_of_wpS Tryz.func30 rfl fun c₀ cs hu => ?_
 simp only [Tryz.ntmps30, List.size_toArray, List.length_cons, List.length_nil, Nat.reduceAdd, Nat.reduceSub, Array.replicate_succ, Array.replicate_zero, List.push_toArray, List.append_toArray, List.nil_append, List.cons_append]
 refine wpS_of_wp ?_
 have ck := Ya hk
 have HU := Yh_ (And.intro hu (And.intro hs hb))
 clear hu hk hs hb
 have tokL : True := trivial
 have tokS : True := trivial
 go_wp2_with (first | (have _t := tokL; clear _t tokL; refine Yr 28 rfl ?_; refine Yy s sb rfl _ rfl rfl HU.out.2.1 ?_) | (have _t := tokS; clear _t tokS; refine Ye 28 rfl ?_; refine Yc7 s ub rfl _ _ rfl rfl rfl HU.out.2.2 hc ?_))
 refine ⟨rfl, .returning, ?_, _, results_none rfl _ _ _, rfl, rfl, rfl⟩
 rw [← HU.out.1]
theorem Yk4 (a : Nat) (s : St) (i : Ins) (w : World) : (Instr.build 86 #[(0, .pointer (some ⟨a, 0, none⟩)), (1, .agg s.cells), (2, .agg i.cells)]).run Tryz.prog w = .ok (.agg (Ybv a s i)) w := by
 unfold St.cells Ins.cells Ybv
 kernel_rfl
theorem Yf7 {ops : Array Oper} {rest : List Oper} {o : Oper} {a : Act} {w : World} {Q : Exit → Act → World → Prop} (hgd : o.guard = none) (p : Nat) (s : St) (i : Ins) (x y z : Operand) (ho : o.op = .build 86 #[(0, x), (1, y), (2, z)]) (hx : a.eval x = .pointer (some ⟨p, 0, none⟩)) (hy : a.eval y = .agg s.cells) (hz : a.eval z = .agg i.cells)
  (h : wpList Tryz.prog ops Q rest (a.put o.dst (.agg (Ybv p s i))) w) : wpList Tryz.prog ops Q (o :: rest) a w := by
 refine wpList_plain hgd fun _ hK => ?_
 unfold Oper.wp execOp
 simp only [ho, List.map_toArray, List.map_cons, List.map_nil, hx, hy, hz, Sem.run_bind, Yk4, Result.andThen_ok, Sem.run_pure]
 exact hK _ _ h
def St.goOn (s : St) (n : Int) : St := { s with pc := (s.pc + n) % 4294967296 }
theorem St.goOn_ok {s : St} (h : s.Ok) (n : Int) : (s.goOn n).Ok := ⟨h.R, by simp only [St.goOn]; omega, h.f⟩
def Yl9 (pc : Int) (fb kb sb ub : Nat) : List Deferred :=
 [{ target := .fn (.func 31) #[], args := #[.int .u32 pc, .pointer (some ⟨fb, 0, none⟩), .pointer (some ⟨kb, 0, none⟩)] },
  { target := .fn (.func 30) #[.pointer (some ⟨kb, 0, none⟩), .pointer (some ⟨sb, 0, none⟩), .pointer (some ⟨ub, 0, none⟩)], args := #[] }]
theorem Yo2 {fn : Func} {tmps : Array Value} {R : Ending → World → Prop} {w1 : World} {pc : Int} {fb kb sb ub : Nat} (V : Value) (hk : w1.heap[kb]? = some (.cells #[.bool true] 4 (0, 0))) (hres : (results fn tmps).run Tryz.prog w1 = .ok V w1) (hR : R (.returned V) w1) :
  Leaves Tryz.prog fn tmps R (Yl9 pc fb kb sb ub) .returning w1 := by
 refine leaves_cons (f := 31) (args := #[.int .u32 pc, .pointer (some ⟨fb, 0, none⟩), .pointer (some ⟨kb, 0, none⟩)]) (by simp) (by simp [go_sem]) ?_
 refine (Yhr _ _ _ w1).mono ?_
 rintro e u' w2 ⟨rfl, rfl, rfl⟩
 simp only [settle]
 refine leaves_cons (f := 30) (args := #[.pointer (some ⟨kb, 0, none⟩), .pointer (some ⟨sb, 0, none⟩), .pointer (some ⟨ub, 0, none⟩)]) (by simp) (by simp [go_sem]) ?_
 refine (outs_yes kb sb ub _ hk).mono ?_
 rintro e u' w2 ⟨rfl, rfl, rfl⟩
 simp only [settle]
 exact ⟨_, hres, hR⟩
theorem Ykz {fn : Func} {tmps : Array Value} {R : Ending → World → Prop} {w1 : World} {pc : Int} {fb kb sb ub : Nat} {y0 y1 y2 y3 k0 : Value} {s : St} {c : Array Value} (F : Flt) (V : Value)
  (hf : w1.heap[fb]? = some (.cells #[y0, y1, y2, y3] 35 (0, 0))) (hk : w1.heap[kb]? = some (.cells #[k0] 4 (0, 0))) (hs : w1.heap[sb]? = some (.cells s.cells 28 (0, 0))) (hu : w1.heap[ub]? = some (.cells c 28 (0, 0))) (hc : c.size = 17)
  (hne : fb ≠ kb ∧ fb ≠ sb ∧ fb ≠ ub ∧ kb ≠ sb ∧ kb ≠ ub ∧ sb ≠ ub)
  (hres : ∀ w2, w2.heap[fb]? = some (.cells #[.int .i64 F.k, .int .u32 pc, .int .u32 F.a, .int .i64 F.wt] 35 (0, 0)) → w2.heap[kb]? = some (.cells #[.bool false] 4 (0, 0)) → w2.heap[ub]? = some (.cells s.cells 28 (0, 0)) → (results fn tmps).run Tryz.prog w2 = .ok V w2)
  (hR : ∀ w2, Upd [fb, kb, ub] w1 w2 → R (.returned V) w2) :
  Leaves Tryz.prog fn tmps R (Yl9 pc fb kb sb ub) (.panicking [{ v := .iface 35 F.val, recovered := false }]) w1 := by
 refine leaves_cons (f := 31) (args := #[.int .u32 pc, .pointer (some ⟨fb, 0, none⟩), .pointer (some ⟨kb, 0, none⟩)]) (by simp) (by simp [go_sem]) ?_
 refine (Yfi pc fb kb _ _ _ _ _ _ _ _ _ [] w1 hf hk hne.1).mono ?_
 rintro e u' w2 ⟨rfl, rfl, hf2, hk2, hU⟩
 simp only [settle, List.dropWhile_nil]
 have hs2 := hU.get hs (by simp; omega)
 have hu2 := hU.get hu (by simp; omega)
 refine leaves_cons (f := 30) (args := #[.pointer (some ⟨kb, 0, none⟩), .pointer (some ⟨sb, 0, none⟩), .pointer (some ⟨ub, 0, none⟩)]) (by simp) (by simp [go_sem]) ?_
 refine (outs_no kb sb ub s c _ hk2 hs2 hu2 hc).mono ?_
 rintro e u' w3 ⟨rfl, rfl, rfl⟩
 simp only [settle]
 have u3 : Upd [ub] w2 (w2.setCells ub 0 s.cells.toList) := (Upd.refl [ub] w2).setCells (.inl (by simp)) _ _
 exact ⟨_, hres _ (u3.get hf2 (by simp; omega)) (u3.get hk2 (by simp; omega)) (Ybg s hu2 hc), hR _ ((hU.mono (by simp)).trans u3 (fun _ h => h) (fun x hx => .inl (by simp at hx; simp [hx])))⟩
structure DoS (w : World) (s : St) (i : Ins) (w1 : World) : Prop where
 zs : w1.heap[w.heap.size]? = some (.cells s.cells 28 (0, 0))
 zi : w1.heap[w.heap.size + 1]? = some (.cells i.cells 41 (0, 0))
 zo : w1.heap[w.heap.size + 1 + 1]? = some (.cells St.zero.cells 28 (0, 0))
 zf : w1.heap[w.heap.size + 1 + 1 + 1]? = some (.cells #[.int .i64 0, .int .u32 0, .int .u32 0, .int .i64 0] 35 (0, 0))
 zk : w1.heap[w.heap.size + 1 + 1 + 1 + 1]? = some (.cells #[.bool false] 4 (0, 0))
theorem DoS.keep {w w1 w2 : World} {s : St} {i : Ins} {S : List Nat} (h : DoS w s i w1) (u : Upd S w1 w2) (hS : ∀ x, x ∈ S → x < w.heap.size ∨ w.heap.size + 4 < x) : DoS w s i w2 := by
 have n : ∀ k, k ≤ 4 → w.heap.size + k ∉ S := fun k hk hh => by have := hS _ hh; omega
 exact ⟨u.get h.zs (n 0 (by decide)), u.get h.zi (n 1 (by decide)), u.get h.zo (n 2 (by decide)), u.get h.zf (n 3 (by decide)), u.get h.zk (n 4 (by decide))⟩
def doW (w : World) (s : St) (i : Ins) : World := ((((w.alloc (.cells s.cells 28)).alloc (.cells i.cells 41)).alloc (.cells St.zero.cells 28)).alloc (.cells #[.int .i64 0, .int .u32 0, .int .u32 0, .int .i64 0] 35)).alloc (.cells #[.bool false] 4)
theorem doW_up (w : World) (s : St) (i : Ins) : Upd [] w (doW w s i) := (((((Upd.refl [] w).alloc _).alloc _).alloc _).alloc _).alloc _
theorem DoS.start (w : World) (s : St) (i : Ins) : DoS w s i (doW w s i) := by
 have h2 := heap_alloc_new ((w.alloc (.cells s.cells 28)).alloc (.cells i.cells 41)) (.cells St.zero.cells 28)
 have h3 := heap_alloc_new (((w.alloc (.cells s.cells 28)).alloc (.cells i.cells 41)).alloc (.cells St.zero.cells 28)) (.cells #[.int .i64 0, .int .u32 0, .int .u32 0, .int .i64 0] 35)
 have h4 := heap_alloc_new ((((w.alloc (.cells s.cells 28)).alloc (.cells i.cells 41)).alloc (.cells St.zero.cells 28)).alloc (.cells #[.int .i64 0, .int .u32 0, .int .u32 0, .int .i64 0] 35)) (.cells #[.bool false] 4)
 rw [show ((w.alloc (.cells s.cells 28)).alloc (.cells i.cells 41)).heap.size = w.heap.size + 1 + 1 from by simp] at h2
 rw [show (((w.alloc (.cells s.cells 28)).alloc (.cells i.cells 41)).alloc (.cells St.zero.cells 28)).heap.size = w.heap.size + 1 + 1 + 1 from by simp] at h3
 rw [show ((((w.alloc (.cells s.cells 28)).alloc (.cells i.cells 41)).alloc (.cells St.zero.cells 28)).alloc (.cells #[.int .i64 0, .int .u32 0, .int .u32 0, .int .i64 0] 35)).heap.size = w.heap.size + 1 + 1 + 1 + 1 from by simp] at h4
 exact ⟨Ym _ (Ym _ (Ym _ (heap_alloc2_old _ _ _))), Ym _ (Ym _ (Ym _ (heap_alloc2_new _ _ _))), Ym _ (Ym _ h2), Ym _ h3, h4⟩
end Go.Proofs.YthakgjpejhjaoaaGreat
