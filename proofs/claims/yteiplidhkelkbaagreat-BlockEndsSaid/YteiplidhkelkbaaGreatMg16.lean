/-
  Parts of the proof (their names shortened by a program). No condition.
-/
import Derived.Test.YteiplidhkelkbaaGreatMg01
import Derived.Test.YteiplidhkelkbaaGreatMg15
namespace Go.Proofs.YteiplidhkelkbaaGreat
open Go Go.RowKit
set_option linter.unusedVariables false
set_option linter.unusedSimpArgs false
set_option maxRecDepth 100000
set_option maxHeartbeats 16000000
structure O9 (w : World) (a b : Opd) (w1 : World) : Prop where
 a : w1.heap[w.heap.size]? = some (.cells #[.int .i64 a.k, .int .i64 a.r, .int .u32 a.imm, .int .i64 a.b, .int .i64 a.x, .int .u32 a.sc] 40 (0, 0))
 b : w1.heap[w.heap.size + 1]? = some (.cells #[.int .i64 b.k, .int .i64 b.r, .int .u32 b.imm, .int .i64 b.b, .int .i64 b.x, .int .u32 b.sc] 40 (0, 0))
 u : Upd [] w w1
theorem O9.step {w w1 w2 : World} {a b : Opd} (h : O9 w a b w1) (u : Upd [] w1 w2) : O9 w a b w2 := ⟨u.get h.a (by simp), u.get h.b (by simp), h.u.also u (by simp)⟩
theorem O9.start (w : World) (a b : Opd) : O9 w a b ((w.alloc (.cells #[.int .i64 a.k, .int .i64 a.r, .int .u32 a.imm, .int .i64 a.b, .int .i64 a.x, .int .u32 a.sc] 40)).alloc (.cells #[.int .i64 b.k, .int .i64 b.r, .int .u32 b.imm, .int .i64 b.b, .int .i64 b.x, .int .u32 b.sc] 40)) := by
 refine ⟨Yc _ (heap_alloc_new _ _), ?_, ((Upd.refl [] w).alloc _).alloc _⟩
 have := heap_alloc_new (w.alloc (.cells #[.int .i64 a.k, .int .i64 a.r, .int .u32 a.imm, .int .i64 a.b, .int .i64 a.x, .int .u32 a.sc] 40)) (.cells #[.int .i64 b.k, .int .i64 b.r, .int .u32 b.imm, .int .i64 b.b, .int .i64 b.x, .int .u32 b.sc] 40)
 rwa [show (w.alloc (.cells #[.int .i64 a.k, .int .i64 a.r, .int .u32 a.imm, .int .i64 a.b, .int .i64 a.x, .int .u32 a.sc] 40)).heap.size = w.heap.size + 1 from by simp] at this
theorem Yg5 : (∀ (a b : Opd) (w : World) (h0 : rmB a = true) (h1 : Yw b = false) (h2 : Ya0 b = false) (h3 : Yw a = true) (h4 : Ya7 b = true), Calls Tryz.prog 62 #[.int .i64 1, a.arg, b.arg] w fun e w' => e = .returned (.bool true) ∧ Upd [] w w') ∧
 (∀ (a b : Opd) (w : World) (h0 : rmB a = true) (h1 : Yw b = false) (h2 : Ya0 b = false) (h3 : Yw a = true) (h4 : Ya7 b = false), Calls Tryz.prog 62 #[.int .i64 1, a.arg, b.arg] w fun e w' => e = .returned (.bool false) ∧ Upd [] w w') := by
 refine ⟨fun a b w h0 h1 h2 h3 h4 => ?_, fun a b w h0 h1 h2 h3 h4 => ?_⟩
 all_goals
  have O1 := Yh_ (O9.start w a b)
  have H0 := Yh_ h0
  have H1 := Yh_ h1
  have H2 := Yh_ h2
  have H3 := Yh_ h3
  have H4 := Yh_ h4
  clear h0 h1 h2 h3 h4
  unfold Opd.arg
  go_enter Tryz.func62, Tryz.ntmps62
  go_wp2_with (first | (have _t := O1; clear _t; go_at_call 77; refine (Ycc a _).mono ?_; rintro e w2 ⟨rfl, hu⟩; rw [H0.out]; have O2 := Yh_ (O1.out.step hu); have ca := Ya O2.out.a; have cb := Ya O2.out.b; clear hu O1) | (have _t := O2; clear _t; go_at_call 78; refine (Ybg b _).mono ?_; rintro e w3 ⟨rfl, hu⟩; rw [H1.out]; have O3 := Yh_ (O2.out.step hu); clear ca cb; have ca := Ya O3.out.a; have cb := Ya O3.out.b; clear hu O2) | (have _t := O3; clear _t; go_at_call 79; refine (Ycw b _).mono ?_; rintro e w4 ⟨rfl, hu⟩; rw [H2.out]; have O4 := Yh_ (O3.out.step hu); clear ca cb; have ca := Ya O4.out.a; have cb := Ya O4.out.b; clear hu O3) | (have _t := O4; clear _t; go_at_call 78; refine (Ybg a _).mono ?_; rintro e w5 ⟨rfl, hu⟩; rw [H3.out]; have O5 := Yh_ (O4.out.step hu); clear ca cb; have ca := Ya O5.out.a; have cb := Ya O5.out.b; clear hu O4) | (have _t := O5; clear _t; go_at_call 80; refine (Ydr b _).mono ?_; rintro e w6 ⟨rfl, hu⟩; rw [H4.out]; have O6 := Yh_ (O5.out.step hu); clear ca cb; have ca := Ya O6.out.a; have cb := Ya O6.out.b; clear hu O5))
  go_ret
  exact ⟨rfl, O6.out.u⟩
theorem Ytd (a b : Opd) (w : World) (h0 : rmB a = true) (h1 : Yw b = false) (h2 : Ya0 b = false) (h3 : Yw a = false) : Calls Tryz.prog 62 #[.int .i64 1, a.arg, b.arg] w fun e w' => e = .returned (.bool false) ∧ Upd [] w w' := by
 have O1 := Yh_ (O9.start w a b)
 have H0 := Yh_ h0
 have H1 := Yh_ h1
 have H2 := Yh_ h2
 have H3 := Yh_ h3
 clear h0 h1 h2 h3
 unfold Opd.arg
 go_enter Tryz.func62, Tryz.ntmps62
 go_wp2_with (first | (have _t := O1; clear _t; go_at_call 77; refine (Ycc a _).mono ?_; rintro e w2 ⟨rfl, hu⟩; rw [H0.out]; have O2 := Yh_ (O1.out.step hu); have ca := Ya O2.out.a; have cb := Ya O2.out.b; clear hu O1) | (have _t := O2; clear _t; go_at_call 78; refine (Ybg b _).mono ?_; rintro e w3 ⟨rfl, hu⟩; rw [H1.out]; have O3 := Yh_ (O2.out.step hu); clear ca cb; have ca := Ya O3.out.a; have cb := Ya O3.out.b; clear hu O2) | (have _t := O3; clear _t; go_at_call 79; refine (Ycw b _).mono ?_; rintro e w4 ⟨rfl, hu⟩; rw [H2.out]; have O4 := Yh_ (O3.out.step hu); clear ca cb; have ca := Ya O4.out.a; have cb := Ya O4.out.b; clear hu O3) | (have _t := O4; clear _t; go_at_call 78; refine (Ybg a _).mono ?_; rintro e w5 ⟨rfl, hu⟩; rw [H3.out]; have O5 := Yh_ (O4.out.step hu); clear ca cb; have ca := Ya O5.out.a; have cb := Ya O5.out.b; clear hu O4))
 go_ret
 exact ⟨rfl, O5.out.u⟩
theorem Yu1 (a b : Opd) (w : World) (op : Int) (hlo : 3 ≤ op) (hhi : op ≤ 10) (h0 : rmB a = true) (h1 : Yw b = true) : Calls Tryz.prog 62 #[.int .i64 op, a.arg, b.arg] w fun e w' => e = .returned (.bool true) ∧ Upd [] w w' := by
 have e1 : (op == 1) = false := by rw [beq_eq_false_iff_ne]; omega
 have l3 : decide (3 ≤ op) = true := by simp; omega
 have g3 : decide (op ≤ 10) = true := by simp; omega
 have O1 := Yh_ (O9.start w a b)
 have H0 := Yh_ h0
 have H1 := Yh_ h1
 clear hlo hhi h0 h1
 unfold Opd.arg
 go_enter Tryz.func62, Tryz.ntmps62
 go_wp2_with (first | (have _t := O1; clear _t; go_at_call 77; refine (Ycc a _).mono ?_; rintro e w2 ⟨rfl, hu⟩; rw [H0.out]; have O2 := Yh_ (O1.out.step hu); have ca := Ya O2.out.a; have cb := Ya O2.out.b; clear hu O1) | (have _t := O2; clear _t; go_at_call 78; refine (Ybg b _).mono ?_; rintro e w3 ⟨rfl, hu⟩; rw [H1.out]; have O3 := Yh_ (O2.out.step hu); clear ca cb; have ca := Ya O3.out.a; have cb := Ya O3.out.b; clear hu O2))
 go_ret
 exact ⟨rfl, O3.out.u⟩
theorem Ytf (a b : Opd) (w : World) (op : Int) (hlo : 3 ≤ op) (hhi : op ≤ 10) (h0 : rmB a = true) (h1 : Yw b = false) (h2 : Ya0 b = true) : Calls Tryz.prog 62 #[.int .i64 op, a.arg, b.arg] w fun e w' => e = .returned (.bool true) ∧ Upd [] w w' := by
 have e1 : (op == 1) = false := by rw [beq_eq_false_iff_ne]; omega
 have l3 : decide (3 ≤ op) = true := by simp; omega
 have g3 : decide (op ≤ 10) = true := by simp; omega
 have O1 := Yh_ (O9.start w a b)
 have H0 := Yh_ h0
 have H1 := Yh_ h1
 have H2 := Yh_ h2
 clear hlo hhi h0 h1 h2
 unfold Opd.arg
 go_enter Tryz.func62, Tryz.ntmps62
 go_wp2_with (first | (have _t := O1; clear _t; go_at_call 77; refine (Ycc a _).mono ?_; rintro e w2 ⟨rfl, hu⟩; rw [H0.out]; have O2 := Yh_ (O1.out.step hu); have ca := Ya O2.out.a; have cb := Ya O2.out.b; clear hu O1) | (have _t := O2; clear _t; go_at_call 78; refine (Ybg b _).mono ?_; rintro e w3 ⟨rfl, hu⟩; rw [H1.out]; have O3 := Yh_ (O2.out.step hu); clear ca cb; have ca := Ya O3.out.a; have cb := Ya O3.out.b; clear hu O2) | (have _t := O3; clear _t; go_at_call 79; refine (Ycw b _).mono ?_; rintro e w4 ⟨rfl, hu⟩; rw [H2.out]; have O4 := Yh_ (O3.out.step hu); clear ca cb; have ca := Ya O4.out.a; have cb := Ya O4.out.b; clear hu O3))
 go_ret
 exact ⟨rfl, O4.out.u⟩
theorem Yg7 : (∀ (a b : Opd) (w : World) (op : Int) (hlo : 3 ≤ op) (hhi : op ≤ 10) (h0 : rmB a = true) (h1 : Yw b = false) (h2 : Ya0 b = false) (h3 : Yw a = true) (h4 : Ya7 b = true), Calls Tryz.prog 62 #[.int .i64 op, a.arg, b.arg] w fun e w' => e = .returned (.bool true) ∧ Upd [] w w') ∧
 (∀ (a b : Opd) (w : World) (op : Int) (hlo : 3 ≤ op) (hhi : op ≤ 10) (h0 : rmB a = true) (h1 : Yw b = false) (h2 : Ya0 b = false) (h3 : Yw a = true) (h4 : Ya7 b = false), Calls Tryz.prog 62 #[.int .i64 op, a.arg, b.arg] w fun e w' => e = .returned (.bool false) ∧ Upd [] w w') := by
 refine ⟨fun a b w op hlo hhi h0 h1 h2 h3 h4 => ?_, fun a b w op hlo hhi h0 h1 h2 h3 h4 => ?_⟩
 all_goals
  have e1 : (op == 1) = false := by rw [beq_eq_false_iff_ne]; omega
  have l3 : decide (3 ≤ op) = true := by simp; omega
  have g3 : decide (op ≤ 10) = true := by simp; omega
  have O1 := Yh_ (O9.start w a b)
  have H0 := Yh_ h0
  have H1 := Yh_ h1
  have H2 := Yh_ h2
  have H3 := Yh_ h3
  have H4 := Yh_ h4
  clear hlo hhi h0 h1 h2 h3 h4
  unfold Opd.arg
  go_enter Tryz.func62, Tryz.ntmps62
  go_wp2_with (first | (have _t := O1; clear _t; go_at_call 77; refine (Ycc a _).mono ?_; rintro e w2 ⟨rfl, hu⟩; rw [H0.out]; have O2 := Yh_ (O1.out.step hu); have ca := Ya O2.out.a; have cb := Ya O2.out.b; clear hu O1) | (have _t := O2; clear _t; go_at_call 78; refine (Ybg b _).mono ?_; rintro e w3 ⟨rfl, hu⟩; rw [H1.out]; have O3 := Yh_ (O2.out.step hu); clear ca cb; have ca := Ya O3.out.a; have cb := Ya O3.out.b; clear hu O2) | (have _t := O3; clear _t; go_at_call 79; refine (Ycw b _).mono ?_; rintro e w4 ⟨rfl, hu⟩; rw [H2.out]; have O4 := Yh_ (O3.out.step hu); clear ca cb; have ca := Ya O4.out.a; have cb := Ya O4.out.b; clear hu O3) | (have _t := O4; clear _t; go_at_call 78; refine (Ybg a _).mono ?_; rintro e w5 ⟨rfl, hu⟩; rw [H3.out]; have O5 := Yh_ (O4.out.step hu); clear ca cb; have ca := Ya O5.out.a; have cb := Ya O5.out.b; clear hu O4) | (have _t := O5; clear _t; go_at_call 80; refine (Ydr b _).mono ?_; rintro e w6 ⟨rfl, hu⟩; rw [H4.out]; have O6 := Yh_ (O5.out.step hu); clear ca cb; have ca := Ya O6.out.a; have cb := Ya O6.out.b; clear hu O5))
  go_ret
  exact ⟨rfl, O6.out.u⟩
theorem Ytm (a b : Opd) (w : World) (op : Int) (hlo : 3 ≤ op) (hhi : op ≤ 10) (h0 : rmB a = true) (h1 : Yw b = false) (h2 : Ya0 b = false) (h3 : Yw a = false) : Calls Tryz.prog 62 #[.int .i64 op, a.arg, b.arg] w fun e w' => e = .returned (.bool false) ∧ Upd [] w w' := by
 have e1 : (op == 1) = false := by rw [beq_eq_false_iff_ne]; omega
 have l3 : decide (3 ≤ op) = true := by simp; omega
 have g3 : decide (op ≤ 10) = true := by simp; omega
 have O1 := Yh_ (O9.start w a b)
 have H0 := Yh_ h0
 have H1 := Yh_ h1
 have H2 := Yh_ h2
 have H3 := Yh_ h3
 clear hlo hhi h0 h1 h2 h3
 unfold Opd.arg
 go_enter Tryz.func62, Tryz.ntmps62
 go_wp2_with (first | (have _t := O1; clear _t; go_at_call 77; refine (Ycc a _).mono ?_; rintro e w2 ⟨rfl, hu⟩; rw [H0.out]; have O2 := Yh_ (O1.out.step hu); have ca := Ya O2.out.a; have cb := Ya O2.out.b; clear hu O1) | (have _t := O2; clear _t; go_at_call 78; refine (Ybg b _).mono ?_; rintro e w3 ⟨rfl, hu⟩; rw [H1.out]; have O3 := Yh_ (O2.out.step hu); clear ca cb; have ca := Ya O3.out.a; have cb := Ya O3.out.b; clear hu O2) | (have _t := O3; clear _t; go_at_call 79; refine (Ycw b _).mono ?_; rintro e w4 ⟨rfl, hu⟩; rw [H2.out]; have O4 := Yh_ (O3.out.step hu); clear ca cb; have ca := Ya O4.out.a; have cb := Ya O4.out.b; clear hu O3) | (have _t := O4; clear _t; go_at_call 78; refine (Ybg a _).mono ?_; rintro e w5 ⟨rfl, hu⟩; rw [H3.out]; have O5 := Yh_ (O4.out.step hu); clear ca cb; have ca := Ya O5.out.a; have cb := Ya O5.out.b; clear hu O4))
 go_ret
 exact ⟨rfl, O5.out.u⟩
theorem Ytj (a b : Opd) (w : World) (op : Int) (hlo : 3 ≤ op) (hhi : op ≤ 10) (h0 : rmB a = false) : Calls Tryz.prog 62 #[.int .i64 op, a.arg, b.arg] w fun e w' => e = .returned (.bool false) ∧ Upd [] w w' := by
 have e1 : (op == 1) = false := by rw [beq_eq_false_iff_ne]; omega
 have l3 : decide (3 ≤ op) = true := by simp; omega
 have g3 : decide (op ≤ 10) = true := by simp; omega
 have O1 := Yh_ (O9.start w a b)
 have H0 := Yh_ h0
 clear hlo hhi h0
 unfold Opd.arg
 go_enter Tryz.func62, Tryz.ntmps62
 go_wp2_with (have _t := O1; clear _t; go_at_call 77; refine (Ycc a _).mono ?_; rintro e w2 ⟨rfl, hu⟩; rw [H0.out]; have O2 := Yh_ (O1.out.step hu); have ca := Ya O2.out.a; have cb := Ya O2.out.b; clear hu O1)
 go_ret
 exact ⟨rfl, O2.out.u⟩
theorem Yg4 : (∀ (a b : Opd) (w : World) (h0 : rmB a = true) (h1 : Yw b = false) (h2 : Ya0 b = true), Calls Tryz.prog 62 #[.int .i64 1, a.arg, b.arg] w fun e w' => e = .returned (.bool true) ∧ Upd [] w w') ∧
 (∀ (a b : Opd) (w : World) (h0 : rmB a = true) (h1 : Yw b = false) (h2 : Ya0 b = true), Calls Tryz.prog 62 #[.int .i64 11, a.arg, b.arg] w fun e w' => e = .returned (.bool true) ∧ Upd [] w w') ∧
 (∀ (a b : Opd) (w : World) (h0 : rmB a = true) (h1 : Yw b = false) (h2 : Ya0 b = false), Calls Tryz.prog 62 #[.int .i64 11, a.arg, b.arg] w fun e w' => e = .returned (.bool false) ∧ Upd [] w w') := by
 refine ⟨fun a b w h0 h1 h2 => ?_, fun a b w h0 h1 h2 => ?_, fun a b w h0 h1 h2 => ?_⟩
 all_goals
  have O1 := Yh_ (O9.start w a b)
  have H0 := Yh_ h0
  have H1 := Yh_ h1
  have H2 := Yh_ h2
  clear h0 h1 h2
  unfold Opd.arg
  go_enter Tryz.func62, Tryz.ntmps62
  go_wp2_with (first | (have _t := O1; clear _t; go_at_call 77; refine (Ycc a _).mono ?_; rintro e w2 ⟨rfl, hu⟩; rw [H0.out]; have O2 := Yh_ (O1.out.step hu); have ca := Ya O2.out.a; have cb := Ya O2.out.b; clear hu O1) | (have _t := O2; clear _t; go_at_call 78; refine (Ybg b _).mono ?_; rintro e w3 ⟨rfl, hu⟩; rw [H1.out]; have O3 := Yh_ (O2.out.step hu); clear ca cb; have ca := Ya O3.out.a; have cb := Ya O3.out.b; clear hu O2) | (have _t := O3; clear _t; go_at_call 79; refine (Ycw b _).mono ?_; rintro e w4 ⟨rfl, hu⟩; rw [H2.out]; have O4 := Yh_ (O3.out.step hu); clear ca cb; have ca := Ya O4.out.a; have cb := Ya O4.out.b; clear hu O3))
  go_ret
  exact ⟨rfl, O4.out.u⟩
theorem Yu3 (a b : Opd) (w : World) (h0 : rmB a = true) (h1 : Yw b = false) (h2 : Yca b = true) : Calls Tryz.prog 62 #[.int .i64 2, a.arg, b.arg] w fun e w' => e = .returned (.bool true) ∧ Upd [] w w' := by
 have O1 := Yh_ (O9.start w a b)
 have H0 := Yh_ h0
 have H1 := Yh_ h1
 have H2 := Yh_ h2
 clear h0 h1 h2
 unfold Opd.arg
 go_enter Tryz.func62, Tryz.ntmps62
 go_wp2_with (first | (have _t := O1; clear _t; go_at_call 77; refine (Ycc a _).mono ?_; rintro e w2 ⟨rfl, hu⟩; rw [H0.out]; have O2 := Yh_ (O1.out.step hu); have ca := Ya O2.out.a; have cb := Ya O2.out.b; clear hu O1) | (have _t := O2; clear _t; go_at_call 78; refine (Ybg b _).mono ?_; rintro e w3 ⟨rfl, hu⟩; rw [H1.out]; have O3 := Yh_ (O2.out.step hu); clear ca cb; have ca := Ya O3.out.a; have cb := Ya O3.out.b; clear hu O2) | (have _t := O3; clear _t; go_at_call 81; refine (Yfh b _).mono ?_; rintro e w4 ⟨rfl, hu⟩; rw [H2.out]; have O4 := Yh_ (O3.out.step hu); clear ca cb; have ca := Ya O4.out.a; have cb := Ya O4.out.b; clear hu O3))
 go_ret
 exact ⟨rfl, O4.out.u⟩
theorem Yg8 : (∀ (a b : Opd) (w : World) (h0 : rmB a = true) (h1 : Yw b = false) (h2 : Yca b = false) (h3 : Yw a = true) (h4 : Ya7 b = true), Calls Tryz.prog 62 #[.int .i64 2, a.arg, b.arg] w fun e w' => e = .returned (.bool true) ∧ Upd [] w w') ∧
 (∀ (a b : Opd) (w : World) (h0 : rmB a = true) (h1 : Yw b = false) (h2 : Yca b = false) (h3 : Yw a = true) (h4 : Ya7 b = false), Calls Tryz.prog 62 #[.int .i64 2, a.arg, b.arg] w fun e w' => e = .returned (.bool false) ∧ Upd [] w w') := by
 refine ⟨fun a b w h0 h1 h2 h3 h4 => ?_, fun a b w h0 h1 h2 h3 h4 => ?_⟩
 all_goals
  have O1 := Yh_ (O9.start w a b)
  have H0 := Yh_ h0
  have H1 := Yh_ h1
  have H2 := Yh_ h2
  have H3 := Yh_ h3
  have H4 := Yh_ h4
  clear h0 h1 h2 h3 h4
  unfold Opd.arg
  go_enter Tryz.func62, Tryz.ntmps62
  go_wp2_with (first | (have _t := O1; clear _t; go_at_call 77; refine (Ycc a _).mono ?_; rintro e w2 ⟨rfl, hu⟩; rw [H0.out]; have O2 := Yh_ (O1.out.step hu); have ca := Ya O2.out.a; have cb := Ya O2.out.b; clear hu O1) | (have _t := O2; clear _t; go_at_call 78; refine (Ybg b _).mono ?_; rintro e w3 ⟨rfl, hu⟩; rw [H1.out]; have O3 := Yh_ (O2.out.step hu); clear ca cb; have ca := Ya O3.out.a; have cb := Ya O3.out.b; clear hu O2) | (have _t := O3; clear _t; go_at_call 81; refine (Yfh b _).mono ?_; rintro e w4 ⟨rfl, hu⟩; rw [H2.out]; have O4 := Yh_ (O3.out.step hu); clear ca cb; have ca := Ya O4.out.a; have cb := Ya O4.out.b; clear hu O3) | (have _t := O4; clear _t; go_at_call 78; refine (Ybg a _).mono ?_; rintro e w5 ⟨rfl, hu⟩; rw [H3.out]; have O5 := Yh_ (O4.out.step hu); clear ca cb; have ca := Ya O5.out.a; have cb := Ya O5.out.b; clear hu O4) | (have _t := O5; clear _t; go_at_call 80; refine (Ydr b _).mono ?_; rintro e w6 ⟨rfl, hu⟩; rw [H4.out]; have O6 := Yh_ (O5.out.step hu); clear ca cb; have ca := Ya O6.out.a; have cb := Ya O6.out.b; clear hu O5))
  go_ret
  exact ⟨rfl, O6.out.u⟩
theorem Yti (a b : Opd) (w : World) (h0 : rmB a = true) (h1 : Yw b = false) (h2 : Yca b = false) (h3 : Yw a = false) : Calls Tryz.prog 62 #[.int .i64 2, a.arg, b.arg] w fun e w' => e = .returned (.bool false) ∧ Upd [] w w' := by
 have O1 := Yh_ (O9.start w a b)
 have H0 := Yh_ h0
 have H1 := Yh_ h1
 have H2 := Yh_ h2
 have H3 := Yh_ h3
 clear h0 h1 h2 h3
 unfold Opd.arg
 go_enter Tryz.func62, Tryz.ntmps62
 go_wp2_with (first | (have _t := O1; clear _t; go_at_call 77; refine (Ycc a _).mono ?_; rintro e w2 ⟨rfl, hu⟩; rw [H0.out]; have O2 := Yh_ (O1.out.step hu); have ca := Ya O2.out.a; have cb := Ya O2.out.b; clear hu O1) | (have _t := O2; clear _t; go_at_call 78; refine (Ybg b _).mono ?_; rintro e w3 ⟨rfl, hu⟩; rw [H1.out]; have O3 := Yh_ (O2.out.step hu); clear ca cb; have ca := Ya O3.out.a; have cb := Ya O3.out.b; clear hu O2) | (have _t := O3; clear _t; go_at_call 81; refine (Yfh b _).mono ?_; rintro e w4 ⟨rfl, hu⟩; rw [H2.out]; have O4 := Yh_ (O3.out.step hu); clear ca cb; have ca := Ya O4.out.a; have cb := Ya O4.out.b; clear hu O3) | (have _t := O4; clear _t; go_at_call 78; refine (Ybg a _).mono ?_; rintro e w5 ⟨rfl, hu⟩; rw [H3.out]; have O5 := Yh_ (O4.out.step hu); clear ca cb; have ca := Ya O5.out.a; have cb := Ya O5.out.b; clear hu O4))
 go_ret
 exact ⟨rfl, O5.out.u⟩
theorem Yg3 : (∀ (a b : Opd) (w : World) (h0 : rmB a = true) (h1 : Yw b = true), Calls Tryz.prog 62 #[.int .i64 1, a.arg, b.arg] w fun e w' => e = .returned (.bool true) ∧ Upd [] w w') ∧
 (∀ (a b : Opd) (w : World) (h0 : rmB a = true) (h1 : Yw b = true), Calls Tryz.prog 62 #[.int .i64 11, a.arg, b.arg] w fun e w' => e = .returned (.bool true) ∧ Upd [] w w') ∧
 (∀ (a b : Opd) (w : World) (h0 : rmB a = true) (h1 : Yw b = true), Calls Tryz.prog 62 #[.int .i64 2, a.arg, b.arg] w fun e w' => e = .returned (.bool true) ∧ Upd [] w w') ∧
 (∀ (a b : Opd) (w : World) (h0 : rmB a = true) (h1 : Yw b = true), Calls Tryz.prog 62 #[.int .i64 27, a.arg, b.arg] w fun e w' => e = .returned (.bool true) ∧ Upd [] w w') ∧
 (∀ (a b : Opd) (w : World) (h0 : rmB a = true) (h1 : Yw b = false), Calls Tryz.prog 62 #[.int .i64 27, a.arg, b.arg] w fun e w' => e = .returned (.bool false) ∧ Upd [] w w') := by
 refine ⟨fun a b w h0 h1 => ?_, fun a b w h0 h1 => ?_, fun a b w h0 h1 => ?_, fun a b w h0 h1 => ?_, fun a b w h0 h1 => ?_⟩
 all_goals
  have O1 := Yh_ (O9.start w a b)
  have H0 := Yh_ h0
  have H1 := Yh_ h1
  clear h0 h1
  unfold Opd.arg
  go_enter Tryz.func62, Tryz.ntmps62
  go_wp2_with (first | (have _t := O1; clear _t; go_at_call 77; refine (Ycc a _).mono ?_; rintro e w2 ⟨rfl, hu⟩; rw [H0.out]; have O2 := Yh_ (O1.out.step hu); have ca := Ya O2.out.a; have cb := Ya O2.out.b; clear hu O1) | (have _t := O2; clear _t; go_at_call 78; refine (Ybg b _).mono ?_; rintro e w3 ⟨rfl, hu⟩; rw [H1.out]; have O3 := Yh_ (O2.out.step hu); clear ca cb; have ca := Ya O3.out.a; have cb := Ya O3.out.b; clear hu O2))
  go_ret
  exact ⟨rfl, O3.out.u⟩
theorem Yg9 : (∀ (a b : Opd) (w : World) (op : Int) (hlo : 12 ≤ op) (hhi : op ≤ 17) (h0 : rmB a = true) (h1 : Yu b = true), Calls Tryz.prog 62 #[.int .i64 op, a.arg, b.arg] w fun e w' => e = .returned (.bool true) ∧ Upd [] w w') ∧
 (∀ (a b : Opd) (w : World) (op : Int) (hlo : 12 ≤ op) (hhi : op ≤ 17) (h0 : rmB a = true) (h1 : Yu b = false), Calls Tryz.prog 62 #[.int .i64 op, a.arg, b.arg] w fun e w' => e = .returned (.bool false) ∧ Upd [] w w') := by
 refine ⟨fun a b w op hlo hhi h0 h1 => ?_, fun a b w op hlo hhi h0 h1 => ?_⟩
 all_goals
  have e1 : (op == 1) = false := by rw [beq_eq_false_iff_ne]; omega
  have e11 : (op == 11) = false := by rw [beq_eq_false_iff_ne]; omega
  have e2 : (op == 2) = false := by rw [beq_eq_false_iff_ne]; omega
  have e27 : (op == 27) = false := by rw [beq_eq_false_iff_ne]; omega
  have l3 : decide (3 ≤ op) = true := by simp; omega
  have g3 : decide (op ≤ 10) = false := by simp; omega
  have l12 : decide (12 ≤ op) = true := by simp; omega
  have g12 : decide (op ≤ 17) = true := by simp; omega
  have O1 := Yh_ (O9.start w a b)
  have H0 := Yh_ h0
  have H1 := Yh_ h1
  clear hlo hhi h0 h1
  unfold Opd.arg
  go_enter Tryz.func62, Tryz.ntmps62
  go_wp2_with (first | (have _t := O1; clear _t; go_at_call 77; refine (Ycc a _).mono ?_; rintro e w2 ⟨rfl, hu⟩; rw [H0.out]; have O2 := Yh_ (O1.out.step hu); have ca := Ya O2.out.a; have cb := Ya O2.out.b; clear hu O1) | (have _t := O2; clear _t; go_at_call 82; refine (Ycu b _).mono ?_; rintro e w3 ⟨rfl, hu⟩; rw [H1.out]; have O3 := Yh_ (O2.out.step hu); clear ca cb; have ca := Ya O3.out.a; have cb := Ya O3.out.b; clear hu O2))
  go_ret
  exact ⟨rfl, O3.out.u⟩
theorem Yua (a b : Opd) (w : World) (op : Int) (hlo : 12 ≤ op) (hhi : op ≤ 17) (h0 : rmB a = false) : Calls Tryz.prog 62 #[.int .i64 op, a.arg, b.arg] w fun e w' => e = .returned (.bool false) ∧ Upd [] w w' := by
 have e1 : (op == 1) = false := by rw [beq_eq_false_iff_ne]; omega
 have e11 : (op == 11) = false := by rw [beq_eq_false_iff_ne]; omega
 have e2 : (op == 2) = false := by rw [beq_eq_false_iff_ne]; omega
 have e27 : (op == 27) = false := by rw [beq_eq_false_iff_ne]; omega
 have l3 : decide (3 ≤ op) = true := by simp; omega
 have g3 : decide (op ≤ 10) = false := by simp; omega
 have l12 : decide (12 ≤ op) = true := by simp; omega
 have g12 : decide (op ≤ 17) = true := by simp; omega
 have O1 := Yh_ (O9.start w a b)
 have H0 := Yh_ h0
 clear hlo hhi h0
 unfold Opd.arg
 go_enter Tryz.func62, Tryz.ntmps62
 go_wp2_with (have _t := O1; clear _t; go_at_call 77; refine (Ycc a _).mono ?_; rintro e w2 ⟨rfl, hu⟩; rw [H0.out]; have O2 := Yh_ (O1.out.step hu); have ca := Ya O2.out.a; have cb := Ya O2.out.b; clear hu O1)
 go_ret
 exact ⟨rfl, O2.out.u⟩
theorem Yg6 : (∀ (a b : Opd) (w : World) (h0 : rmB a = false), Calls Tryz.prog 62 #[.int .i64 1, a.arg, b.arg] w fun e w' => e = .returned (.bool false) ∧ Upd [] w w') ∧
 (∀ (a b : Opd) (w : World) (h0 : rmB a = false), Calls Tryz.prog 62 #[.int .i64 11, a.arg, b.arg] w fun e w' => e = .returned (.bool false) ∧ Upd [] w w') ∧
 (∀ (a b : Opd) (w : World) (h0 : rmB a = false), Calls Tryz.prog 62 #[.int .i64 2, a.arg, b.arg] w fun e w' => e = .returned (.bool false) ∧ Upd [] w w') ∧
 (∀ (a b : Opd) (w : World) (h0 : rmB a = false), Calls Tryz.prog 62 #[.int .i64 27, a.arg, b.arg] w fun e w' => e = .returned (.bool false) ∧ Upd [] w w') ∧
 (∀ (a b : Opd) (w : World) (h0 : rmB a = false), Calls Tryz.prog 62 #[.int .i64 19, a.arg, b.arg] w fun e w' => e = .returned (.bool false) ∧ Upd [] w w') ∧
 (∀ (a b : Opd) (w : World) (h0 : rmB a = false), Calls Tryz.prog 62 #[.int .i64 20, a.arg, b.arg] w fun e w' => e = .returned (.bool false) ∧ Upd [] w w') ∧
 (∀ (a b : Opd) (w : World) (h0 : rmB a = false), Calls Tryz.prog 62 #[.int .i64 34, a.arg, b.arg] w fun e w' => e = .returned (.bool false) ∧ Upd [] w w') := by
 refine ⟨fun a b w h0 => ?_, fun a b w h0 => ?_, fun a b w h0 => ?_, fun a b w h0 => ?_, fun a b w h0 => ?_, fun a b w h0 => ?_, fun a b w h0 => ?_⟩
 all_goals
  have O1 := Yh_ (O9.start w a b)
  have H0 := Yh_ h0
  clear h0
  unfold Opd.arg
  go_enter Tryz.func62, Tryz.ntmps62
  go_wp2_with (have _t := O1; clear _t; go_at_call 77; refine (Ycc a _).mono ?_; rintro e w2 ⟨rfl, hu⟩; rw [H0.out]; have O2 := Yh_ (O1.out.step hu); have ca := Ya O2.out.a; have cb := Ya O2.out.b; clear hu O1)
  go_ret
  exact ⟨rfl, O2.out.u⟩
theorem Yg12 : (∀ (a b : Opd) (w : World) (h0 : Yw a = true) (h1 : rmB b = true), Calls Tryz.prog 62 #[.int .i64 18, a.arg, b.arg] w fun e w' => e = .returned (.bool true) ∧ Upd [] w w') ∧
 (∀ (a b : Opd) (w : World) (h0 : Yw a = true) (h1 : rmB b = false), Calls Tryz.prog 62 #[.int .i64 18, a.arg, b.arg] w fun e w' => e = .returned (.bool false) ∧ Upd [] w w') ∧
 (∀ (a b : Opd) (w : World) (h0 : Yw a = true) (h1 : rmB b = true), Calls Tryz.prog 62 #[.int .i64 35, a.arg, b.arg] w fun e w' => e = .returned (.bool true) ∧ Upd [] w w') ∧
 (∀ (a b : Opd) (w : World) (h0 : Yw a = true) (h1 : rmB b = false), Calls Tryz.prog 62 #[.int .i64 35, a.arg, b.arg] w fun e w' => e = .returned (.bool false) ∧ Upd [] w w') ∧
 (∀ (a b : Opd) (w : World) (h0 : Yw a = true) (h1 : rmB b = true), Calls Tryz.prog 62 #[.int .i64 36, a.arg, b.arg] w fun e w' => e = .returned (.bool true) ∧ Upd [] w w') ∧
 (∀ (a b : Opd) (w : World) (h0 : Yw a = true) (h1 : rmB b = false), Calls Tryz.prog 62 #[.int .i64 36, a.arg, b.arg] w fun e w' => e = .returned (.bool false) ∧ Upd [] w w') ∧
 (∀ (a b : Opd) (w : World) (h0 : Yw a = true) (h1 : rmB b = true), Calls Tryz.prog 62 #[.int .i64 37, a.arg, b.arg] w fun e w' => e = .returned (.bool true) ∧ Upd [] w w') ∧
 (∀ (a b : Opd) (w : World) (h0 : Yw a = true) (h1 : rmB b = false), Calls Tryz.prog 62 #[.int .i64 37, a.arg, b.arg] w fun e w' => e = .returned (.bool false) ∧ Upd [] w w') := by
 refine ⟨fun a b w h0 h1 => ?_, fun a b w h0 h1 => ?_, fun a b w h0 h1 => ?_, fun a b w h0 h1 => ?_, fun a b w h0 h1 => ?_, fun a b w h0 h1 => ?_, fun a b w h0 h1 => ?_, fun a b w h0 h1 => ?_⟩
 all_goals
  have O1 := Yh_ (O9.start w a b)
  have H0 := Yh_ h0
  have H1 := Yh_ h1
  clear h0 h1
  unfold Opd.arg
  go_enter Tryz.func62, Tryz.ntmps62
  go_wp2_with (first | (have _t := O1; clear _t; go_at_call 78; refine (Ybg a _).mono ?_; rintro e w2 ⟨rfl, hu⟩; rw [H0.out]; have O2 := Yh_ (O1.out.step hu); have ca := Ya O2.out.a; have cb := Ya O2.out.b; clear hu O1) | (have _t := O2; clear _t; go_at_call 77; refine (Ycc b _).mono ?_; rintro e w3 ⟨rfl, hu⟩; rw [H1.out]; have O3 := Yh_ (O2.out.step hu); clear ca cb; have ca := Ya O3.out.a; have cb := Ya O3.out.b; clear hu O2))
  go_ret
  exact ⟨rfl, O3.out.u⟩
theorem Yuo (a b : Opd) (w : World) (op : Int) (hlo : 21 ≤ op) (hhi : op ≤ 25) (h0 : rmB a = true) (h1 : Yca b = true) : Calls Tryz.prog 62 #[.int .i64 op, a.arg, b.arg] w fun e w' => e = .returned (.bool true) ∧ Upd [] w w' := by
 have e1 : (op == 1) = false := by rw [beq_eq_false_iff_ne]; omega
 have e11 : (op == 11) = false := by rw [beq_eq_false_iff_ne]; omega
 have e2 : (op == 2) = false := by rw [beq_eq_false_iff_ne]; omega
 have e27 : (op == 27) = false := by rw [beq_eq_false_iff_ne]; omega
 have e19 : (op == 19) = false := by rw [beq_eq_false_iff_ne]; omega
 have e20 : (op == 20) = false := by rw [beq_eq_false_iff_ne]; omega
 have e34 : (op == 34) = false := by rw [beq_eq_false_iff_ne]; omega
 have e18 : (op == 18) = false := by rw [beq_eq_false_iff_ne]; omega
 have e35 : (op == 35) = false := by rw [beq_eq_false_iff_ne]; omega
 have e36 : (op == 36) = false := by rw [beq_eq_false_iff_ne]; omega
 have e37 : (op == 37) = false := by rw [beq_eq_false_iff_ne]; omega
 have l3 : decide (3 ≤ op) = true := by simp; omega
 have g3 : decide (op ≤ 10) = false := by simp; omega
 have l12 : decide (12 ≤ op) = true := by simp; omega
 have g12 : decide (op ≤ 17) = false := by simp; omega
 have l21 : decide (21 ≤ op) = true := by simp; omega
 have g21 : decide (op ≤ 25) = true := by simp; omega
 have O1 := Yh_ (O9.start w a b)
 have H0 := Yh_ h0
 have H1 := Yh_ h1
 clear hlo hhi h0 h1
 unfold Opd.arg
 go_enter Tryz.func62, Tryz.ntmps62
 go_wp2_with (first | (have _t := O1; clear _t; go_at_call 77; refine (Ycc a _).mono ?_; rintro e w2 ⟨rfl, hu⟩; rw [H0.out]; have O2 := Yh_ (O1.out.step hu); have ca := Ya O2.out.a; have cb := Ya O2.out.b; clear hu O1) | (have _t := O2; clear _t; go_at_call 81; refine (Yfh b _).mono ?_; rintro e w3 ⟨rfl, hu⟩; rw [H1.out]; have O3 := Yh_ (O2.out.step hu); clear ca cb; have ca := Ya O3.out.a; have cb := Ya O3.out.b; clear hu O2))
 go_ret
 exact ⟨rfl, O3.out.u⟩
theorem Yg14 : (∀ (a b : Opd) (w : World) (op : Int) (hlo : 21 ≤ op) (hhi : op ≤ 25) (h0 : rmB a = true) (h1 : Yca b = false) (h2 : Yw b = true) (h3 : (b.r == 1) = true), Calls Tryz.prog 62 #[.int .i64 op, a.arg, b.arg] w fun e w' => e = .returned (.bool true) ∧ Upd [] w w') ∧
 (∀ (a b : Opd) (w : World) (op : Int) (hlo : 21 ≤ op) (hhi : op ≤ 25) (h0 : rmB a = true) (h1 : Yca b = false) (h2 : Yw b = true) (h3 : (b.r == 1) = false), Calls Tryz.prog 62 #[.int .i64 op, a.arg, b.arg] w fun e w' => e = .returned (.bool false) ∧ Upd [] w w') ∧
 (∀ (a b : Opd) (w : World) (op : Int) (hlo : 21 ≤ op) (hhi : op ≤ 25) (h0 : rmB a = true) (h1 : Yca b = false) (h2 : Yw b = false), Calls Tryz.prog 62 #[.int .i64 op, a.arg, b.arg] w fun e w' => e = .returned (.bool false) ∧ Upd [] w w') := by
 refine ⟨fun a b w op hlo hhi h0 h1 h2 h3 => ?_, fun a b w op hlo hhi h0 h1 h2 h3 => ?_, fun a b w op hlo hhi h0 h1 h2 => ?_⟩
 all_goals
  have e1 : (op == 1) = false := by rw [beq_eq_false_iff_ne]; omega
  have e11 : (op == 11) = false := by rw [beq_eq_false_iff_ne]; omega
  have e2 : (op == 2) = false := by rw [beq_eq_false_iff_ne]; omega
  have e27 : (op == 27) = false := by rw [beq_eq_false_iff_ne]; omega
  have e19 : (op == 19) = false := by rw [beq_eq_false_iff_ne]; omega
  have e20 : (op == 20) = false := by rw [beq_eq_false_iff_ne]; omega
  have e34 : (op == 34) = false := by rw [beq_eq_false_iff_ne]; omega
  have e18 : (op == 18) = false := by rw [beq_eq_false_iff_ne]; omega
  have e35 : (op == 35) = false := by rw [beq_eq_false_iff_ne]; omega
  have e36 : (op == 36) = false := by rw [beq_eq_false_iff_ne]; omega
  have e37 : (op == 37) = false := by rw [beq_eq_false_iff_ne]; omega
  have l3 : decide (3 ≤ op) = true := by simp; omega
  have g3 : decide (op ≤ 10) = false := by simp; omega
  have l12 : decide (12 ≤ op) = true := by simp; omega
  have g12 : decide (op ≤ 17) = false := by simp; omega
  have l21 : decide (21 ≤ op) = true := by simp; omega
  have g21 : decide (op ≤ 25) = true := by simp; omega
  have O1 := Yh_ (O9.start w a b)
  have H0 := Yh_ h0
  have H1 := Yh_ h1
  have H2 := Yh_ h2
  clear hlo hhi h0 h1 h2
  unfold Opd.arg
  go_enter Tryz.func62, Tryz.ntmps62
  go_wp2_with (first | (have _t := O1; clear _t; go_at_call 77; refine (Ycc a _).mono ?_; rintro e w2 ⟨rfl, hu⟩; rw [H0.out]; have O2 := Yh_ (O1.out.step hu); have ca := Ya O2.out.a; have cb := Ya O2.out.b; clear hu O1) | (have _t := O2; clear _t; go_at_call 81; refine (Yfh b _).mono ?_; rintro e w3 ⟨rfl, hu⟩; rw [H1.out]; have O3 := Yh_ (O2.out.step hu); clear ca cb; have ca := Ya O3.out.a; have cb := Ya O3.out.b; clear hu O2) | (have _t := O3; clear _t; go_at_call 78; refine (Ybg b _).mono ?_; rintro e w4 ⟨rfl, hu⟩; rw [H2.out]; have O4 := Yh_ (O3.out.step hu); clear ca cb; have ca := Ya O4.out.a; have cb := Ya O4.out.b; clear hu O3))
  go_ret
  exact ⟨rfl, O4.out.u⟩
theorem Yul (a b : Opd) (w : World) (op : Int) (hlo : 21 ≤ op) (hhi : op ≤ 25) (h0 : rmB a = false) : Calls Tryz.prog 62 #[.int .i64 op, a.arg, b.arg] w fun e w' => e = .returned (.bool false) ∧ Upd [] w w' := by
 have e1 : (op == 1) = false := by rw [beq_eq_false_iff_ne]; omega
 have e11 : (op == 11) = false := by rw [beq_eq_false_iff_ne]; omega
 have e2 : (op == 2) = false := by rw [beq_eq_false_iff_ne]; omega
 have e27 : (op == 27) = false := by rw [beq_eq_false_iff_ne]; omega
 have e19 : (op == 19) = false := by rw [beq_eq_false_iff_ne]; omega
 have e20 : (op == 20) = false := by rw [beq_eq_false_iff_ne]; omega
 have e34 : (op == 34) = false := by rw [beq_eq_false_iff_ne]; omega
 have e18 : (op == 18) = false := by rw [beq_eq_false_iff_ne]; omega
 have e35 : (op == 35) = false := by rw [beq_eq_false_iff_ne]; omega
 have e36 : (op == 36) = false := by rw [beq_eq_false_iff_ne]; omega
 have e37 : (op == 37) = false := by rw [beq_eq_false_iff_ne]; omega
 have l3 : decide (3 ≤ op) = true := by simp; omega
 have g3 : decide (op ≤ 10) = false := by simp; omega
 have l12 : decide (12 ≤ op) = true := by simp; omega
 have g12 : decide (op ≤ 17) = false := by simp; omega
 have l21 : decide (21 ≤ op) = true := by simp; omega
 have g21 : decide (op ≤ 25) = true := by simp; omega
 have O1 := Yh_ (O9.start w a b)
 have H0 := Yh_ h0
 clear hlo hhi h0
 unfold Opd.arg
 go_enter Tryz.func62, Tryz.ntmps62
 go_wp2_with (have _t := O1; clear _t; go_at_call 77; refine (Ycc a _).mono ?_; rintro e w2 ⟨rfl, hu⟩; rw [H0.out]; have O2 := Yh_ (O1.out.step hu); have ca := Ya O2.out.a; have cb := Ya O2.out.b; clear hu O1)
 go_ret
 exact ⟨rfl, O2.out.u⟩
theorem Yg15 : (∀ (a b : Opd) (w : World) (h0 : Yw a = true) (h1 : Ya7 b = true), Calls Tryz.prog 62 #[.int .i64 26, a.arg, b.arg] w fun e w' => e = .returned (.bool true) ∧ Upd [] w w') ∧
 (∀ (a b : Opd) (w : World) (h0 : Yw a = true) (h1 : Ya7 b = false), Calls Tryz.prog 62 #[.int .i64 26, a.arg, b.arg] w fun e w' => e = .returned (.bool false) ∧ Upd [] w w') := by
 refine ⟨fun a b w h0 h1 => ?_, fun a b w h0 h1 => ?_⟩
 all_goals
  have O1 := Yh_ (O9.start w a b)
  have H0 := Yh_ h0
  have H1 := Yh_ h1
  clear h0 h1
  unfold Opd.arg
  go_enter Tryz.func62, Tryz.ntmps62
  go_wp2_with (first | (have _t := O1; clear _t; go_at_call 78; refine (Ybg a _).mono ?_; rintro e w2 ⟨rfl, hu⟩; rw [H0.out]; have O2 := Yh_ (O1.out.step hu); have ca := Ya O2.out.a; have cb := Ya O2.out.b; clear hu O1) | (have _t := O2; clear _t; go_at_call 80; refine (Ydr b _).mono ?_; rintro e w3 ⟨rfl, hu⟩; rw [H1.out]; have O3 := Yh_ (O2.out.step hu); clear ca cb; have ca := Ya O3.out.a; have cb := Ya O3.out.b; clear hu O2))
  go_ret
  exact ⟨rfl, O3.out.u⟩
theorem Yg10 : (∀ (a b : Opd) (w : World) (h0 : rmB a = true) (h1 : Yu b = true), Calls Tryz.prog 62 #[.int .i64 19, a.arg, b.arg] w fun e w' => e = .returned (.bool true) ∧ Upd [] w w') ∧
 (∀ (a b : Opd) (w : World) (h0 : rmB a = true) (h1 : Yu b = false), Calls Tryz.prog 62 #[.int .i64 19, a.arg, b.arg] w fun e w' => e = .returned (.bool false) ∧ Upd [] w w') ∧
 (∀ (a b : Opd) (w : World) (h0 : rmB a = true) (h1 : Yu b = true), Calls Tryz.prog 62 #[.int .i64 20, a.arg, b.arg] w fun e w' => e = .returned (.bool true) ∧ Upd [] w w') ∧
 (∀ (a b : Opd) (w : World) (h0 : rmB a = true) (h1 : Yu b = false), Calls Tryz.prog 62 #[.int .i64 20, a.arg, b.arg] w fun e w' => e = .returned (.bool false) ∧ Upd [] w w') ∧
 (∀ (a b : Opd) (w : World) (h0 : rmB a = true) (h1 : Yu b = true), Calls Tryz.prog 62 #[.int .i64 34, a.arg, b.arg] w fun e w' => e = .returned (.bool true) ∧ Upd [] w w') ∧
 (∀ (a b : Opd) (w : World) (h0 : rmB a = true) (h1 : Yu b = false), Calls Tryz.prog 62 #[.int .i64 34, a.arg, b.arg] w fun e w' => e = .returned (.bool false) ∧ Upd [] w w') ∧
 (∀ (a b : Opd) (w : World) (h0 : rmB a = true) (h1 : Yu b = true), Calls Tryz.prog 62 #[.int .i64 28, a.arg, b.arg] w fun e w' => e = .returned (.bool true) ∧ Upd [] w w') ∧
 (∀ (a b : Opd) (w : World) (h0 : rmB a = true) (h1 : Yu b = false), Calls Tryz.prog 62 #[.int .i64 28, a.arg, b.arg] w fun e w' => e = .returned (.bool false) ∧ Upd [] w w') := by
 refine ⟨fun a b w h0 h1 => ?_, fun a b w h0 h1 => ?_, fun a b w h0 h1 => ?_, fun a b w h0 h1 => ?_, fun a b w h0 h1 => ?_, fun a b w h0 h1 => ?_, fun a b w h0 h1 => ?_, fun a b w h0 h1 => ?_⟩
 all_goals
  have O1 := Yh_ (O9.start w a b)
  have H0 := Yh_ h0
  have H1 := Yh_ h1
  clear h0 h1
  unfold Opd.arg
  go_enter Tryz.func62, Tryz.ntmps62
  go_wp2_with (first | (have _t := O1; clear _t; go_at_call 77; refine (Ycc a _).mono ?_; rintro e w2 ⟨rfl, hu⟩; rw [H0.out]; have O2 := Yh_ (O1.out.step hu); have ca := Ya O2.out.a; have cb := Ya O2.out.b; clear hu O1) | (have _t := O2; clear _t; go_at_call 82; refine (Ycu b _).mono ?_; rintro e w3 ⟨rfl, hu⟩; rw [H1.out]; have O3 := Yh_ (O2.out.step hu); clear ca cb; have ca := Ya O3.out.a; have cb := Ya O3.out.b; clear hu O2))
  go_ret
  exact ⟨rfl, O3.out.u⟩
theorem Yg11 : (∀ (a b : Opd) (w : World) (h0 : rmB a = true) (h1 : Yu b = true), Calls Tryz.prog 62 #[.int .i64 30, a.arg, b.arg] w fun e w' => e = .returned (.bool true) ∧ Upd [] w w') ∧
 (∀ (a b : Opd) (w : World) (h0 : rmB a = true) (h1 : Yu b = false), Calls Tryz.prog 62 #[.int .i64 30, a.arg, b.arg] w fun e w' => e = .returned (.bool false) ∧ Upd [] w w') ∧
 (∀ (a b : Opd) (w : World) (h0 : rmB a = true) (h1 : Yu b = true), Calls Tryz.prog 62 #[.int .i64 32, a.arg, b.arg] w fun e w' => e = .returned (.bool true) ∧ Upd [] w w') ∧
 (∀ (a b : Opd) (w : World) (h0 : rmB a = true) (h1 : Yu b = false), Calls Tryz.prog 62 #[.int .i64 32, a.arg, b.arg] w fun e w' => e = .returned (.bool false) ∧ Upd [] w w') := by
 refine ⟨fun a b w h0 h1 => ?_, fun a b w h0 h1 => ?_, fun a b w h0 h1 => ?_, fun a b w h0 h1 => ?_⟩
 all_goals
  have O1 := Yh_ (O9.start w a b)
  have H0 := Yh_ h0
  have H1 := Yh_ h1
  clear h0 h1
  unfold Opd.arg
  go_enter Tryz.func62, Tryz.ntmps62
  go_wp2_with (first | (have _t := O1; clear _t; go_at_call 77; refine (Ycc a _).mono ?_; rintro e w2 ⟨rfl, hu⟩; rw [H0.out]; have O2 := Yh_ (O1.out.step hu); have ca := Ya O2.out.a; have cb := Ya O2.out.b; clear hu O1) | (have _t := O2; clear _t; go_at_call 82; refine (Ycu b _).mono ?_; rintro e w3 ⟨rfl, hu⟩; rw [H1.out]; have O3 := Yh_ (O2.out.step hu); clear ca cb; have ca := Ya O3.out.a; have cb := Ya O3.out.b; clear hu O2))
  go_ret
  exact ⟨rfl, O3.out.u⟩
theorem Yg16 : (∀ (a b : Opd) (w : World) (h0 : rmB a = false) (h1 : Ya0 a = true) (h2 : Yu b = true), Calls Tryz.prog 62 #[.int .i64 28, a.arg, b.arg] w fun e w' => e = .returned (.bool true) ∧ Upd [] w w') ∧
 (∀ (a b : Opd) (w : World) (h0 : rmB a = false) (h1 : Ya0 a = true) (h2 : Yu b = false), Calls Tryz.prog 62 #[.int .i64 28, a.arg, b.arg] w fun e w' => e = .returned (.bool false) ∧ Upd [] w w') ∧
 (∀ (a b : Opd) (w : World) (h0 : rmB a = false) (h1 : Ya0 a = true) (h2 : Yu b = true), Calls Tryz.prog 62 #[.int .i64 30, a.arg, b.arg] w fun e w' => e = .returned (.bool true) ∧ Upd [] w w') ∧
 (∀ (a b : Opd) (w : World) (h0 : rmB a = false) (h1 : Ya0 a = true) (h2 : Yu b = false), Calls Tryz.prog 62 #[.int .i64 30, a.arg, b.arg] w fun e w' => e = .returned (.bool false) ∧ Upd [] w w') ∧
 (∀ (a b : Opd) (w : World) (h0 : rmB a = false) (h1 : Ya0 a = true) (h2 : Yu b = true), Calls Tryz.prog 62 #[.int .i64 32, a.arg, b.arg] w fun e w' => e = .returned (.bool true) ∧ Upd [] w w') ∧
 (∀ (a b : Opd) (w : World) (h0 : rmB a = false) (h1 : Ya0 a = true) (h2 : Yu b = false), Calls Tryz.prog 62 #[.int .i64 32, a.arg, b.arg] w fun e w' => e = .returned (.bool false) ∧ Upd [] w w') := by
 refine ⟨fun a b w h0 h1 h2 => ?_, fun a b w h0 h1 h2 => ?_, fun a b w h0 h1 h2 => ?_, fun a b w h0 h1 h2 => ?_, fun a b w h0 h1 h2 => ?_, fun a b w h0 h1 h2 => ?_⟩
 all_goals
  have O1 := Yh_ (O9.start w a b)
  have H0 := Yh_ h0
  have H1 := Yh_ h1
  have H2 := Yh_ h2
  clear h0 h1 h2
  unfold Opd.arg
  go_enter Tryz.func62, Tryz.ntmps62
  go_wp2_with (first | (have _t := O1; clear _t; go_at_call 77; refine (Ycc a _).mono ?_; rintro e w2 ⟨rfl, hu⟩; rw [H0.out]; have O2 := Yh_ (O1.out.step hu); have ca := Ya O2.out.a; have cb := Ya O2.out.b; clear hu O1) | (have _t := O2; clear _t; go_at_call 79; refine (Ycw a _).mono ?_; rintro e w3 ⟨rfl, hu⟩; rw [H1.out]; have O3 := Yh_ (O2.out.step hu); clear ca cb; have ca := Ya O3.out.a; have cb := Ya O3.out.b; clear hu O2) | (have _t := O3; clear _t; go_at_call 82; refine (Ycu b _).mono ?_; rintro e w4 ⟨rfl, hu⟩; rw [H2.out]; have O4 := Yh_ (O3.out.step hu); clear ca cb; have ca := Ya O4.out.a; have cb := Ya O4.out.b; clear hu O3))
  go_ret
  exact ⟨rfl, O4.out.u⟩
theorem Yg17 : (∀ (a b : Opd) (w : World) (h0 : rmB a = false) (h1 : Ya0 a = false), Calls Tryz.prog 62 #[.int .i64 28, a.arg, b.arg] w fun e w' => e = .returned (.bool false) ∧ Upd [] w w') ∧
 (∀ (a b : Opd) (w : World) (h0 : rmB a = false) (h1 : Ya0 a = false), Calls Tryz.prog 62 #[.int .i64 30, a.arg, b.arg] w fun e w' => e = .returned (.bool false) ∧ Upd [] w w') ∧
 (∀ (a b : Opd) (w : World) (h0 : rmB a = false) (h1 : Ya0 a = false), Calls Tryz.prog 62 #[.int .i64 32, a.arg, b.arg] w fun e w' => e = .returned (.bool false) ∧ Upd [] w w') := by
 refine ⟨fun a b w h0 h1 => ?_, fun a b w h0 h1 => ?_, fun a b w h0 h1 => ?_⟩
 all_goals
  have O1 := Yh_ (O9.start w a b)
  have H0 := Yh_ h0
  have H1 := Yh_ h1
  clear h0 h1
  unfold Opd.arg
  go_enter Tryz.func62, Tryz.ntmps62
  go_wp2_with (first | (have _t := O1; clear _t; go_at_call 77; refine (Ycc a _).mono ?_; rintro e w2 ⟨rfl, hu⟩; rw [H0.out]; have O2 := Yh_ (O1.out.step hu); have ca := Ya O2.out.a; have cb := Ya O2.out.b; clear hu O1) | (have _t := O2; clear _t; go_at_call 79; refine (Ycw a _).mono ?_; rintro e w3 ⟨rfl, hu⟩; rw [H1.out]; have O3 := Yh_ (O2.out.step hu); clear ca cb; have ca := Ya O3.out.a; have cb := Ya O3.out.b; clear hu O2))
  go_ret
  exact ⟨rfl, O3.out.u⟩
theorem Yg18 : (∀ (a b : Opd) (w : World) (h0 : Yw a = true) (h1 : Yu b = true), Calls Tryz.prog 62 #[.int .i64 29, a.arg, b.arg] w fun e w' => e = .returned (.bool true) ∧ Upd [] w w') ∧
 (∀ (a b : Opd) (w : World) (h0 : Yw a = true) (h1 : Yu b = false), Calls Tryz.prog 62 #[.int .i64 29, a.arg, b.arg] w fun e w' => e = .returned (.bool false) ∧ Upd [] w w') := by
 refine ⟨fun a b w h0 h1 => ?_, fun a b w h0 h1 => ?_⟩
 all_goals
  have O1 := Yh_ (O9.start w a b)
  have H0 := Yh_ h0
  have H1 := Yh_ h1
  clear h0 h1
  unfold Opd.arg
  go_enter Tryz.func62, Tryz.ntmps62
  go_wp2_with (first | (have _t := O1; clear _t; go_at_call 78; refine (Ybg a _).mono ?_; rintro e w2 ⟨rfl, hu⟩; rw [H0.out]; have O2 := Yh_ (O1.out.step hu); have ca := Ya O2.out.a; have cb := Ya O2.out.b; clear hu O1) | (have _t := O2; clear _t; go_at_call 82; refine (Ycu b _).mono ?_; rintro e w3 ⟨rfl, hu⟩; rw [H1.out]; have O3 := Yh_ (O2.out.step hu); clear ca cb; have ca := Ya O3.out.a; have cb := Ya O3.out.b; clear hu O2))
  go_ret
  exact ⟨rfl, O3.out.u⟩
theorem Yg13 : (∀ (a b : Opd) (w : World) (h0 : Yw a = false), Calls Tryz.prog 62 #[.int .i64 18, a.arg, b.arg] w fun e w' => e = .returned (.bool false) ∧ Upd [] w w') ∧
 (∀ (a b : Opd) (w : World) (h0 : Yw a = false), Calls Tryz.prog 62 #[.int .i64 35, a.arg, b.arg] w fun e w' => e = .returned (.bool false) ∧ Upd [] w w') ∧
 (∀ (a b : Opd) (w : World) (h0 : Yw a = false), Calls Tryz.prog 62 #[.int .i64 36, a.arg, b.arg] w fun e w' => e = .returned (.bool false) ∧ Upd [] w w') ∧
 (∀ (a b : Opd) (w : World) (h0 : Yw a = false), Calls Tryz.prog 62 #[.int .i64 37, a.arg, b.arg] w fun e w' => e = .returned (.bool false) ∧ Upd [] w w') ∧
 (∀ (a b : Opd) (w : World) (h0 : Yw a = false), Calls Tryz.prog 62 #[.int .i64 26, a.arg, b.arg] w fun e w' => e = .returned (.bool false) ∧ Upd [] w w') ∧
 (∀ (a b : Opd) (w : World) (h0 : Yw a = false), Calls Tryz.prog 62 #[.int .i64 29, a.arg, b.arg] w fun e w' => e = .returned (.bool false) ∧ Upd [] w w') := by
 refine ⟨fun a b w h0 => ?_, fun a b w h0 => ?_, fun a b w h0 => ?_, fun a b w h0 => ?_, fun a b w h0 => ?_, fun a b w h0 => ?_⟩
 all_goals
  have O1 := Yh_ (O9.start w a b)
  have H0 := Yh_ h0
  clear h0
  unfold Opd.arg
  go_enter Tryz.func62, Tryz.ntmps62
  go_wp2_with (have _t := O1; clear _t; go_at_call 78; refine (Ybg a _).mono ?_; rintro e w2 ⟨rfl, hu⟩; rw [H0.out]; have O2 := Yh_ (O1.out.step hu); have ca := Ya O2.out.a; have cb := Ya O2.out.b; clear hu O1)
  go_ret
  exact ⟨rfl, O2.out.u⟩
theorem Yg19 : (∀ (a b : Opd) (w : World) (h0 : Ya0 a = true) (h1 : Yu b = true), Calls Tryz.prog 62 #[.int .i64 33, a.arg, b.arg] w fun e w' => e = .returned (.bool true) ∧ Upd [] w w') ∧
 (∀ (a b : Opd) (w : World) (h0 : Ya0 a = true) (h1 : Yu b = false), Calls Tryz.prog 62 #[.int .i64 33, a.arg, b.arg] w fun e w' => e = .returned (.bool false) ∧ Upd [] w w') := by
 refine ⟨fun a b w h0 h1 => ?_, fun a b w h0 h1 => ?_⟩
 all_goals
  have O1 := Yh_ (O9.start w a b)
  have H0 := Yh_ h0
  have H1 := Yh_ h1
  clear h0 h1
  unfold Opd.arg
  go_enter Tryz.func62, Tryz.ntmps62
  go_wp2_with (first | (have _t := O1; clear _t; go_at_call 79; refine (Ycw a _).mono ?_; rintro e w2 ⟨rfl, hu⟩; rw [H0.out]; have O2 := Yh_ (O1.out.step hu); have ca := Ya O2.out.a; have cb := Ya O2.out.b; clear hu O1) | (have _t := O2; clear _t; go_at_call 82; refine (Ycu b _).mono ?_; rintro e w3 ⟨rfl, hu⟩; rw [H1.out]; have O3 := Yh_ (O2.out.step hu); clear ca cb; have ca := Ya O3.out.a; have cb := Ya O3.out.b; clear hu O2))
  go_ret
  exact ⟨rfl, O3.out.u⟩
theorem Yg21 : (∀ (a b : Opd) (w : World) (h0 : Ya0 a = true) (h1 : (a.imm == 128) = true) (h2 : Yu b = true), Calls Tryz.prog 62 #[.int .i64 43, a.arg, b.arg] w fun e w' => e = .returned (.bool true) ∧ Upd [] w w') ∧
 (∀ (a b : Opd) (w : World) (h0 : Ya0 a = true) (h1 : (a.imm == 128) = true) (h2 : Yu b = false), Calls Tryz.prog 62 #[.int .i64 43, a.arg, b.arg] w fun e w' => e = .returned (.bool false) ∧ Upd [] w w') := by
 refine ⟨fun a b w h0 h1 h2 => ?_, fun a b w h0 h1 h2 => ?_⟩
 all_goals
  have O1 := Yh_ (O9.start w a b)
  have H0 := Yh_ h0
  have H2 := Yh_ h2
  clear h0 h2
  unfold Opd.arg
  go_enter Tryz.func62, Tryz.ntmps62
  go_wp2_with (first | (have _t := O1; clear _t; go_at_call 79; refine (Ycw a _).mono ?_; rintro e w2 ⟨rfl, hu⟩; rw [H0.out]; have O2 := Yh_ (O1.out.step hu); have ca := Ya O2.out.a; have cb := Ya O2.out.b; clear hu O1) | (have _t := O2; clear _t; go_at_call 82; refine (Ycu b _).mono ?_; rintro e w3 ⟨rfl, hu⟩; rw [H2.out]; have O3 := Yh_ (O2.out.step hu); clear ca cb; have ca := Ya O3.out.a; have cb := Ya O3.out.b; clear hu O2))
  go_ret
  exact ⟨rfl, O3.out.u⟩
theorem Yg20 : (∀ (a b : Opd) (w : World) (h0 : Ya0 a = false), Calls Tryz.prog 62 #[.int .i64 33, a.arg, b.arg] w fun e w' => e = .returned (.bool false) ∧ Upd [] w w') ∧
 (∀ (a b : Opd) (w : World) (h0 : Ya0 a = true) (h1 : (a.imm == 128) = false), Calls Tryz.prog 62 #[.int .i64 43, a.arg, b.arg] w fun e w' => e = .returned (.bool false) ∧ Upd [] w w') ∧
 (∀ (a b : Opd) (w : World) (h0 : Ya0 a = false), Calls Tryz.prog 62 #[.int .i64 43, a.arg, b.arg] w fun e w' => e = .returned (.bool false) ∧ Upd [] w w') := by
 refine ⟨fun a b w h0 => ?_, fun a b w h0 h1 => ?_, fun a b w h0 => ?_⟩
 all_goals
  have O1 := Yh_ (O9.start w a b)
  have H0 := Yh_ h0
  clear h0
  unfold Opd.arg
  go_enter Tryz.func62, Tryz.ntmps62
  go_wp2_with (have _t := O1; clear _t; go_at_call 79; refine (Ycw a _).mono ?_; rintro e w2 ⟨rfl, hu⟩; rw [H0.out]; have O2 := Yh_ (O1.out.step hu); have ca := Ya O2.out.a; have cb := Ya O2.out.b; clear hu O1)
  go_ret
  exact ⟨rfl, O2.out.u⟩
theorem Yg24 : (∀ (a b : Opd) (w : World) (op : Int) (hlo : 47 ≤ op) (hhi : op ≤ 50) (h0 : Ya7 a = true) (h1 : Yu b = true), Calls Tryz.prog 62 #[.int .i64 op, a.arg, b.arg] w fun e w' => e = .returned (.bool true) ∧ Upd [] w w') ∧
 (∀ (a b : Opd) (w : World) (op : Int) (hlo : 47 ≤ op) (hhi : op ≤ 50) (h0 : Ya7 a = true) (h1 : Yu b = false), Calls Tryz.prog 62 #[.int .i64 op, a.arg, b.arg] w fun e w' => e = .returned (.bool false) ∧ Upd [] w w') := by
 refine ⟨fun a b w op hlo hhi h0 h1 => ?_, fun a b w op hlo hhi h0 h1 => ?_⟩
 all_goals
  have e1 : (op == 1) = false := by rw [beq_eq_false_iff_ne]; omega
  have e11 : (op == 11) = false := by rw [beq_eq_false_iff_ne]; omega
  have e2 : (op == 2) = false := by rw [beq_eq_false_iff_ne]; omega
  have e27 : (op == 27) = false := by rw [beq_eq_false_iff_ne]; omega
  have e19 : (op == 19) = false := by rw [beq_eq_false_iff_ne]; omega
  have e20 : (op == 20) = false := by rw [beq_eq_false_iff_ne]; omega
  have e34 : (op == 34) = false := by rw [beq_eq_false_iff_ne]; omega
  have e18 : (op == 18) = false := by rw [beq_eq_false_iff_ne]; omega
  have e35 : (op == 35) = false := by rw [beq_eq_false_iff_ne]; omega
  have e36 : (op == 36) = false := by rw [beq_eq_false_iff_ne]; omega
  have e37 : (op == 37) = false := by rw [beq_eq_false_iff_ne]; omega
  have e26 : (op == 26) = false := by rw [beq_eq_false_iff_ne]; omega
  have e28 : (op == 28) = false := by rw [beq_eq_false_iff_ne]; omega
  have e30 : (op == 30) = false := by rw [beq_eq_false_iff_ne]; omega
  have e32 : (op == 32) = false := by rw [beq_eq_false_iff_ne]; omega
  have e29 : (op == 29) = false := by rw [beq_eq_false_iff_ne]; omega
  have e33 : (op == 33) = false := by rw [beq_eq_false_iff_ne]; omega
  have e43 : (op == 43) = false := by rw [beq_eq_false_iff_ne]; omega
  have e45 : (op == 45) = false := by rw [beq_eq_false_iff_ne]; omega
  have e46 : (op == 46) = false := by rw [beq_eq_false_iff_ne]; omega
  have l3 : decide (3 ≤ op) = true := by simp; omega
  have g3 : decide (op ≤ 10) = false := by simp; omega
  have l12 : decide (12 ≤ op) = true := by simp; omega
  have g12 : decide (op ≤ 17) = false := by simp; omega
  have l21 : decide (21 ≤ op) = true := by simp; omega
  have g21 : decide (op ≤ 25) = false := by simp; omega
  have l47 : decide (47 ≤ op) = true := by simp; omega
  have g47 : decide (op ≤ 50) = true := by simp; omega
  have O1 := Yh_ (O9.start w a b)
  have H0 := Yh_ h0
  have H1 := Yh_ h1
  clear hlo hhi h0 h1
  unfold Opd.arg
  go_enter Tryz.func62, Tryz.ntmps62
  go_wp2_with (first | (have _t := O1; clear _t; go_at_call 80; refine (Ydr a _).mono ?_; rintro e w2 ⟨rfl, hu⟩; rw [H0.out]; have O2 := Yh_ (O1.out.step hu); have ca := Ya O2.out.a; have cb := Ya O2.out.b; clear hu O1) | (have _t := O2; clear _t; go_at_call 82; refine (Ycu b _).mono ?_; rintro e w3 ⟨rfl, hu⟩; rw [H1.out]; have O3 := Yh_ (O2.out.step hu); clear ca cb; have ca := Ya O3.out.a; have cb := Ya O3.out.b; clear hu O2))
  go_ret
  exact ⟨rfl, O3.out.u⟩
theorem Ysp (a b : Opd) (w : World) (op : Int) (hlo : 47 ≤ op) (hhi : op ≤ 50) (h0 : Ya7 a = false) : Calls Tryz.prog 62 #[.int .i64 op, a.arg, b.arg] w fun e w' => e = .returned (.bool false) ∧ Upd [] w w' := by
 have e1 : (op == 1) = false := by rw [beq_eq_false_iff_ne]; omega
 have e11 : (op == 11) = false := by rw [beq_eq_false_iff_ne]; omega
 have e2 : (op == 2) = false := by rw [beq_eq_false_iff_ne]; omega
 have e27 : (op == 27) = false := by rw [beq_eq_false_iff_ne]; omega
 have e19 : (op == 19) = false := by rw [beq_eq_false_iff_ne]; omega
 have e20 : (op == 20) = false := by rw [beq_eq_false_iff_ne]; omega
 have e34 : (op == 34) = false := by rw [beq_eq_false_iff_ne]; omega
 have e18 : (op == 18) = false := by rw [beq_eq_false_iff_ne]; omega
 have e35 : (op == 35) = false := by rw [beq_eq_false_iff_ne]; omega
 have e36 : (op == 36) = false := by rw [beq_eq_false_iff_ne]; omega
 have e37 : (op == 37) = false := by rw [beq_eq_false_iff_ne]; omega
 have e26 : (op == 26) = false := by rw [beq_eq_false_iff_ne]; omega
 have e28 : (op == 28) = false := by rw [beq_eq_false_iff_ne]; omega
 have e30 : (op == 30) = false := by rw [beq_eq_false_iff_ne]; omega
 have e32 : (op == 32) = false := by rw [beq_eq_false_iff_ne]; omega
 have e29 : (op == 29) = false := by rw [beq_eq_false_iff_ne]; omega
 have e33 : (op == 33) = false := by rw [beq_eq_false_iff_ne]; omega
 have e43 : (op == 43) = false := by rw [beq_eq_false_iff_ne]; omega
 have e45 : (op == 45) = false := by rw [beq_eq_false_iff_ne]; omega
 have e46 : (op == 46) = false := by rw [beq_eq_false_iff_ne]; omega
 have l3 : decide (3 ≤ op) = true := by simp; omega
 have g3 : decide (op ≤ 10) = false := by simp; omega
 have l12 : decide (12 ≤ op) = true := by simp; omega
 have g12 : decide (op ≤ 17) = false := by simp; omega
 have l21 : decide (21 ≤ op) = true := by simp; omega
 have g21 : decide (op ≤ 25) = false := by simp; omega
 have l47 : decide (47 ≤ op) = true := by simp; omega
 have g47 : decide (op ≤ 50) = true := by simp; omega
 have O1 := Yh_ (O9.start w a b)
 have H0 := Yh_ h0
 clear hlo hhi h0
 unfold Opd.arg
 go_enter Tryz.func62, Tryz.ntmps62
 go_wp2_with (have _t := O1; clear _t; go_at_call 80; refine (Ydr a _).mono ?_; rintro e w2 ⟨rfl, hu⟩; rw [H0.out]; have O2 := Yh_ (O1.out.step hu); have ca := Ya O2.out.a; have cb := Ya O2.out.b; clear hu O1)
 go_ret
 exact ⟨rfl, O2.out.u⟩
theorem Yg22 : (∀ (a b : Opd) (w : World) (h0 : Ya7 a = true) (h1 : Yu b = true), Calls Tryz.prog 62 #[.int .i64 45, a.arg, b.arg] w fun e w' => e = .returned (.bool true) ∧ Upd [] w w') ∧
 (∀ (a b : Opd) (w : World) (h0 : Ya7 a = true) (h1 : Yu b = false), Calls Tryz.prog 62 #[.int .i64 45, a.arg, b.arg] w fun e w' => e = .returned (.bool false) ∧ Upd [] w w') ∧
 (∀ (a b : Opd) (w : World) (h0 : Ya7 a = true) (h1 : Yu b = true), Calls Tryz.prog 62 #[.int .i64 46, a.arg, b.arg] w fun e w' => e = .returned (.bool true) ∧ Upd [] w w') ∧
 (∀ (a b : Opd) (w : World) (h0 : Ya7 a = true) (h1 : Yu b = false), Calls Tryz.prog 62 #[.int .i64 46, a.arg, b.arg] w fun e w' => e = .returned (.bool false) ∧ Upd [] w w') ∧
 (∀ (a b : Opd) (w : World) (h0 : Ya7 a = true) (h1 : Yu b = true), Calls Tryz.prog 62 #[.int .i64 53, a.arg, b.arg] w fun e w' => e = .returned (.bool true) ∧ Upd [] w w') ∧
 (∀ (a b : Opd) (w : World) (h0 : Ya7 a = true) (h1 : Yu b = false), Calls Tryz.prog 62 #[.int .i64 53, a.arg, b.arg] w fun e w' => e = .returned (.bool false) ∧ Upd [] w w') := by
 refine ⟨fun a b w h0 h1 => ?_, fun a b w h0 h1 => ?_, fun a b w h0 h1 => ?_, fun a b w h0 h1 => ?_, fun a b w h0 h1 => ?_, fun a b w h0 h1 => ?_⟩
 all_goals
  have O1 := Yh_ (O9.start w a b)
  have H0 := Yh_ h0
  have H1 := Yh_ h1
  clear h0 h1
  unfold Opd.arg
  go_enter Tryz.func62, Tryz.ntmps62
  go_wp2_with (first | (have _t := O1; clear _t; go_at_call 80; refine (Ydr a _).mono ?_; rintro e w2 ⟨rfl, hu⟩; rw [H0.out]; have O2 := Yh_ (O1.out.step hu); have ca := Ya O2.out.a; have cb := Ya O2.out.b; clear hu O1) | (have _t := O2; clear _t; go_at_call 82; refine (Ycu b _).mono ?_; rintro e w3 ⟨rfl, hu⟩; rw [H1.out]; have O3 := Yh_ (O2.out.step hu); clear ca cb; have ca := Ya O3.out.a; have cb := Ya O3.out.b; clear hu O2))
  go_ret
  exact ⟨rfl, O3.out.u⟩
theorem Yg23 : (∀ (a b : Opd) (w : World) (h0 : Ya7 a = false), Calls Tryz.prog 62 #[.int .i64 45, a.arg, b.arg] w fun e w' => e = .returned (.bool false) ∧ Upd [] w w') ∧
 (∀ (a b : Opd) (w : World) (h0 : Ya7 a = false), Calls Tryz.prog 62 #[.int .i64 46, a.arg, b.arg] w fun e w' => e = .returned (.bool false) ∧ Upd [] w w') ∧
 (∀ (a b : Opd) (w : World) (h0 : Ya7 a = false), Calls Tryz.prog 62 #[.int .i64 53, a.arg, b.arg] w fun e w' => e = .returned (.bool false) ∧ Upd [] w w') := by
 refine ⟨fun a b w h0 => ?_, fun a b w h0 => ?_, fun a b w h0 => ?_⟩
 all_goals
  have O1 := Yh_ (O9.start w a b)
  have H0 := Yh_ h0
  clear h0
  unfold Opd.arg
  go_enter Tryz.func62, Tryz.ntmps62
  go_wp2_with (have _t := O1; clear _t; go_at_call 80; refine (Ydr a _).mono ?_; rintro e w2 ⟨rfl, hu⟩; rw [H0.out]; have O2 := Yh_ (O1.out.step hu); have ca := Ya O2.out.a; have cb := Ya O2.out.b; clear hu O1)
  go_ret
  exact ⟨rfl, O2.out.u⟩
theorem Yg27 : (∀ (a b : Opd) (w : World) (op : Int) (hlo : 38 ≤ op) (hhi : op ≤ 42) (h0 : Yu a = true) (h1 : Yu b = true), Calls Tryz.prog 62 #[.int .i64 op, a.arg, b.arg] w fun e w' => e = .returned (.bool true) ∧ Upd [] w w') ∧
 (∀ (a b : Opd) (w : World) (op : Int) (hlo : 38 ≤ op) (hhi : op ≤ 42) (h0 : Yu a = true) (h1 : Yu b = false), Calls Tryz.prog 62 #[.int .i64 op, a.arg, b.arg] w fun e w' => e = .returned (.bool false) ∧ Upd [] w w') := by
 refine ⟨fun a b w op hlo hhi h0 h1 => ?_, fun a b w op hlo hhi h0 h1 => ?_⟩
 all_goals
  have e1 : (op == 1) = false := by rw [beq_eq_false_iff_ne]; omega
  have e11 : (op == 11) = false := by rw [beq_eq_false_iff_ne]; omega
  have e2 : (op == 2) = false := by rw [beq_eq_false_iff_ne]; omega
  have e27 : (op == 27) = false := by rw [beq_eq_false_iff_ne]; omega
  have e19 : (op == 19) = false := by rw [beq_eq_false_iff_ne]; omega
  have e20 : (op == 20) = false := by rw [beq_eq_false_iff_ne]; omega
  have e34 : (op == 34) = false := by rw [beq_eq_false_iff_ne]; omega
  have e18 : (op == 18) = false := by rw [beq_eq_false_iff_ne]; omega
  have e35 : (op == 35) = false := by rw [beq_eq_false_iff_ne]; omega
  have e36 : (op == 36) = false := by rw [beq_eq_false_iff_ne]; omega
  have e37 : (op == 37) = false := by rw [beq_eq_false_iff_ne]; omega
  have e26 : (op == 26) = false := by rw [beq_eq_false_iff_ne]; omega
  have e28 : (op == 28) = false := by rw [beq_eq_false_iff_ne]; omega
  have e30 : (op == 30) = false := by rw [beq_eq_false_iff_ne]; omega
  have e32 : (op == 32) = false := by rw [beq_eq_false_iff_ne]; omega
  have e29 : (op == 29) = false := by rw [beq_eq_false_iff_ne]; omega
  have e33 : (op == 33) = false := by rw [beq_eq_false_iff_ne]; omega
  have e43 : (op == 43) = false := by rw [beq_eq_false_iff_ne]; omega
  have e45 : (op == 45) = false := by rw [beq_eq_false_iff_ne]; omega
  have e46 : (op == 46) = false := by rw [beq_eq_false_iff_ne]; omega
  have e53 : (op == 53) = false := by rw [beq_eq_false_iff_ne]; omega
  have e31 : (op == 31) = false := by rw [beq_eq_false_iff_ne]; omega
  have l3 : decide (3 ≤ op) = true := by simp; omega
  have g3 : decide (op ≤ 10) = false := by simp; omega
  have l12 : decide (12 ≤ op) = true := by simp; omega
  have g12 : decide (op ≤ 17) = false := by simp; omega
  have l21 : decide (21 ≤ op) = true := by simp; omega
  have g21 : decide (op ≤ 25) = false := by simp; omega
  have l47 : decide (47 ≤ op) = false := by simp; omega
  have g47 : decide (op ≤ 50) = true := by simp; omega
  have l38 : decide (38 ≤ op) = true := by simp; omega
  have g38 : decide (op ≤ 42) = true := by simp; omega
  have O1 := Yh_ (O9.start w a b)
  have H0 := Yh_ h0
  have H1 := Yh_ h1
  clear hlo hhi h0 h1
  unfold Opd.arg
  go_enter Tryz.func62, Tryz.ntmps62
  go_wp2_with (first | (have _t := O1; clear _t; go_at_call 82; refine (Ycu a _).mono ?_; rintro e w2 ⟨rfl, hu⟩; rw [H0.out]; have O2 := Yh_ (O1.out.step hu); have ca := Ya O2.out.a; have cb := Ya O2.out.b; clear hu O1) | (have _t := O2; clear _t; go_at_call 82; refine (Ycu b _).mono ?_; rintro e w3 ⟨rfl, hu⟩; rw [H1.out]; have O3 := Yh_ (O2.out.step hu); clear ca cb; have ca := Ya O3.out.a; have cb := Ya O3.out.b; clear hu O2))
  go_ret
  exact ⟨rfl, O3.out.u⟩
theorem Yro (a b : Opd) (w : World) (op : Int) (hlo : 38 ≤ op) (hhi : op ≤ 42) (h0 : Yu a = false) : Calls Tryz.prog 62 #[.int .i64 op, a.arg, b.arg] w fun e w' => e = .returned (.bool false) ∧ Upd [] w w' := by
 have e1 : (op == 1) = false := by rw [beq_eq_false_iff_ne]; omega
 have e11 : (op == 11) = false := by rw [beq_eq_false_iff_ne]; omega
 have e2 : (op == 2) = false := by rw [beq_eq_false_iff_ne]; omega
 have e27 : (op == 27) = false := by rw [beq_eq_false_iff_ne]; omega
 have e19 : (op == 19) = false := by rw [beq_eq_false_iff_ne]; omega
 have e20 : (op == 20) = false := by rw [beq_eq_false_iff_ne]; omega
 have e34 : (op == 34) = false := by rw [beq_eq_false_iff_ne]; omega
 have e18 : (op == 18) = false := by rw [beq_eq_false_iff_ne]; omega
 have e35 : (op == 35) = false := by rw [beq_eq_false_iff_ne]; omega
 have e36 : (op == 36) = false := by rw [beq_eq_false_iff_ne]; omega
 have e37 : (op == 37) = false := by rw [beq_eq_false_iff_ne]; omega
 have e26 : (op == 26) = false := by rw [beq_eq_false_iff_ne]; omega
 have e28 : (op == 28) = false := by rw [beq_eq_false_iff_ne]; omega
 have e30 : (op == 30) = false := by rw [beq_eq_false_iff_ne]; omega
 have e32 : (op == 32) = false := by rw [beq_eq_false_iff_ne]; omega
 have e29 : (op == 29) = false := by rw [beq_eq_false_iff_ne]; omega
 have e33 : (op == 33) = false := by rw [beq_eq_false_iff_ne]; omega
 have e43 : (op == 43) = false := by rw [beq_eq_false_iff_ne]; omega
 have e45 : (op == 45) = false := by rw [beq_eq_false_iff_ne]; omega
 have e46 : (op == 46) = false := by rw [beq_eq_false_iff_ne]; omega
 have e53 : (op == 53) = false := by rw [beq_eq_false_iff_ne]; omega
 have e31 : (op == 31) = false := by rw [beq_eq_false_iff_ne]; omega
 have l3 : decide (3 ≤ op) = true := by simp; omega
 have g3 : decide (op ≤ 10) = false := by simp; omega
 have l12 : decide (12 ≤ op) = true := by simp; omega
 have g12 : decide (op ≤ 17) = false := by simp; omega
 have l21 : decide (21 ≤ op) = true := by simp; omega
 have g21 : decide (op ≤ 25) = false := by simp; omega
 have l47 : decide (47 ≤ op) = false := by simp; omega
 have g47 : decide (op ≤ 50) = true := by simp; omega
 have l38 : decide (38 ≤ op) = true := by simp; omega
 have g38 : decide (op ≤ 42) = true := by simp; omega
 have O1 := Yh_ (O9.start w a b)
 have H0 := Yh_ h0
 clear hlo hhi h0
 unfold Opd.arg
 go_enter Tryz.func62, Tryz.ntmps62
 go_wp2_with (have _t := O1; clear _t; go_at_call 82; refine (Ycu a _).mono ?_; rintro e w2 ⟨rfl, hu⟩; rw [H0.out]; have O2 := Yh_ (O1.out.step hu); have ca := Ya O2.out.a; have cb := Ya O2.out.b; clear hu O1)
 go_ret
 exact ⟨rfl, O2.out.u⟩
theorem Yg25 : (∀ (a b : Opd) (w : World) (h0 : Yu a = true) (h1 : Yu b = true), Calls Tryz.prog 62 #[.int .i64 31, a.arg, b.arg] w fun e w' => e = .returned (.bool true) ∧ Upd [] w w') ∧
 (∀ (a b : Opd) (w : World) (h0 : Yu a = true) (h1 : Yu b = false), Calls Tryz.prog 62 #[.int .i64 31, a.arg, b.arg] w fun e w' => e = .returned (.bool false) ∧ Upd [] w w') ∧
 (∀ (a b : Opd) (w : World) (h0 : Yu a = true) (h1 : Yu b = true), Calls Tryz.prog 62 #[.int .i64 44, a.arg, b.arg] w fun e w' => e = .returned (.bool true) ∧ Upd [] w w') ∧
 (∀ (a b : Opd) (w : World) (h0 : Yu a = true) (h1 : Yu b = false), Calls Tryz.prog 62 #[.int .i64 44, a.arg, b.arg] w fun e w' => e = .returned (.bool false) ∧ Upd [] w w') ∧
 (∀ (a b : Opd) (w : World) (h0 : Yu a = true) (h1 : Yu b = true), Calls Tryz.prog 62 #[.int .i64 51, a.arg, b.arg] w fun e w' => e = .returned (.bool true) ∧ Upd [] w w') ∧
 (∀ (a b : Opd) (w : World) (h0 : Yu a = true) (h1 : Yu b = false), Calls Tryz.prog 62 #[.int .i64 51, a.arg, b.arg] w fun e w' => e = .returned (.bool false) ∧ Upd [] w w') ∧
 (∀ (a b : Opd) (w : World) (h0 : Yu a = true) (h1 : Yu b = true), Calls Tryz.prog 62 #[.int .i64 52, a.arg, b.arg] w fun e w' => e = .returned (.bool true) ∧ Upd [] w w') ∧
 (∀ (a b : Opd) (w : World) (h0 : Yu a = true) (h1 : Yu b = false), Calls Tryz.prog 62 #[.int .i64 52, a.arg, b.arg] w fun e w' => e = .returned (.bool false) ∧ Upd [] w w') := by
 refine ⟨fun a b w h0 h1 => ?_, fun a b w h0 h1 => ?_, fun a b w h0 h1 => ?_, fun a b w h0 h1 => ?_, fun a b w h0 h1 => ?_, fun a b w h0 h1 => ?_, fun a b w h0 h1 => ?_, fun a b w h0 h1 => ?_⟩
 all_goals
  have O1 := Yh_ (O9.start w a b)
  have H0 := Yh_ h0
  have H1 := Yh_ h1
  clear h0 h1
  unfold Opd.arg
  go_enter Tryz.func62, Tryz.ntmps62
  go_wp2_with (first | (have _t := O1; clear _t; go_at_call 82; refine (Ycu a _).mono ?_; rintro e w2 ⟨rfl, hu⟩; rw [H0.out]; have O2 := Yh_ (O1.out.step hu); have ca := Ya O2.out.a; have cb := Ya O2.out.b; clear hu O1) | (have _t := O2; clear _t; go_at_call 82; refine (Ycu b _).mono ?_; rintro e w3 ⟨rfl, hu⟩; rw [H1.out]; have O3 := Yh_ (O2.out.step hu); clear ca cb; have ca := Ya O3.out.a; have cb := Ya O3.out.b; clear hu O2))
  go_ret
  exact ⟨rfl, O3.out.u⟩
theorem Yg26 : (∀ (a b : Opd) (w : World) (h0 : Yu a = false), Calls Tryz.prog 62 #[.int .i64 31, a.arg, b.arg] w fun e w' => e = .returned (.bool false) ∧ Upd [] w w') ∧
 (∀ (a b : Opd) (w : World) (h0 : Yu a = false), Calls Tryz.prog 62 #[.int .i64 44, a.arg, b.arg] w fun e w' => e = .returned (.bool false) ∧ Upd [] w w') ∧
 (∀ (a b : Opd) (w : World) (h0 : Yu a = false), Calls Tryz.prog 62 #[.int .i64 51, a.arg, b.arg] w fun e w' => e = .returned (.bool false) ∧ Upd [] w w') ∧
 (∀ (a b : Opd) (w : World) (h0 : Yu a = false), Calls Tryz.prog 62 #[.int .i64 52, a.arg, b.arg] w fun e w' => e = .returned (.bool false) ∧ Upd [] w w') := by
 refine ⟨fun a b w h0 => ?_, fun a b w h0 => ?_, fun a b w h0 => ?_, fun a b w h0 => ?_⟩
 all_goals
  have O1 := Yh_ (O9.start w a b)
  have H0 := Yh_ h0
  clear h0
  unfold Opd.arg
  go_enter Tryz.func62, Tryz.ntmps62
  go_wp2_with (have _t := O1; clear _t; go_at_call 82; refine (Ycu a _).mono ?_; rintro e w2 ⟨rfl, hu⟩; rw [H0.out]; have O2 := Yh_ (O1.out.step hu); have ca := Ya O2.out.a; have cb := Ya O2.out.b; clear hu O1)
  go_ret
  exact ⟨rfl, O2.out.u⟩
theorem op9_lo (a b : Opd) (w : World) (op : Int) (h : op ≤ 0) : Calls Tryz.prog 62 #[.int .i64 op, a.arg, b.arg] w fun e w' => e = .returned (.bool false) ∧ Upd [] w w' := by
 have e1 : (op == 1) = false := by rw [beq_eq_false_iff_ne]; omega
 have e11 : (op == 11) = false := by rw [beq_eq_false_iff_ne]; omega
 have e2 : (op == 2) = false := by rw [beq_eq_false_iff_ne]; omega
 have e27 : (op == 27) = false := by rw [beq_eq_false_iff_ne]; omega
 have e19 : (op == 19) = false := by rw [beq_eq_false_iff_ne]; omega
 have e20 : (op == 20) = false := by rw [beq_eq_false_iff_ne]; omega
 have e34 : (op == 34) = false := by rw [beq_eq_false_iff_ne]; omega
 have e18 : (op == 18) = false := by rw [beq_eq_false_iff_ne]; omega
 have e35 : (op == 35) = false := by rw [beq_eq_false_iff_ne]; omega
 have e36 : (op == 36) = false := by rw [beq_eq_false_iff_ne]; omega
 have e37 : (op == 37) = false := by rw [beq_eq_false_iff_ne]; omega
 have e26 : (op == 26) = false := by rw [beq_eq_false_iff_ne]; omega
 have e28 : (op == 28) = false := by rw [beq_eq_false_iff_ne]; omega
 have e30 : (op == 30) = false := by rw [beq_eq_false_iff_ne]; omega
 have e32 : (op == 32) = false := by rw [beq_eq_false_iff_ne]; omega
 have e29 : (op == 29) = false := by rw [beq_eq_false_iff_ne]; omega
 have e33 : (op == 33) = false := by rw [beq_eq_false_iff_ne]; omega
 have e43 : (op == 43) = false := by rw [beq_eq_false_iff_ne]; omega
 have e45 : (op == 45) = false := by rw [beq_eq_false_iff_ne]; omega
 have e46 : (op == 46) = false := by rw [beq_eq_false_iff_ne]; omega
 have e53 : (op == 53) = false := by rw [beq_eq_false_iff_ne]; omega
 have e31 : (op == 31) = false := by rw [beq_eq_false_iff_ne]; omega
 have e44 : (op == 44) = false := by rw [beq_eq_false_iff_ne]; omega
 have e51 : (op == 51) = false := by rw [beq_eq_false_iff_ne]; omega
 have e52 : (op == 52) = false := by rw [beq_eq_false_iff_ne]; omega
 have l3 : decide (3 ≤ op) = false := by simp; omega
 have g3 : decide (op ≤ 10) = true := by simp; omega
 have l12 : decide (12 ≤ op) = false := by simp; omega
 have g12 : decide (op ≤ 17) = true := by simp; omega
 have l21 : decide (21 ≤ op) = false := by simp; omega
 have g21 : decide (op ≤ 25) = true := by simp; omega
 have l47 : decide (47 ≤ op) = false := by simp; omega
 have g47 : decide (op ≤ 50) = true := by simp; omega
 have l38 : decide (38 ≤ op) = false := by simp; omega
 have g38 : decide (op ≤ 42) = true := by simp; omega
 clear h
 unfold Opd.arg
 go_enter Tryz.func62, Tryz.ntmps62
 go_wp2_with fail
 go_ret
 exact ⟨rfl, ((Upd.refl [] w).alloc _).alloc _⟩
theorem op9_hi (a b : Opd) (w : World) (op : Int) (h : 54 ≤ op) : Calls Tryz.prog 62 #[.int .i64 op, a.arg, b.arg] w fun e w' => e = .returned (.bool false) ∧ Upd [] w w' := by
 have e1 : (op == 1) = false := by rw [beq_eq_false_iff_ne]; omega
 have e11 : (op == 11) = false := by rw [beq_eq_false_iff_ne]; omega
 have e2 : (op == 2) = false := by rw [beq_eq_false_iff_ne]; omega
 have e27 : (op == 27) = false := by rw [beq_eq_false_iff_ne]; omega
 have e19 : (op == 19) = false := by rw [beq_eq_false_iff_ne]; omega
 have e20 : (op == 20) = false := by rw [beq_eq_false_iff_ne]; omega
 have e34 : (op == 34) = false := by rw [beq_eq_false_iff_ne]; omega
 have e18 : (op == 18) = false := by rw [beq_eq_false_iff_ne]; omega
 have e35 : (op == 35) = false := by rw [beq_eq_false_iff_ne]; omega
 have e36 : (op == 36) = false := by rw [beq_eq_false_iff_ne]; omega
 have e37 : (op == 37) = false := by rw [beq_eq_false_iff_ne]; omega
 have e26 : (op == 26) = false := by rw [beq_eq_false_iff_ne]; omega
 have e28 : (op == 28) = false := by rw [beq_eq_false_iff_ne]; omega
 have e30 : (op == 30) = false := by rw [beq_eq_false_iff_ne]; omega
 have e32 : (op == 32) = false := by rw [beq_eq_false_iff_ne]; omega
 have e29 : (op == 29) = false := by rw [beq_eq_false_iff_ne]; omega
 have e33 : (op == 33) = false := by rw [beq_eq_false_iff_ne]; omega
 have e43 : (op == 43) = false := by rw [beq_eq_false_iff_ne]; omega
 have e45 : (op == 45) = false := by rw [beq_eq_false_iff_ne]; omega
 have e46 : (op == 46) = false := by rw [beq_eq_false_iff_ne]; omega
 have e53 : (op == 53) = false := by rw [beq_eq_false_iff_ne]; omega
 have e31 : (op == 31) = false := by rw [beq_eq_false_iff_ne]; omega
 have e44 : (op == 44) = false := by rw [beq_eq_false_iff_ne]; omega
 have e51 : (op == 51) = false := by rw [beq_eq_false_iff_ne]; omega
 have e52 : (op == 52) = false := by rw [beq_eq_false_iff_ne]; omega
 have l3 : decide (3 ≤ op) = true := by simp; omega
 have g3 : decide (op ≤ 10) = false := by simp; omega
 have l12 : decide (12 ≤ op) = true := by simp; omega
 have g12 : decide (op ≤ 17) = false := by simp; omega
 have l21 : decide (21 ≤ op) = true := by simp; omega
 have g21 : decide (op ≤ 25) = false := by simp; omega
 have l47 : decide (47 ≤ op) = true := by simp; omega
 have g47 : decide (op ≤ 50) = false := by simp; omega
 have l38 : decide (38 ≤ op) = true := by simp; omega
 have g38 : decide (op ≤ 42) = false := by simp; omega
 clear h
 unfold Opd.arg
 go_enter Tryz.func62, Tryz.ntmps62
 go_wp2_with fail
 go_ret
 exact ⟨rfl, ((Upd.refl [] w).alloc _).alloc _⟩
end Go.Proofs.YteiplidhkelkbaaGreat
