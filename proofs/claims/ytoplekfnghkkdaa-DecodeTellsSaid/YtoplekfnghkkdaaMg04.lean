/-
  The document's instructions in Go: operands, Is: each by its contract. No condition.
-/
import Derived.Test.YtoplekfnghkkdaaMg03
namespace Go.Proofs.Ytoplekfnghkkdaa
open Go Go.RowKit
set_option linter.unusedVariables false
set_option linter.unusedSimpArgs false

/-- Two operands in boxes. -/
structure O9 (w : World) (a b : Opd) (w1 : World) : Prop where
  a : w1.heap[w.heap.size]? = some (.cells #[.int .i64 a.k, .int .i64 a.r, .int .u32 a.imm, .int .i64 a.b, .int .i64 a.x, .int .u32 a.sc] 26 (0, 0))
  b : w1.heap[w.heap.size + 1]? = some (.cells #[.int .i64 b.k, .int .i64 b.r, .int .u32 b.imm, .int .i64 b.b, .int .i64 b.x, .int .u32 b.sc] 26 (0, 0))
  u : Upd [] w w1
theorem O9.step {w w1 w2 : World} {a b : Opd} (h : O9 w a b w1) (u : Upd [] w1 w2) : O9 w a b w2 := ⟨u.get h.a (by simp), u.get h.b (by simp), h.u.also u (by simp)⟩
theorem O9.start (w : World) (a b : Opd) : O9 w a b ((w.alloc (.cells #[.int .i64 a.k, .int .i64 a.r, .int .u32 a.imm, .int .i64 a.b, .int .i64 a.x, .int .u32 a.sc] 26)).alloc (.cells #[.int .i64 b.k, .int .i64 b.r, .int .u32 b.imm, .int .i64 b.b, .int .i64 b.x, .int .u32 b.sc] 26)) := by
  refine ⟨heap_alloc_keep _ (heap_alloc_new _ _), ?_, ((Upd.refl [] w).alloc _).alloc _⟩
  have := heap_alloc_new (w.alloc (.cells #[.int .i64 a.k, .int .i64 a.r, .int .u32 a.imm, .int .i64 a.b, .int .i64 a.x, .int .u32 a.sc] 26)) (.cells #[.int .i64 b.k, .int .i64 b.r, .int .u32 b.imm, .int .i64 b.b, .int .i64 b.x, .int .u32 b.sc] 26)
  rwa [show (w.alloc (.cells #[.int .i64 a.k, .int .i64 a.r, .int .u32 a.imm, .int .i64 a.b, .int .i64 a.x, .int .u32 a.sc] 26)).heap.size = w.heap.size + 1 from by simp] at this

set_option maxRecDepth 100000 in
set_option maxHeartbeats 1000000 in
theorem op9_0_0_0 (a b : Opd) (w : World) (h0 : rmB a = true) (h1 : isRegB b = true) : Calls Try.prog 116 #[.int .i64 1, a.arg, b.arg] w fun e w' => e = .returned (.bool true) ∧ Upd [] w w' := by
  have O1 := Lib.hid (O9.start w a b)
  have H0 := Lib.hid h0
  have H1 := Lib.hid h1
  clear h0 h1
  unfold Opd.arg
  go_enter Try.func116, Try.ntmps116
  go_wp2_with (first | (have _t := O1; clear _t; go_at_call 177; refine (rm9_any a _).mono ?_; rintro e w2 ⟨rfl, hu⟩; rw [H0.out]; have O2 := Lib.hid (O1.out.step hu); have ca := cells_of O2.out.a; have cb := cells_of O2.out.b; clear hu O1) | (have _t := O2; clear _t; go_at_call 178; refine (isReg9_any b _).mono ?_; rintro e w3 ⟨rfl, hu⟩; rw [H1.out]; have O3 := Lib.hid (O2.out.step hu); clear ca cb; have ca := cells_of O3.out.a; have cb := cells_of O3.out.b; clear hu O2))
  go_ret
  exact ⟨rfl, O3.out.u⟩

set_option maxRecDepth 100000 in
set_option maxHeartbeats 1000000 in
theorem op9_0_0_1 (a b : Opd) (w : World) (h0 : rmB a = true) (h1 : isRegB b = false) (h2 : isImmB b = true) : Calls Try.prog 116 #[.int .i64 1, a.arg, b.arg] w fun e w' => e = .returned (.bool true) ∧ Upd [] w w' := by
  have O1 := Lib.hid (O9.start w a b)
  have H0 := Lib.hid h0
  have H1 := Lib.hid h1
  have H2 := Lib.hid h2
  clear h0 h1 h2
  unfold Opd.arg
  go_enter Try.func116, Try.ntmps116
  go_wp2_with (first | (have _t := O1; clear _t; go_at_call 177; refine (rm9_any a _).mono ?_; rintro e w2 ⟨rfl, hu⟩; rw [H0.out]; have O2 := Lib.hid (O1.out.step hu); have ca := cells_of O2.out.a; have cb := cells_of O2.out.b; clear hu O1) | (have _t := O2; clear _t; go_at_call 178; refine (isReg9_any b _).mono ?_; rintro e w3 ⟨rfl, hu⟩; rw [H1.out]; have O3 := Lib.hid (O2.out.step hu); clear ca cb; have ca := cells_of O3.out.a; have cb := cells_of O3.out.b; clear hu O2) | (have _t := O3; clear _t; go_at_call 179; refine (isImm9_any b _).mono ?_; rintro e w4 ⟨rfl, hu⟩; rw [H2.out]; have O4 := Lib.hid (O3.out.step hu); clear ca cb; have ca := cells_of O4.out.a; have cb := cells_of O4.out.b; clear hu O3))
  go_ret
  exact ⟨rfl, O4.out.u⟩

set_option maxRecDepth 100000 in
set_option maxHeartbeats 1000000 in
theorem op9_0_0_2 (a b : Opd) (w : World) (h0 : rmB a = true) (h1 : isRegB b = false) (h2 : isImmB b = false) (h3 : isRegB a = true) (h4 : isMemB b = true) : Calls Try.prog 116 #[.int .i64 1, a.arg, b.arg] w fun e w' => e = .returned (.bool true) ∧ Upd [] w w' := by
  have O1 := Lib.hid (O9.start w a b)
  have H0 := Lib.hid h0
  have H1 := Lib.hid h1
  have H2 := Lib.hid h2
  have H3 := Lib.hid h3
  have H4 := Lib.hid h4
  clear h0 h1 h2 h3 h4
  unfold Opd.arg
  go_enter Try.func116, Try.ntmps116
  go_wp2_with (first | (have _t := O1; clear _t; go_at_call 177; refine (rm9_any a _).mono ?_; rintro e w2 ⟨rfl, hu⟩; rw [H0.out]; have O2 := Lib.hid (O1.out.step hu); have ca := cells_of O2.out.a; have cb := cells_of O2.out.b; clear hu O1) | (have _t := O2; clear _t; go_at_call 178; refine (isReg9_any b _).mono ?_; rintro e w3 ⟨rfl, hu⟩; rw [H1.out]; have O3 := Lib.hid (O2.out.step hu); clear ca cb; have ca := cells_of O3.out.a; have cb := cells_of O3.out.b; clear hu O2) | (have _t := O3; clear _t; go_at_call 179; refine (isImm9_any b _).mono ?_; rintro e w4 ⟨rfl, hu⟩; rw [H2.out]; have O4 := Lib.hid (O3.out.step hu); clear ca cb; have ca := cells_of O4.out.a; have cb := cells_of O4.out.b; clear hu O3) | (have _t := O4; clear _t; go_at_call 178; refine (isReg9_any a _).mono ?_; rintro e w5 ⟨rfl, hu⟩; rw [H3.out]; have O5 := Lib.hid (O4.out.step hu); clear ca cb; have ca := cells_of O5.out.a; have cb := cells_of O5.out.b; clear hu O4) | (have _t := O5; clear _t; go_at_call 180; refine (isMem9_any b _).mono ?_; rintro e w6 ⟨rfl, hu⟩; rw [H4.out]; have O6 := Lib.hid (O5.out.step hu); clear ca cb; have ca := cells_of O6.out.a; have cb := cells_of O6.out.b; clear hu O5))
  go_ret
  exact ⟨rfl, O6.out.u⟩

set_option maxRecDepth 100000 in
set_option maxHeartbeats 1000000 in
theorem op9_0_0_3 (a b : Opd) (w : World) (h0 : rmB a = true) (h1 : isRegB b = false) (h2 : isImmB b = false) (h3 : isRegB a = true) (h4 : isMemB b = false) : Calls Try.prog 116 #[.int .i64 1, a.arg, b.arg] w fun e w' => e = .returned (.bool false) ∧ Upd [] w w' := by
  have O1 := Lib.hid (O9.start w a b)
  have H0 := Lib.hid h0
  have H1 := Lib.hid h1
  have H2 := Lib.hid h2
  have H3 := Lib.hid h3
  have H4 := Lib.hid h4
  clear h0 h1 h2 h3 h4
  unfold Opd.arg
  go_enter Try.func116, Try.ntmps116
  go_wp2_with (first | (have _t := O1; clear _t; go_at_call 177; refine (rm9_any a _).mono ?_; rintro e w2 ⟨rfl, hu⟩; rw [H0.out]; have O2 := Lib.hid (O1.out.step hu); have ca := cells_of O2.out.a; have cb := cells_of O2.out.b; clear hu O1) | (have _t := O2; clear _t; go_at_call 178; refine (isReg9_any b _).mono ?_; rintro e w3 ⟨rfl, hu⟩; rw [H1.out]; have O3 := Lib.hid (O2.out.step hu); clear ca cb; have ca := cells_of O3.out.a; have cb := cells_of O3.out.b; clear hu O2) | (have _t := O3; clear _t; go_at_call 179; refine (isImm9_any b _).mono ?_; rintro e w4 ⟨rfl, hu⟩; rw [H2.out]; have O4 := Lib.hid (O3.out.step hu); clear ca cb; have ca := cells_of O4.out.a; have cb := cells_of O4.out.b; clear hu O3) | (have _t := O4; clear _t; go_at_call 178; refine (isReg9_any a _).mono ?_; rintro e w5 ⟨rfl, hu⟩; rw [H3.out]; have O5 := Lib.hid (O4.out.step hu); clear ca cb; have ca := cells_of O5.out.a; have cb := cells_of O5.out.b; clear hu O4) | (have _t := O5; clear _t; go_at_call 180; refine (isMem9_any b _).mono ?_; rintro e w6 ⟨rfl, hu⟩; rw [H4.out]; have O6 := Lib.hid (O5.out.step hu); clear ca cb; have ca := cells_of O6.out.a; have cb := cells_of O6.out.b; clear hu O5))
  go_ret
  exact ⟨rfl, O6.out.u⟩

set_option maxRecDepth 100000 in
set_option maxHeartbeats 1000000 in
theorem op9_0_0_4 (a b : Opd) (w : World) (h0 : rmB a = true) (h1 : isRegB b = false) (h2 : isImmB b = false) (h3 : isRegB a = false) : Calls Try.prog 116 #[.int .i64 1, a.arg, b.arg] w fun e w' => e = .returned (.bool false) ∧ Upd [] w w' := by
  have O1 := Lib.hid (O9.start w a b)
  have H0 := Lib.hid h0
  have H1 := Lib.hid h1
  have H2 := Lib.hid h2
  have H3 := Lib.hid h3
  clear h0 h1 h2 h3
  unfold Opd.arg
  go_enter Try.func116, Try.ntmps116
  go_wp2_with (first | (have _t := O1; clear _t; go_at_call 177; refine (rm9_any a _).mono ?_; rintro e w2 ⟨rfl, hu⟩; rw [H0.out]; have O2 := Lib.hid (O1.out.step hu); have ca := cells_of O2.out.a; have cb := cells_of O2.out.b; clear hu O1) | (have _t := O2; clear _t; go_at_call 178; refine (isReg9_any b _).mono ?_; rintro e w3 ⟨rfl, hu⟩; rw [H1.out]; have O3 := Lib.hid (O2.out.step hu); clear ca cb; have ca := cells_of O3.out.a; have cb := cells_of O3.out.b; clear hu O2) | (have _t := O3; clear _t; go_at_call 179; refine (isImm9_any b _).mono ?_; rintro e w4 ⟨rfl, hu⟩; rw [H2.out]; have O4 := Lib.hid (O3.out.step hu); clear ca cb; have ca := cells_of O4.out.a; have cb := cells_of O4.out.b; clear hu O3) | (have _t := O4; clear _t; go_at_call 178; refine (isReg9_any a _).mono ?_; rintro e w5 ⟨rfl, hu⟩; rw [H3.out]; have O5 := Lib.hid (O4.out.step hu); clear ca cb; have ca := cells_of O5.out.a; have cb := cells_of O5.out.b; clear hu O4))
  go_ret
  exact ⟨rfl, O5.out.u⟩

set_option maxRecDepth 100000 in
set_option maxHeartbeats 1000000 in
theorem op9_0_0_5 (a b : Opd) (w : World) (h0 : rmB a = false) : Calls Try.prog 116 #[.int .i64 1, a.arg, b.arg] w fun e w' => e = .returned (.bool false) ∧ Upd [] w w' := by
  have O1 := Lib.hid (O9.start w a b)
  have H0 := Lib.hid h0
  clear h0
  unfold Opd.arg
  go_enter Try.func116, Try.ntmps116
  go_wp2_with (have _t := O1; clear _t; go_at_call 177; refine (rm9_any a _).mono ?_; rintro e w2 ⟨rfl, hu⟩; rw [H0.out]; have O2 := Lib.hid (O1.out.step hu); have ca := cells_of O2.out.a; have cb := cells_of O2.out.b; clear hu O1)
  go_ret
  exact ⟨rfl, O2.out.u⟩

set_option maxRecDepth 100000 in
set_option maxHeartbeats 1000000 in
theorem op9_0_1_0 (a b : Opd) (w : World) (op : Int) (hlo : 3 ≤ op) (hhi : op ≤ 10) (h0 : rmB a = true) (h1 : isRegB b = true) : Calls Try.prog 116 #[.int .i64 op, a.arg, b.arg] w fun e w' => e = .returned (.bool true) ∧ Upd [] w w' := by
  have e1 : (op == 1) = false := by rw [beq_eq_false_iff_ne]; omega
  have l3 : decide (3 ≤ op) = true := by simp; omega
  have g3 : decide (op ≤ 10) = true := by simp; omega
  have O1 := Lib.hid (O9.start w a b)
  have H0 := Lib.hid h0
  have H1 := Lib.hid h1
  clear hlo hhi h0 h1
  unfold Opd.arg
  go_enter Try.func116, Try.ntmps116
  go_wp2_with (first | (have _t := O1; clear _t; go_at_call 177; refine (rm9_any a _).mono ?_; rintro e w2 ⟨rfl, hu⟩; rw [H0.out]; have O2 := Lib.hid (O1.out.step hu); have ca := cells_of O2.out.a; have cb := cells_of O2.out.b; clear hu O1) | (have _t := O2; clear _t; go_at_call 178; refine (isReg9_any b _).mono ?_; rintro e w3 ⟨rfl, hu⟩; rw [H1.out]; have O3 := Lib.hid (O2.out.step hu); clear ca cb; have ca := cells_of O3.out.a; have cb := cells_of O3.out.b; clear hu O2))
  go_ret
  exact ⟨rfl, O3.out.u⟩

set_option maxRecDepth 100000 in
set_option maxHeartbeats 1000000 in
theorem op9_0_1_1 (a b : Opd) (w : World) (op : Int) (hlo : 3 ≤ op) (hhi : op ≤ 10) (h0 : rmB a = true) (h1 : isRegB b = false) (h2 : isImmB b = true) : Calls Try.prog 116 #[.int .i64 op, a.arg, b.arg] w fun e w' => e = .returned (.bool true) ∧ Upd [] w w' := by
  have e1 : (op == 1) = false := by rw [beq_eq_false_iff_ne]; omega
  have l3 : decide (3 ≤ op) = true := by simp; omega
  have g3 : decide (op ≤ 10) = true := by simp; omega
  have O1 := Lib.hid (O9.start w a b)
  have H0 := Lib.hid h0
  have H1 := Lib.hid h1
  have H2 := Lib.hid h2
  clear hlo hhi h0 h1 h2
  unfold Opd.arg
  go_enter Try.func116, Try.ntmps116
  go_wp2_with (first | (have _t := O1; clear _t; go_at_call 177; refine (rm9_any a _).mono ?_; rintro e w2 ⟨rfl, hu⟩; rw [H0.out]; have O2 := Lib.hid (O1.out.step hu); have ca := cells_of O2.out.a; have cb := cells_of O2.out.b; clear hu O1) | (have _t := O2; clear _t; go_at_call 178; refine (isReg9_any b _).mono ?_; rintro e w3 ⟨rfl, hu⟩; rw [H1.out]; have O3 := Lib.hid (O2.out.step hu); clear ca cb; have ca := cells_of O3.out.a; have cb := cells_of O3.out.b; clear hu O2) | (have _t := O3; clear _t; go_at_call 179; refine (isImm9_any b _).mono ?_; rintro e w4 ⟨rfl, hu⟩; rw [H2.out]; have O4 := Lib.hid (O3.out.step hu); clear ca cb; have ca := cells_of O4.out.a; have cb := cells_of O4.out.b; clear hu O3))
  go_ret
  exact ⟨rfl, O4.out.u⟩

set_option maxRecDepth 100000 in
set_option maxHeartbeats 1000000 in
theorem op9_0_1_2 (a b : Opd) (w : World) (op : Int) (hlo : 3 ≤ op) (hhi : op ≤ 10) (h0 : rmB a = true) (h1 : isRegB b = false) (h2 : isImmB b = false) (h3 : isRegB a = true) (h4 : isMemB b = true) : Calls Try.prog 116 #[.int .i64 op, a.arg, b.arg] w fun e w' => e = .returned (.bool true) ∧ Upd [] w w' := by
  have e1 : (op == 1) = false := by rw [beq_eq_false_iff_ne]; omega
  have l3 : decide (3 ≤ op) = true := by simp; omega
  have g3 : decide (op ≤ 10) = true := by simp; omega
  have O1 := Lib.hid (O9.start w a b)
  have H0 := Lib.hid h0
  have H1 := Lib.hid h1
  have H2 := Lib.hid h2
  have H3 := Lib.hid h3
  have H4 := Lib.hid h4
  clear hlo hhi h0 h1 h2 h3 h4
  unfold Opd.arg
  go_enter Try.func116, Try.ntmps116
  go_wp2_with (first | (have _t := O1; clear _t; go_at_call 177; refine (rm9_any a _).mono ?_; rintro e w2 ⟨rfl, hu⟩; rw [H0.out]; have O2 := Lib.hid (O1.out.step hu); have ca := cells_of O2.out.a; have cb := cells_of O2.out.b; clear hu O1) | (have _t := O2; clear _t; go_at_call 178; refine (isReg9_any b _).mono ?_; rintro e w3 ⟨rfl, hu⟩; rw [H1.out]; have O3 := Lib.hid (O2.out.step hu); clear ca cb; have ca := cells_of O3.out.a; have cb := cells_of O3.out.b; clear hu O2) | (have _t := O3; clear _t; go_at_call 179; refine (isImm9_any b _).mono ?_; rintro e w4 ⟨rfl, hu⟩; rw [H2.out]; have O4 := Lib.hid (O3.out.step hu); clear ca cb; have ca := cells_of O4.out.a; have cb := cells_of O4.out.b; clear hu O3) | (have _t := O4; clear _t; go_at_call 178; refine (isReg9_any a _).mono ?_; rintro e w5 ⟨rfl, hu⟩; rw [H3.out]; have O5 := Lib.hid (O4.out.step hu); clear ca cb; have ca := cells_of O5.out.a; have cb := cells_of O5.out.b; clear hu O4) | (have _t := O5; clear _t; go_at_call 180; refine (isMem9_any b _).mono ?_; rintro e w6 ⟨rfl, hu⟩; rw [H4.out]; have O6 := Lib.hid (O5.out.step hu); clear ca cb; have ca := cells_of O6.out.a; have cb := cells_of O6.out.b; clear hu O5))
  go_ret
  exact ⟨rfl, O6.out.u⟩

set_option maxRecDepth 100000 in
set_option maxHeartbeats 1000000 in
theorem op9_0_1_3 (a b : Opd) (w : World) (op : Int) (hlo : 3 ≤ op) (hhi : op ≤ 10) (h0 : rmB a = true) (h1 : isRegB b = false) (h2 : isImmB b = false) (h3 : isRegB a = true) (h4 : isMemB b = false) : Calls Try.prog 116 #[.int .i64 op, a.arg, b.arg] w fun e w' => e = .returned (.bool false) ∧ Upd [] w w' := by
  have e1 : (op == 1) = false := by rw [beq_eq_false_iff_ne]; omega
  have l3 : decide (3 ≤ op) = true := by simp; omega
  have g3 : decide (op ≤ 10) = true := by simp; omega
  have O1 := Lib.hid (O9.start w a b)
  have H0 := Lib.hid h0
  have H1 := Lib.hid h1
  have H2 := Lib.hid h2
  have H3 := Lib.hid h3
  have H4 := Lib.hid h4
  clear hlo hhi h0 h1 h2 h3 h4
  unfold Opd.arg
  go_enter Try.func116, Try.ntmps116
  go_wp2_with (first | (have _t := O1; clear _t; go_at_call 177; refine (rm9_any a _).mono ?_; rintro e w2 ⟨rfl, hu⟩; rw [H0.out]; have O2 := Lib.hid (O1.out.step hu); have ca := cells_of O2.out.a; have cb := cells_of O2.out.b; clear hu O1) | (have _t := O2; clear _t; go_at_call 178; refine (isReg9_any b _).mono ?_; rintro e w3 ⟨rfl, hu⟩; rw [H1.out]; have O3 := Lib.hid (O2.out.step hu); clear ca cb; have ca := cells_of O3.out.a; have cb := cells_of O3.out.b; clear hu O2) | (have _t := O3; clear _t; go_at_call 179; refine (isImm9_any b _).mono ?_; rintro e w4 ⟨rfl, hu⟩; rw [H2.out]; have O4 := Lib.hid (O3.out.step hu); clear ca cb; have ca := cells_of O4.out.a; have cb := cells_of O4.out.b; clear hu O3) | (have _t := O4; clear _t; go_at_call 178; refine (isReg9_any a _).mono ?_; rintro e w5 ⟨rfl, hu⟩; rw [H3.out]; have O5 := Lib.hid (O4.out.step hu); clear ca cb; have ca := cells_of O5.out.a; have cb := cells_of O5.out.b; clear hu O4) | (have _t := O5; clear _t; go_at_call 180; refine (isMem9_any b _).mono ?_; rintro e w6 ⟨rfl, hu⟩; rw [H4.out]; have O6 := Lib.hid (O5.out.step hu); clear ca cb; have ca := cells_of O6.out.a; have cb := cells_of O6.out.b; clear hu O5))
  go_ret
  exact ⟨rfl, O6.out.u⟩

set_option maxRecDepth 100000 in
set_option maxHeartbeats 1000000 in
theorem op9_0_1_4 (a b : Opd) (w : World) (op : Int) (hlo : 3 ≤ op) (hhi : op ≤ 10) (h0 : rmB a = true) (h1 : isRegB b = false) (h2 : isImmB b = false) (h3 : isRegB a = false) : Calls Try.prog 116 #[.int .i64 op, a.arg, b.arg] w fun e w' => e = .returned (.bool false) ∧ Upd [] w w' := by
  have e1 : (op == 1) = false := by rw [beq_eq_false_iff_ne]; omega
  have l3 : decide (3 ≤ op) = true := by simp; omega
  have g3 : decide (op ≤ 10) = true := by simp; omega
  have O1 := Lib.hid (O9.start w a b)
  have H0 := Lib.hid h0
  have H1 := Lib.hid h1
  have H2 := Lib.hid h2
  have H3 := Lib.hid h3
  clear hlo hhi h0 h1 h2 h3
  unfold Opd.arg
  go_enter Try.func116, Try.ntmps116
  go_wp2_with (first | (have _t := O1; clear _t; go_at_call 177; refine (rm9_any a _).mono ?_; rintro e w2 ⟨rfl, hu⟩; rw [H0.out]; have O2 := Lib.hid (O1.out.step hu); have ca := cells_of O2.out.a; have cb := cells_of O2.out.b; clear hu O1) | (have _t := O2; clear _t; go_at_call 178; refine (isReg9_any b _).mono ?_; rintro e w3 ⟨rfl, hu⟩; rw [H1.out]; have O3 := Lib.hid (O2.out.step hu); clear ca cb; have ca := cells_of O3.out.a; have cb := cells_of O3.out.b; clear hu O2) | (have _t := O3; clear _t; go_at_call 179; refine (isImm9_any b _).mono ?_; rintro e w4 ⟨rfl, hu⟩; rw [H2.out]; have O4 := Lib.hid (O3.out.step hu); clear ca cb; have ca := cells_of O4.out.a; have cb := cells_of O4.out.b; clear hu O3) | (have _t := O4; clear _t; go_at_call 178; refine (isReg9_any a _).mono ?_; rintro e w5 ⟨rfl, hu⟩; rw [H3.out]; have O5 := Lib.hid (O4.out.step hu); clear ca cb; have ca := cells_of O5.out.a; have cb := cells_of O5.out.b; clear hu O4))
  go_ret
  exact ⟨rfl, O5.out.u⟩

set_option maxRecDepth 100000 in
set_option maxHeartbeats 1000000 in
theorem op9_0_1_5 (a b : Opd) (w : World) (op : Int) (hlo : 3 ≤ op) (hhi : op ≤ 10) (h0 : rmB a = false) : Calls Try.prog 116 #[.int .i64 op, a.arg, b.arg] w fun e w' => e = .returned (.bool false) ∧ Upd [] w w' := by
  have e1 : (op == 1) = false := by rw [beq_eq_false_iff_ne]; omega
  have l3 : decide (3 ≤ op) = true := by simp; omega
  have g3 : decide (op ≤ 10) = true := by simp; omega
  have O1 := Lib.hid (O9.start w a b)
  have H0 := Lib.hid h0
  clear hlo hhi h0
  unfold Opd.arg
  go_enter Try.func116, Try.ntmps116
  go_wp2_with (have _t := O1; clear _t; go_at_call 177; refine (rm9_any a _).mono ?_; rintro e w2 ⟨rfl, hu⟩; rw [H0.out]; have O2 := Lib.hid (O1.out.step hu); have ca := cells_of O2.out.a; have cb := cells_of O2.out.b; clear hu O1)
  go_ret
  exact ⟨rfl, O2.out.u⟩

set_option maxRecDepth 100000 in
set_option maxHeartbeats 1000000 in
theorem op9_1_0_0 (a b : Opd) (w : World) (h0 : rmB a = true) (h1 : isRegB b = true) : Calls Try.prog 116 #[.int .i64 11, a.arg, b.arg] w fun e w' => e = .returned (.bool true) ∧ Upd [] w w' := by
  have O1 := Lib.hid (O9.start w a b)
  have H0 := Lib.hid h0
  have H1 := Lib.hid h1
  clear h0 h1
  unfold Opd.arg
  go_enter Try.func116, Try.ntmps116
  go_wp2_with (first | (have _t := O1; clear _t; go_at_call 177; refine (rm9_any a _).mono ?_; rintro e w2 ⟨rfl, hu⟩; rw [H0.out]; have O2 := Lib.hid (O1.out.step hu); have ca := cells_of O2.out.a; have cb := cells_of O2.out.b; clear hu O1) | (have _t := O2; clear _t; go_at_call 178; refine (isReg9_any b _).mono ?_; rintro e w3 ⟨rfl, hu⟩; rw [H1.out]; have O3 := Lib.hid (O2.out.step hu); clear ca cb; have ca := cells_of O3.out.a; have cb := cells_of O3.out.b; clear hu O2))
  go_ret
  exact ⟨rfl, O3.out.u⟩

set_option maxRecDepth 100000 in
set_option maxHeartbeats 1000000 in
theorem op9_1_0_1 (a b : Opd) (w : World) (h0 : rmB a = true) (h1 : isRegB b = false) (h2 : isImmB b = true) : Calls Try.prog 116 #[.int .i64 11, a.arg, b.arg] w fun e w' => e = .returned (.bool true) ∧ Upd [] w w' := by
  have O1 := Lib.hid (O9.start w a b)
  have H0 := Lib.hid h0
  have H1 := Lib.hid h1
  have H2 := Lib.hid h2
  clear h0 h1 h2
  unfold Opd.arg
  go_enter Try.func116, Try.ntmps116
  go_wp2_with (first | (have _t := O1; clear _t; go_at_call 177; refine (rm9_any a _).mono ?_; rintro e w2 ⟨rfl, hu⟩; rw [H0.out]; have O2 := Lib.hid (O1.out.step hu); have ca := cells_of O2.out.a; have cb := cells_of O2.out.b; clear hu O1) | (have _t := O2; clear _t; go_at_call 178; refine (isReg9_any b _).mono ?_; rintro e w3 ⟨rfl, hu⟩; rw [H1.out]; have O3 := Lib.hid (O2.out.step hu); clear ca cb; have ca := cells_of O3.out.a; have cb := cells_of O3.out.b; clear hu O2) | (have _t := O3; clear _t; go_at_call 179; refine (isImm9_any b _).mono ?_; rintro e w4 ⟨rfl, hu⟩; rw [H2.out]; have O4 := Lib.hid (O3.out.step hu); clear ca cb; have ca := cells_of O4.out.a; have cb := cells_of O4.out.b; clear hu O3))
  go_ret
  exact ⟨rfl, O4.out.u⟩

set_option maxRecDepth 100000 in
set_option maxHeartbeats 1000000 in
theorem op9_1_0_2 (a b : Opd) (w : World) (h0 : rmB a = true) (h1 : isRegB b = false) (h2 : isImmB b = false) : Calls Try.prog 116 #[.int .i64 11, a.arg, b.arg] w fun e w' => e = .returned (.bool false) ∧ Upd [] w w' := by
  have O1 := Lib.hid (O9.start w a b)
  have H0 := Lib.hid h0
  have H1 := Lib.hid h1
  have H2 := Lib.hid h2
  clear h0 h1 h2
  unfold Opd.arg
  go_enter Try.func116, Try.ntmps116
  go_wp2_with (first | (have _t := O1; clear _t; go_at_call 177; refine (rm9_any a _).mono ?_; rintro e w2 ⟨rfl, hu⟩; rw [H0.out]; have O2 := Lib.hid (O1.out.step hu); have ca := cells_of O2.out.a; have cb := cells_of O2.out.b; clear hu O1) | (have _t := O2; clear _t; go_at_call 178; refine (isReg9_any b _).mono ?_; rintro e w3 ⟨rfl, hu⟩; rw [H1.out]; have O3 := Lib.hid (O2.out.step hu); clear ca cb; have ca := cells_of O3.out.a; have cb := cells_of O3.out.b; clear hu O2) | (have _t := O3; clear _t; go_at_call 179; refine (isImm9_any b _).mono ?_; rintro e w4 ⟨rfl, hu⟩; rw [H2.out]; have O4 := Lib.hid (O3.out.step hu); clear ca cb; have ca := cells_of O4.out.a; have cb := cells_of O4.out.b; clear hu O3))
  go_ret
  exact ⟨rfl, O4.out.u⟩

set_option maxRecDepth 100000 in
set_option maxHeartbeats 1000000 in
theorem op9_1_0_3 (a b : Opd) (w : World) (h0 : rmB a = false) : Calls Try.prog 116 #[.int .i64 11, a.arg, b.arg] w fun e w' => e = .returned (.bool false) ∧ Upd [] w w' := by
  have O1 := Lib.hid (O9.start w a b)
  have H0 := Lib.hid h0
  clear h0
  unfold Opd.arg
  go_enter Try.func116, Try.ntmps116
  go_wp2_with (have _t := O1; clear _t; go_at_call 177; refine (rm9_any a _).mono ?_; rintro e w2 ⟨rfl, hu⟩; rw [H0.out]; have O2 := Lib.hid (O1.out.step hu); have ca := cells_of O2.out.a; have cb := cells_of O2.out.b; clear hu O1)
  go_ret
  exact ⟨rfl, O2.out.u⟩

set_option maxRecDepth 100000 in
set_option maxHeartbeats 1000000 in
theorem op9_2_0_0 (a b : Opd) (w : World) (h0 : rmB a = true) (h1 : isRegB b = true) : Calls Try.prog 116 #[.int .i64 2, a.arg, b.arg] w fun e w' => e = .returned (.bool true) ∧ Upd [] w w' := by
  have O1 := Lib.hid (O9.start w a b)
  have H0 := Lib.hid h0
  have H1 := Lib.hid h1
  clear h0 h1
  unfold Opd.arg
  go_enter Try.func116, Try.ntmps116
  go_wp2_with (first | (have _t := O1; clear _t; go_at_call 177; refine (rm9_any a _).mono ?_; rintro e w2 ⟨rfl, hu⟩; rw [H0.out]; have O2 := Lib.hid (O1.out.step hu); have ca := cells_of O2.out.a; have cb := cells_of O2.out.b; clear hu O1) | (have _t := O2; clear _t; go_at_call 178; refine (isReg9_any b _).mono ?_; rintro e w3 ⟨rfl, hu⟩; rw [H1.out]; have O3 := Lib.hid (O2.out.step hu); clear ca cb; have ca := cells_of O3.out.a; have cb := cells_of O3.out.b; clear hu O2))
  go_ret
  exact ⟨rfl, O3.out.u⟩

set_option maxRecDepth 100000 in
set_option maxHeartbeats 1000000 in
theorem op9_2_0_1 (a b : Opd) (w : World) (h0 : rmB a = true) (h1 : isRegB b = false) (h2 : byteImmB b = true) : Calls Try.prog 116 #[.int .i64 2, a.arg, b.arg] w fun e w' => e = .returned (.bool true) ∧ Upd [] w w' := by
  have O1 := Lib.hid (O9.start w a b)
  have H0 := Lib.hid h0
  have H1 := Lib.hid h1
  have H2 := Lib.hid h2
  clear h0 h1 h2
  unfold Opd.arg
  go_enter Try.func116, Try.ntmps116
  go_wp2_with (first | (have _t := O1; clear _t; go_at_call 177; refine (rm9_any a _).mono ?_; rintro e w2 ⟨rfl, hu⟩; rw [H0.out]; have O2 := Lib.hid (O1.out.step hu); have ca := cells_of O2.out.a; have cb := cells_of O2.out.b; clear hu O1) | (have _t := O2; clear _t; go_at_call 178; refine (isReg9_any b _).mono ?_; rintro e w3 ⟨rfl, hu⟩; rw [H1.out]; have O3 := Lib.hid (O2.out.step hu); clear ca cb; have ca := cells_of O3.out.a; have cb := cells_of O3.out.b; clear hu O2) | (have _t := O3; clear _t; go_at_call 181; refine (byteImm9_any b _).mono ?_; rintro e w4 ⟨rfl, hu⟩; rw [H2.out]; have O4 := Lib.hid (O3.out.step hu); clear ca cb; have ca := cells_of O4.out.a; have cb := cells_of O4.out.b; clear hu O3))
  go_ret
  exact ⟨rfl, O4.out.u⟩

set_option maxRecDepth 100000 in
set_option maxHeartbeats 1000000 in
theorem op9_2_0_2 (a b : Opd) (w : World) (h0 : rmB a = true) (h1 : isRegB b = false) (h2 : byteImmB b = false) (h3 : isRegB a = true) (h4 : isMemB b = true) : Calls Try.prog 116 #[.int .i64 2, a.arg, b.arg] w fun e w' => e = .returned (.bool true) ∧ Upd [] w w' := by
  have O1 := Lib.hid (O9.start w a b)
  have H0 := Lib.hid h0
  have H1 := Lib.hid h1
  have H2 := Lib.hid h2
  have H3 := Lib.hid h3
  have H4 := Lib.hid h4
  clear h0 h1 h2 h3 h4
  unfold Opd.arg
  go_enter Try.func116, Try.ntmps116
  go_wp2_with (first | (have _t := O1; clear _t; go_at_call 177; refine (rm9_any a _).mono ?_; rintro e w2 ⟨rfl, hu⟩; rw [H0.out]; have O2 := Lib.hid (O1.out.step hu); have ca := cells_of O2.out.a; have cb := cells_of O2.out.b; clear hu O1) | (have _t := O2; clear _t; go_at_call 178; refine (isReg9_any b _).mono ?_; rintro e w3 ⟨rfl, hu⟩; rw [H1.out]; have O3 := Lib.hid (O2.out.step hu); clear ca cb; have ca := cells_of O3.out.a; have cb := cells_of O3.out.b; clear hu O2) | (have _t := O3; clear _t; go_at_call 181; refine (byteImm9_any b _).mono ?_; rintro e w4 ⟨rfl, hu⟩; rw [H2.out]; have O4 := Lib.hid (O3.out.step hu); clear ca cb; have ca := cells_of O4.out.a; have cb := cells_of O4.out.b; clear hu O3) | (have _t := O4; clear _t; go_at_call 178; refine (isReg9_any a _).mono ?_; rintro e w5 ⟨rfl, hu⟩; rw [H3.out]; have O5 := Lib.hid (O4.out.step hu); clear ca cb; have ca := cells_of O5.out.a; have cb := cells_of O5.out.b; clear hu O4) | (have _t := O5; clear _t; go_at_call 180; refine (isMem9_any b _).mono ?_; rintro e w6 ⟨rfl, hu⟩; rw [H4.out]; have O6 := Lib.hid (O5.out.step hu); clear ca cb; have ca := cells_of O6.out.a; have cb := cells_of O6.out.b; clear hu O5))
  go_ret
  exact ⟨rfl, O6.out.u⟩

set_option maxRecDepth 100000 in
set_option maxHeartbeats 1000000 in
theorem op9_2_0_3 (a b : Opd) (w : World) (h0 : rmB a = true) (h1 : isRegB b = false) (h2 : byteImmB b = false) (h3 : isRegB a = true) (h4 : isMemB b = false) : Calls Try.prog 116 #[.int .i64 2, a.arg, b.arg] w fun e w' => e = .returned (.bool false) ∧ Upd [] w w' := by
  have O1 := Lib.hid (O9.start w a b)
  have H0 := Lib.hid h0
  have H1 := Lib.hid h1
  have H2 := Lib.hid h2
  have H3 := Lib.hid h3
  have H4 := Lib.hid h4
  clear h0 h1 h2 h3 h4
  unfold Opd.arg
  go_enter Try.func116, Try.ntmps116
  go_wp2_with (first | (have _t := O1; clear _t; go_at_call 177; refine (rm9_any a _).mono ?_; rintro e w2 ⟨rfl, hu⟩; rw [H0.out]; have O2 := Lib.hid (O1.out.step hu); have ca := cells_of O2.out.a; have cb := cells_of O2.out.b; clear hu O1) | (have _t := O2; clear _t; go_at_call 178; refine (isReg9_any b _).mono ?_; rintro e w3 ⟨rfl, hu⟩; rw [H1.out]; have O3 := Lib.hid (O2.out.step hu); clear ca cb; have ca := cells_of O3.out.a; have cb := cells_of O3.out.b; clear hu O2) | (have _t := O3; clear _t; go_at_call 181; refine (byteImm9_any b _).mono ?_; rintro e w4 ⟨rfl, hu⟩; rw [H2.out]; have O4 := Lib.hid (O3.out.step hu); clear ca cb; have ca := cells_of O4.out.a; have cb := cells_of O4.out.b; clear hu O3) | (have _t := O4; clear _t; go_at_call 178; refine (isReg9_any a _).mono ?_; rintro e w5 ⟨rfl, hu⟩; rw [H3.out]; have O5 := Lib.hid (O4.out.step hu); clear ca cb; have ca := cells_of O5.out.a; have cb := cells_of O5.out.b; clear hu O4) | (have _t := O5; clear _t; go_at_call 180; refine (isMem9_any b _).mono ?_; rintro e w6 ⟨rfl, hu⟩; rw [H4.out]; have O6 := Lib.hid (O5.out.step hu); clear ca cb; have ca := cells_of O6.out.a; have cb := cells_of O6.out.b; clear hu O5))
  go_ret
  exact ⟨rfl, O6.out.u⟩

set_option maxRecDepth 100000 in
set_option maxHeartbeats 1000000 in
theorem op9_2_0_4 (a b : Opd) (w : World) (h0 : rmB a = true) (h1 : isRegB b = false) (h2 : byteImmB b = false) (h3 : isRegB a = false) : Calls Try.prog 116 #[.int .i64 2, a.arg, b.arg] w fun e w' => e = .returned (.bool false) ∧ Upd [] w w' := by
  have O1 := Lib.hid (O9.start w a b)
  have H0 := Lib.hid h0
  have H1 := Lib.hid h1
  have H2 := Lib.hid h2
  have H3 := Lib.hid h3
  clear h0 h1 h2 h3
  unfold Opd.arg
  go_enter Try.func116, Try.ntmps116
  go_wp2_with (first | (have _t := O1; clear _t; go_at_call 177; refine (rm9_any a _).mono ?_; rintro e w2 ⟨rfl, hu⟩; rw [H0.out]; have O2 := Lib.hid (O1.out.step hu); have ca := cells_of O2.out.a; have cb := cells_of O2.out.b; clear hu O1) | (have _t := O2; clear _t; go_at_call 178; refine (isReg9_any b _).mono ?_; rintro e w3 ⟨rfl, hu⟩; rw [H1.out]; have O3 := Lib.hid (O2.out.step hu); clear ca cb; have ca := cells_of O3.out.a; have cb := cells_of O3.out.b; clear hu O2) | (have _t := O3; clear _t; go_at_call 181; refine (byteImm9_any b _).mono ?_; rintro e w4 ⟨rfl, hu⟩; rw [H2.out]; have O4 := Lib.hid (O3.out.step hu); clear ca cb; have ca := cells_of O4.out.a; have cb := cells_of O4.out.b; clear hu O3) | (have _t := O4; clear _t; go_at_call 178; refine (isReg9_any a _).mono ?_; rintro e w5 ⟨rfl, hu⟩; rw [H3.out]; have O5 := Lib.hid (O4.out.step hu); clear ca cb; have ca := cells_of O5.out.a; have cb := cells_of O5.out.b; clear hu O4))
  go_ret
  exact ⟨rfl, O5.out.u⟩

set_option maxRecDepth 100000 in
set_option maxHeartbeats 1000000 in
theorem op9_2_0_5 (a b : Opd) (w : World) (h0 : rmB a = false) : Calls Try.prog 116 #[.int .i64 2, a.arg, b.arg] w fun e w' => e = .returned (.bool false) ∧ Upd [] w w' := by
  have O1 := Lib.hid (O9.start w a b)
  have H0 := Lib.hid h0
  clear h0
  unfold Opd.arg
  go_enter Try.func116, Try.ntmps116
  go_wp2_with (have _t := O1; clear _t; go_at_call 177; refine (rm9_any a _).mono ?_; rintro e w2 ⟨rfl, hu⟩; rw [H0.out]; have O2 := Lib.hid (O1.out.step hu); have ca := cells_of O2.out.a; have cb := cells_of O2.out.b; clear hu O1)
  go_ret
  exact ⟨rfl, O2.out.u⟩

set_option maxRecDepth 100000 in
set_option maxHeartbeats 1000000 in
theorem op9_3_0_0 (a b : Opd) (w : World) (h0 : rmB a = true) (h1 : isRegB b = true) : Calls Try.prog 116 #[.int .i64 27, a.arg, b.arg] w fun e w' => e = .returned (.bool true) ∧ Upd [] w w' := by
  have O1 := Lib.hid (O9.start w a b)
  have H0 := Lib.hid h0
  have H1 := Lib.hid h1
  clear h0 h1
  unfold Opd.arg
  go_enter Try.func116, Try.ntmps116
  go_wp2_with (first | (have _t := O1; clear _t; go_at_call 177; refine (rm9_any a _).mono ?_; rintro e w2 ⟨rfl, hu⟩; rw [H0.out]; have O2 := Lib.hid (O1.out.step hu); have ca := cells_of O2.out.a; have cb := cells_of O2.out.b; clear hu O1) | (have _t := O2; clear _t; go_at_call 178; refine (isReg9_any b _).mono ?_; rintro e w3 ⟨rfl, hu⟩; rw [H1.out]; have O3 := Lib.hid (O2.out.step hu); clear ca cb; have ca := cells_of O3.out.a; have cb := cells_of O3.out.b; clear hu O2))
  go_ret
  exact ⟨rfl, O3.out.u⟩

set_option maxRecDepth 100000 in
set_option maxHeartbeats 1000000 in
theorem op9_3_0_1 (a b : Opd) (w : World) (h0 : rmB a = true) (h1 : isRegB b = false) : Calls Try.prog 116 #[.int .i64 27, a.arg, b.arg] w fun e w' => e = .returned (.bool false) ∧ Upd [] w w' := by
  have O1 := Lib.hid (O9.start w a b)
  have H0 := Lib.hid h0
  have H1 := Lib.hid h1
  clear h0 h1
  unfold Opd.arg
  go_enter Try.func116, Try.ntmps116
  go_wp2_with (first | (have _t := O1; clear _t; go_at_call 177; refine (rm9_any a _).mono ?_; rintro e w2 ⟨rfl, hu⟩; rw [H0.out]; have O2 := Lib.hid (O1.out.step hu); have ca := cells_of O2.out.a; have cb := cells_of O2.out.b; clear hu O1) | (have _t := O2; clear _t; go_at_call 178; refine (isReg9_any b _).mono ?_; rintro e w3 ⟨rfl, hu⟩; rw [H1.out]; have O3 := Lib.hid (O2.out.step hu); clear ca cb; have ca := cells_of O3.out.a; have cb := cells_of O3.out.b; clear hu O2))
  go_ret
  exact ⟨rfl, O3.out.u⟩

set_option maxRecDepth 100000 in
set_option maxHeartbeats 1000000 in
theorem op9_3_0_2 (a b : Opd) (w : World) (h0 : rmB a = false) : Calls Try.prog 116 #[.int .i64 27, a.arg, b.arg] w fun e w' => e = .returned (.bool false) ∧ Upd [] w w' := by
  have O1 := Lib.hid (O9.start w a b)
  have H0 := Lib.hid h0
  clear h0
  unfold Opd.arg
  go_enter Try.func116, Try.ntmps116
  go_wp2_with (have _t := O1; clear _t; go_at_call 177; refine (rm9_any a _).mono ?_; rintro e w2 ⟨rfl, hu⟩; rw [H0.out]; have O2 := Lib.hid (O1.out.step hu); have ca := cells_of O2.out.a; have cb := cells_of O2.out.b; clear hu O1)
  go_ret
  exact ⟨rfl, O2.out.u⟩

set_option maxRecDepth 100000 in
set_option maxHeartbeats 1000000 in
theorem op9_4_0_0 (a b : Opd) (w : World) (op : Int) (hlo : 12 ≤ op) (hhi : op ≤ 17) (h0 : rmB a = true) (h1 : noneB b = true) : Calls Try.prog 116 #[.int .i64 op, a.arg, b.arg] w fun e w' => e = .returned (.bool true) ∧ Upd [] w w' := by
  have e1 : (op == 1) = false := by rw [beq_eq_false_iff_ne]; omega
  have e11 : (op == 11) = false := by rw [beq_eq_false_iff_ne]; omega
  have e2 : (op == 2) = false := by rw [beq_eq_false_iff_ne]; omega
  have e27 : (op == 27) = false := by rw [beq_eq_false_iff_ne]; omega
  have l3 : decide (3 ≤ op) = true := by simp; omega
  have g3 : decide (op ≤ 10) = false := by simp; omega
  have l12 : decide (12 ≤ op) = true := by simp; omega
  have g12 : decide (op ≤ 17) = true := by simp; omega
  have O1 := Lib.hid (O9.start w a b)
  have H0 := Lib.hid h0
  have H1 := Lib.hid h1
  clear hlo hhi h0 h1
  unfold Opd.arg
  go_enter Try.func116, Try.ntmps116
  go_wp2_with (first | (have _t := O1; clear _t; go_at_call 177; refine (rm9_any a _).mono ?_; rintro e w2 ⟨rfl, hu⟩; rw [H0.out]; have O2 := Lib.hid (O1.out.step hu); have ca := cells_of O2.out.a; have cb := cells_of O2.out.b; clear hu O1) | (have _t := O2; clear _t; go_at_call 182; refine (none9_any b _).mono ?_; rintro e w3 ⟨rfl, hu⟩; rw [H1.out]; have O3 := Lib.hid (O2.out.step hu); clear ca cb; have ca := cells_of O3.out.a; have cb := cells_of O3.out.b; clear hu O2))
  go_ret
  exact ⟨rfl, O3.out.u⟩

set_option maxRecDepth 100000 in
set_option maxHeartbeats 1000000 in
theorem op9_4_0_1 (a b : Opd) (w : World) (op : Int) (hlo : 12 ≤ op) (hhi : op ≤ 17) (h0 : rmB a = true) (h1 : noneB b = false) : Calls Try.prog 116 #[.int .i64 op, a.arg, b.arg] w fun e w' => e = .returned (.bool false) ∧ Upd [] w w' := by
  have e1 : (op == 1) = false := by rw [beq_eq_false_iff_ne]; omega
  have e11 : (op == 11) = false := by rw [beq_eq_false_iff_ne]; omega
  have e2 : (op == 2) = false := by rw [beq_eq_false_iff_ne]; omega
  have e27 : (op == 27) = false := by rw [beq_eq_false_iff_ne]; omega
  have l3 : decide (3 ≤ op) = true := by simp; omega
  have g3 : decide (op ≤ 10) = false := by simp; omega
  have l12 : decide (12 ≤ op) = true := by simp; omega
  have g12 : decide (op ≤ 17) = true := by simp; omega
  have O1 := Lib.hid (O9.start w a b)
  have H0 := Lib.hid h0
  have H1 := Lib.hid h1
  clear hlo hhi h0 h1
  unfold Opd.arg
  go_enter Try.func116, Try.ntmps116
  go_wp2_with (first | (have _t := O1; clear _t; go_at_call 177; refine (rm9_any a _).mono ?_; rintro e w2 ⟨rfl, hu⟩; rw [H0.out]; have O2 := Lib.hid (O1.out.step hu); have ca := cells_of O2.out.a; have cb := cells_of O2.out.b; clear hu O1) | (have _t := O2; clear _t; go_at_call 182; refine (none9_any b _).mono ?_; rintro e w3 ⟨rfl, hu⟩; rw [H1.out]; have O3 := Lib.hid (O2.out.step hu); clear ca cb; have ca := cells_of O3.out.a; have cb := cells_of O3.out.b; clear hu O2))
  go_ret
  exact ⟨rfl, O3.out.u⟩

set_option maxRecDepth 100000 in
set_option maxHeartbeats 1000000 in
theorem op9_4_0_2 (a b : Opd) (w : World) (op : Int) (hlo : 12 ≤ op) (hhi : op ≤ 17) (h0 : rmB a = false) : Calls Try.prog 116 #[.int .i64 op, a.arg, b.arg] w fun e w' => e = .returned (.bool false) ∧ Upd [] w w' := by
  have e1 : (op == 1) = false := by rw [beq_eq_false_iff_ne]; omega
  have e11 : (op == 11) = false := by rw [beq_eq_false_iff_ne]; omega
  have e2 : (op == 2) = false := by rw [beq_eq_false_iff_ne]; omega
  have e27 : (op == 27) = false := by rw [beq_eq_false_iff_ne]; omega
  have l3 : decide (3 ≤ op) = true := by simp; omega
  have g3 : decide (op ≤ 10) = false := by simp; omega
  have l12 : decide (12 ≤ op) = true := by simp; omega
  have g12 : decide (op ≤ 17) = true := by simp; omega
  have O1 := Lib.hid (O9.start w a b)
  have H0 := Lib.hid h0
  clear hlo hhi h0
  unfold Opd.arg
  go_enter Try.func116, Try.ntmps116
  go_wp2_with (have _t := O1; clear _t; go_at_call 177; refine (rm9_any a _).mono ?_; rintro e w2 ⟨rfl, hu⟩; rw [H0.out]; have O2 := Lib.hid (O1.out.step hu); have ca := cells_of O2.out.a; have cb := cells_of O2.out.b; clear hu O1)
  go_ret
  exact ⟨rfl, O2.out.u⟩

set_option maxRecDepth 100000 in
set_option maxHeartbeats 1000000 in
theorem op9_4_1_0 (a b : Opd) (w : World) (h0 : rmB a = true) (h1 : noneB b = true) : Calls Try.prog 116 #[.int .i64 19, a.arg, b.arg] w fun e w' => e = .returned (.bool true) ∧ Upd [] w w' := by
  have O1 := Lib.hid (O9.start w a b)
  have H0 := Lib.hid h0
  have H1 := Lib.hid h1
  clear h0 h1
  unfold Opd.arg
  go_enter Try.func116, Try.ntmps116
  go_wp2_with (first | (have _t := O1; clear _t; go_at_call 177; refine (rm9_any a _).mono ?_; rintro e w2 ⟨rfl, hu⟩; rw [H0.out]; have O2 := Lib.hid (O1.out.step hu); have ca := cells_of O2.out.a; have cb := cells_of O2.out.b; clear hu O1) | (have _t := O2; clear _t; go_at_call 182; refine (none9_any b _).mono ?_; rintro e w3 ⟨rfl, hu⟩; rw [H1.out]; have O3 := Lib.hid (O2.out.step hu); clear ca cb; have ca := cells_of O3.out.a; have cb := cells_of O3.out.b; clear hu O2))
  go_ret
  exact ⟨rfl, O3.out.u⟩

set_option maxRecDepth 100000 in
set_option maxHeartbeats 1000000 in
theorem op9_4_1_1 (a b : Opd) (w : World) (h0 : rmB a = true) (h1 : noneB b = false) : Calls Try.prog 116 #[.int .i64 19, a.arg, b.arg] w fun e w' => e = .returned (.bool false) ∧ Upd [] w w' := by
  have O1 := Lib.hid (O9.start w a b)
  have H0 := Lib.hid h0
  have H1 := Lib.hid h1
  clear h0 h1
  unfold Opd.arg
  go_enter Try.func116, Try.ntmps116
  go_wp2_with (first | (have _t := O1; clear _t; go_at_call 177; refine (rm9_any a _).mono ?_; rintro e w2 ⟨rfl, hu⟩; rw [H0.out]; have O2 := Lib.hid (O1.out.step hu); have ca := cells_of O2.out.a; have cb := cells_of O2.out.b; clear hu O1) | (have _t := O2; clear _t; go_at_call 182; refine (none9_any b _).mono ?_; rintro e w3 ⟨rfl, hu⟩; rw [H1.out]; have O3 := Lib.hid (O2.out.step hu); clear ca cb; have ca := cells_of O3.out.a; have cb := cells_of O3.out.b; clear hu O2))
  go_ret
  exact ⟨rfl, O3.out.u⟩

set_option maxRecDepth 100000 in
set_option maxHeartbeats 1000000 in
theorem op9_4_1_2 (a b : Opd) (w : World) (h0 : rmB a = false) : Calls Try.prog 116 #[.int .i64 19, a.arg, b.arg] w fun e w' => e = .returned (.bool false) ∧ Upd [] w w' := by
  have O1 := Lib.hid (O9.start w a b)
  have H0 := Lib.hid h0
  clear h0
  unfold Opd.arg
  go_enter Try.func116, Try.ntmps116
  go_wp2_with (have _t := O1; clear _t; go_at_call 177; refine (rm9_any a _).mono ?_; rintro e w2 ⟨rfl, hu⟩; rw [H0.out]; have O2 := Lib.hid (O1.out.step hu); have ca := cells_of O2.out.a; have cb := cells_of O2.out.b; clear hu O1)
  go_ret
  exact ⟨rfl, O2.out.u⟩

set_option maxRecDepth 100000 in
set_option maxHeartbeats 1000000 in
theorem op9_4_2_0 (a b : Opd) (w : World) (h0 : rmB a = true) (h1 : noneB b = true) : Calls Try.prog 116 #[.int .i64 20, a.arg, b.arg] w fun e w' => e = .returned (.bool true) ∧ Upd [] w w' := by
  have O1 := Lib.hid (O9.start w a b)
  have H0 := Lib.hid h0
  have H1 := Lib.hid h1
  clear h0 h1
  unfold Opd.arg
  go_enter Try.func116, Try.ntmps116
  go_wp2_with (first | (have _t := O1; clear _t; go_at_call 177; refine (rm9_any a _).mono ?_; rintro e w2 ⟨rfl, hu⟩; rw [H0.out]; have O2 := Lib.hid (O1.out.step hu); have ca := cells_of O2.out.a; have cb := cells_of O2.out.b; clear hu O1) | (have _t := O2; clear _t; go_at_call 182; refine (none9_any b _).mono ?_; rintro e w3 ⟨rfl, hu⟩; rw [H1.out]; have O3 := Lib.hid (O2.out.step hu); clear ca cb; have ca := cells_of O3.out.a; have cb := cells_of O3.out.b; clear hu O2))
  go_ret
  exact ⟨rfl, O3.out.u⟩

set_option maxRecDepth 100000 in
set_option maxHeartbeats 1000000 in
theorem op9_4_2_1 (a b : Opd) (w : World) (h0 : rmB a = true) (h1 : noneB b = false) : Calls Try.prog 116 #[.int .i64 20, a.arg, b.arg] w fun e w' => e = .returned (.bool false) ∧ Upd [] w w' := by
  have O1 := Lib.hid (O9.start w a b)
  have H0 := Lib.hid h0
  have H1 := Lib.hid h1
  clear h0 h1
  unfold Opd.arg
  go_enter Try.func116, Try.ntmps116
  go_wp2_with (first | (have _t := O1; clear _t; go_at_call 177; refine (rm9_any a _).mono ?_; rintro e w2 ⟨rfl, hu⟩; rw [H0.out]; have O2 := Lib.hid (O1.out.step hu); have ca := cells_of O2.out.a; have cb := cells_of O2.out.b; clear hu O1) | (have _t := O2; clear _t; go_at_call 182; refine (none9_any b _).mono ?_; rintro e w3 ⟨rfl, hu⟩; rw [H1.out]; have O3 := Lib.hid (O2.out.step hu); clear ca cb; have ca := cells_of O3.out.a; have cb := cells_of O3.out.b; clear hu O2))
  go_ret
  exact ⟨rfl, O3.out.u⟩

set_option maxRecDepth 100000 in
set_option maxHeartbeats 1000000 in
theorem op9_4_2_2 (a b : Opd) (w : World) (h0 : rmB a = false) : Calls Try.prog 116 #[.int .i64 20, a.arg, b.arg] w fun e w' => e = .returned (.bool false) ∧ Upd [] w w' := by
  have O1 := Lib.hid (O9.start w a b)
  have H0 := Lib.hid h0
  clear h0
  unfold Opd.arg
  go_enter Try.func116, Try.ntmps116
  go_wp2_with (have _t := O1; clear _t; go_at_call 177; refine (rm9_any a _).mono ?_; rintro e w2 ⟨rfl, hu⟩; rw [H0.out]; have O2 := Lib.hid (O1.out.step hu); have ca := cells_of O2.out.a; have cb := cells_of O2.out.b; clear hu O1)
  go_ret
  exact ⟨rfl, O2.out.u⟩

set_option maxRecDepth 100000 in
set_option maxHeartbeats 1000000 in
theorem op9_4_3_0 (a b : Opd) (w : World) (h0 : rmB a = true) (h1 : noneB b = true) : Calls Try.prog 116 #[.int .i64 34, a.arg, b.arg] w fun e w' => e = .returned (.bool true) ∧ Upd [] w w' := by
  have O1 := Lib.hid (O9.start w a b)
  have H0 := Lib.hid h0
  have H1 := Lib.hid h1
  clear h0 h1
  unfold Opd.arg
  go_enter Try.func116, Try.ntmps116
  go_wp2_with (first | (have _t := O1; clear _t; go_at_call 177; refine (rm9_any a _).mono ?_; rintro e w2 ⟨rfl, hu⟩; rw [H0.out]; have O2 := Lib.hid (O1.out.step hu); have ca := cells_of O2.out.a; have cb := cells_of O2.out.b; clear hu O1) | (have _t := O2; clear _t; go_at_call 182; refine (none9_any b _).mono ?_; rintro e w3 ⟨rfl, hu⟩; rw [H1.out]; have O3 := Lib.hid (O2.out.step hu); clear ca cb; have ca := cells_of O3.out.a; have cb := cells_of O3.out.b; clear hu O2))
  go_ret
  exact ⟨rfl, O3.out.u⟩

set_option maxRecDepth 100000 in
set_option maxHeartbeats 1000000 in
theorem op9_4_3_1 (a b : Opd) (w : World) (h0 : rmB a = true) (h1 : noneB b = false) : Calls Try.prog 116 #[.int .i64 34, a.arg, b.arg] w fun e w' => e = .returned (.bool false) ∧ Upd [] w w' := by
  have O1 := Lib.hid (O9.start w a b)
  have H0 := Lib.hid h0
  have H1 := Lib.hid h1
  clear h0 h1
  unfold Opd.arg
  go_enter Try.func116, Try.ntmps116
  go_wp2_with (first | (have _t := O1; clear _t; go_at_call 177; refine (rm9_any a _).mono ?_; rintro e w2 ⟨rfl, hu⟩; rw [H0.out]; have O2 := Lib.hid (O1.out.step hu); have ca := cells_of O2.out.a; have cb := cells_of O2.out.b; clear hu O1) | (have _t := O2; clear _t; go_at_call 182; refine (none9_any b _).mono ?_; rintro e w3 ⟨rfl, hu⟩; rw [H1.out]; have O3 := Lib.hid (O2.out.step hu); clear ca cb; have ca := cells_of O3.out.a; have cb := cells_of O3.out.b; clear hu O2))
  go_ret
  exact ⟨rfl, O3.out.u⟩

set_option maxRecDepth 100000 in
set_option maxHeartbeats 1000000 in
theorem op9_4_3_2 (a b : Opd) (w : World) (h0 : rmB a = false) : Calls Try.prog 116 #[.int .i64 34, a.arg, b.arg] w fun e w' => e = .returned (.bool false) ∧ Upd [] w w' := by
  have O1 := Lib.hid (O9.start w a b)
  have H0 := Lib.hid h0
  clear h0
  unfold Opd.arg
  go_enter Try.func116, Try.ntmps116
  go_wp2_with (have _t := O1; clear _t; go_at_call 177; refine (rm9_any a _).mono ?_; rintro e w2 ⟨rfl, hu⟩; rw [H0.out]; have O2 := Lib.hid (O1.out.step hu); have ca := cells_of O2.out.a; have cb := cells_of O2.out.b; clear hu O1)
  go_ret
  exact ⟨rfl, O2.out.u⟩

set_option maxRecDepth 100000 in
set_option maxHeartbeats 1000000 in
theorem op9_5_0_0 (a b : Opd) (w : World) (h0 : isRegB a = true) (h1 : rmB b = true) : Calls Try.prog 116 #[.int .i64 18, a.arg, b.arg] w fun e w' => e = .returned (.bool true) ∧ Upd [] w w' := by
  have O1 := Lib.hid (O9.start w a b)
  have H0 := Lib.hid h0
  have H1 := Lib.hid h1
  clear h0 h1
  unfold Opd.arg
  go_enter Try.func116, Try.ntmps116
  go_wp2_with (first | (have _t := O1; clear _t; go_at_call 178; refine (isReg9_any a _).mono ?_; rintro e w2 ⟨rfl, hu⟩; rw [H0.out]; have O2 := Lib.hid (O1.out.step hu); have ca := cells_of O2.out.a; have cb := cells_of O2.out.b; clear hu O1) | (have _t := O2; clear _t; go_at_call 177; refine (rm9_any b _).mono ?_; rintro e w3 ⟨rfl, hu⟩; rw [H1.out]; have O3 := Lib.hid (O2.out.step hu); clear ca cb; have ca := cells_of O3.out.a; have cb := cells_of O3.out.b; clear hu O2))
  go_ret
  exact ⟨rfl, O3.out.u⟩

set_option maxRecDepth 100000 in
set_option maxHeartbeats 1000000 in
theorem op9_5_0_1 (a b : Opd) (w : World) (h0 : isRegB a = true) (h1 : rmB b = false) : Calls Try.prog 116 #[.int .i64 18, a.arg, b.arg] w fun e w' => e = .returned (.bool false) ∧ Upd [] w w' := by
  have O1 := Lib.hid (O9.start w a b)
  have H0 := Lib.hid h0
  have H1 := Lib.hid h1
  clear h0 h1
  unfold Opd.arg
  go_enter Try.func116, Try.ntmps116
  go_wp2_with (first | (have _t := O1; clear _t; go_at_call 178; refine (isReg9_any a _).mono ?_; rintro e w2 ⟨rfl, hu⟩; rw [H0.out]; have O2 := Lib.hid (O1.out.step hu); have ca := cells_of O2.out.a; have cb := cells_of O2.out.b; clear hu O1) | (have _t := O2; clear _t; go_at_call 177; refine (rm9_any b _).mono ?_; rintro e w3 ⟨rfl, hu⟩; rw [H1.out]; have O3 := Lib.hid (O2.out.step hu); clear ca cb; have ca := cells_of O3.out.a; have cb := cells_of O3.out.b; clear hu O2))
  go_ret
  exact ⟨rfl, O3.out.u⟩

set_option maxRecDepth 100000 in
set_option maxHeartbeats 1000000 in
theorem op9_5_0_2 (a b : Opd) (w : World) (h0 : isRegB a = false) : Calls Try.prog 116 #[.int .i64 18, a.arg, b.arg] w fun e w' => e = .returned (.bool false) ∧ Upd [] w w' := by
  have O1 := Lib.hid (O9.start w a b)
  have H0 := Lib.hid h0
  clear h0
  unfold Opd.arg
  go_enter Try.func116, Try.ntmps116
  go_wp2_with (have _t := O1; clear _t; go_at_call 178; refine (isReg9_any a _).mono ?_; rintro e w2 ⟨rfl, hu⟩; rw [H0.out]; have O2 := Lib.hid (O1.out.step hu); have ca := cells_of O2.out.a; have cb := cells_of O2.out.b; clear hu O1)
  go_ret
  exact ⟨rfl, O2.out.u⟩

set_option maxRecDepth 100000 in
set_option maxHeartbeats 1000000 in
theorem op9_5_1_0 (a b : Opd) (w : World) (h0 : isRegB a = true) (h1 : rmB b = true) : Calls Try.prog 116 #[.int .i64 35, a.arg, b.arg] w fun e w' => e = .returned (.bool true) ∧ Upd [] w w' := by
  have O1 := Lib.hid (O9.start w a b)
  have H0 := Lib.hid h0
  have H1 := Lib.hid h1
  clear h0 h1
  unfold Opd.arg
  go_enter Try.func116, Try.ntmps116
  go_wp2_with (first | (have _t := O1; clear _t; go_at_call 178; refine (isReg9_any a _).mono ?_; rintro e w2 ⟨rfl, hu⟩; rw [H0.out]; have O2 := Lib.hid (O1.out.step hu); have ca := cells_of O2.out.a; have cb := cells_of O2.out.b; clear hu O1) | (have _t := O2; clear _t; go_at_call 177; refine (rm9_any b _).mono ?_; rintro e w3 ⟨rfl, hu⟩; rw [H1.out]; have O3 := Lib.hid (O2.out.step hu); clear ca cb; have ca := cells_of O3.out.a; have cb := cells_of O3.out.b; clear hu O2))
  go_ret
  exact ⟨rfl, O3.out.u⟩

set_option maxRecDepth 100000 in
set_option maxHeartbeats 1000000 in
theorem op9_5_1_1 (a b : Opd) (w : World) (h0 : isRegB a = true) (h1 : rmB b = false) : Calls Try.prog 116 #[.int .i64 35, a.arg, b.arg] w fun e w' => e = .returned (.bool false) ∧ Upd [] w w' := by
  have O1 := Lib.hid (O9.start w a b)
  have H0 := Lib.hid h0
  have H1 := Lib.hid h1
  clear h0 h1
  unfold Opd.arg
  go_enter Try.func116, Try.ntmps116
  go_wp2_with (first | (have _t := O1; clear _t; go_at_call 178; refine (isReg9_any a _).mono ?_; rintro e w2 ⟨rfl, hu⟩; rw [H0.out]; have O2 := Lib.hid (O1.out.step hu); have ca := cells_of O2.out.a; have cb := cells_of O2.out.b; clear hu O1) | (have _t := O2; clear _t; go_at_call 177; refine (rm9_any b _).mono ?_; rintro e w3 ⟨rfl, hu⟩; rw [H1.out]; have O3 := Lib.hid (O2.out.step hu); clear ca cb; have ca := cells_of O3.out.a; have cb := cells_of O3.out.b; clear hu O2))
  go_ret
  exact ⟨rfl, O3.out.u⟩

set_option maxRecDepth 100000 in
set_option maxHeartbeats 1000000 in
theorem op9_5_1_2 (a b : Opd) (w : World) (h0 : isRegB a = false) : Calls Try.prog 116 #[.int .i64 35, a.arg, b.arg] w fun e w' => e = .returned (.bool false) ∧ Upd [] w w' := by
  have O1 := Lib.hid (O9.start w a b)
  have H0 := Lib.hid h0
  clear h0
  unfold Opd.arg
  go_enter Try.func116, Try.ntmps116
  go_wp2_with (have _t := O1; clear _t; go_at_call 178; refine (isReg9_any a _).mono ?_; rintro e w2 ⟨rfl, hu⟩; rw [H0.out]; have O2 := Lib.hid (O1.out.step hu); have ca := cells_of O2.out.a; have cb := cells_of O2.out.b; clear hu O1)
  go_ret
  exact ⟨rfl, O2.out.u⟩

set_option maxRecDepth 100000 in
set_option maxHeartbeats 1000000 in
theorem op9_5_2_0 (a b : Opd) (w : World) (h0 : isRegB a = true) (h1 : rmB b = true) : Calls Try.prog 116 #[.int .i64 36, a.arg, b.arg] w fun e w' => e = .returned (.bool true) ∧ Upd [] w w' := by
  have O1 := Lib.hid (O9.start w a b)
  have H0 := Lib.hid h0
  have H1 := Lib.hid h1
  clear h0 h1
  unfold Opd.arg
  go_enter Try.func116, Try.ntmps116
  go_wp2_with (first | (have _t := O1; clear _t; go_at_call 178; refine (isReg9_any a _).mono ?_; rintro e w2 ⟨rfl, hu⟩; rw [H0.out]; have O2 := Lib.hid (O1.out.step hu); have ca := cells_of O2.out.a; have cb := cells_of O2.out.b; clear hu O1) | (have _t := O2; clear _t; go_at_call 177; refine (rm9_any b _).mono ?_; rintro e w3 ⟨rfl, hu⟩; rw [H1.out]; have O3 := Lib.hid (O2.out.step hu); clear ca cb; have ca := cells_of O3.out.a; have cb := cells_of O3.out.b; clear hu O2))
  go_ret
  exact ⟨rfl, O3.out.u⟩

set_option maxRecDepth 100000 in
set_option maxHeartbeats 1000000 in
theorem op9_5_2_1 (a b : Opd) (w : World) (h0 : isRegB a = true) (h1 : rmB b = false) : Calls Try.prog 116 #[.int .i64 36, a.arg, b.arg] w fun e w' => e = .returned (.bool false) ∧ Upd [] w w' := by
  have O1 := Lib.hid (O9.start w a b)
  have H0 := Lib.hid h0
  have H1 := Lib.hid h1
  clear h0 h1
  unfold Opd.arg
  go_enter Try.func116, Try.ntmps116
  go_wp2_with (first | (have _t := O1; clear _t; go_at_call 178; refine (isReg9_any a _).mono ?_; rintro e w2 ⟨rfl, hu⟩; rw [H0.out]; have O2 := Lib.hid (O1.out.step hu); have ca := cells_of O2.out.a; have cb := cells_of O2.out.b; clear hu O1) | (have _t := O2; clear _t; go_at_call 177; refine (rm9_any b _).mono ?_; rintro e w3 ⟨rfl, hu⟩; rw [H1.out]; have O3 := Lib.hid (O2.out.step hu); clear ca cb; have ca := cells_of O3.out.a; have cb := cells_of O3.out.b; clear hu O2))
  go_ret
  exact ⟨rfl, O3.out.u⟩

set_option maxRecDepth 100000 in
set_option maxHeartbeats 1000000 in
theorem op9_5_2_2 (a b : Opd) (w : World) (h0 : isRegB a = false) : Calls Try.prog 116 #[.int .i64 36, a.arg, b.arg] w fun e w' => e = .returned (.bool false) ∧ Upd [] w w' := by
  have O1 := Lib.hid (O9.start w a b)
  have H0 := Lib.hid h0
  clear h0
  unfold Opd.arg
  go_enter Try.func116, Try.ntmps116
  go_wp2_with (have _t := O1; clear _t; go_at_call 178; refine (isReg9_any a _).mono ?_; rintro e w2 ⟨rfl, hu⟩; rw [H0.out]; have O2 := Lib.hid (O1.out.step hu); have ca := cells_of O2.out.a; have cb := cells_of O2.out.b; clear hu O1)
  go_ret
  exact ⟨rfl, O2.out.u⟩

set_option maxRecDepth 100000 in
set_option maxHeartbeats 1000000 in
theorem op9_5_3_0 (a b : Opd) (w : World) (h0 : isRegB a = true) (h1 : rmB b = true) : Calls Try.prog 116 #[.int .i64 37, a.arg, b.arg] w fun e w' => e = .returned (.bool true) ∧ Upd [] w w' := by
  have O1 := Lib.hid (O9.start w a b)
  have H0 := Lib.hid h0
  have H1 := Lib.hid h1
  clear h0 h1
  unfold Opd.arg
  go_enter Try.func116, Try.ntmps116
  go_wp2_with (first | (have _t := O1; clear _t; go_at_call 178; refine (isReg9_any a _).mono ?_; rintro e w2 ⟨rfl, hu⟩; rw [H0.out]; have O2 := Lib.hid (O1.out.step hu); have ca := cells_of O2.out.a; have cb := cells_of O2.out.b; clear hu O1) | (have _t := O2; clear _t; go_at_call 177; refine (rm9_any b _).mono ?_; rintro e w3 ⟨rfl, hu⟩; rw [H1.out]; have O3 := Lib.hid (O2.out.step hu); clear ca cb; have ca := cells_of O3.out.a; have cb := cells_of O3.out.b; clear hu O2))
  go_ret
  exact ⟨rfl, O3.out.u⟩

set_option maxRecDepth 100000 in
set_option maxHeartbeats 1000000 in
theorem op9_5_3_1 (a b : Opd) (w : World) (h0 : isRegB a = true) (h1 : rmB b = false) : Calls Try.prog 116 #[.int .i64 37, a.arg, b.arg] w fun e w' => e = .returned (.bool false) ∧ Upd [] w w' := by
  have O1 := Lib.hid (O9.start w a b)
  have H0 := Lib.hid h0
  have H1 := Lib.hid h1
  clear h0 h1
  unfold Opd.arg
  go_enter Try.func116, Try.ntmps116
  go_wp2_with (first | (have _t := O1; clear _t; go_at_call 178; refine (isReg9_any a _).mono ?_; rintro e w2 ⟨rfl, hu⟩; rw [H0.out]; have O2 := Lib.hid (O1.out.step hu); have ca := cells_of O2.out.a; have cb := cells_of O2.out.b; clear hu O1) | (have _t := O2; clear _t; go_at_call 177; refine (rm9_any b _).mono ?_; rintro e w3 ⟨rfl, hu⟩; rw [H1.out]; have O3 := Lib.hid (O2.out.step hu); clear ca cb; have ca := cells_of O3.out.a; have cb := cells_of O3.out.b; clear hu O2))
  go_ret
  exact ⟨rfl, O3.out.u⟩

set_option maxRecDepth 100000 in
set_option maxHeartbeats 1000000 in
theorem op9_5_3_2 (a b : Opd) (w : World) (h0 : isRegB a = false) : Calls Try.prog 116 #[.int .i64 37, a.arg, b.arg] w fun e w' => e = .returned (.bool false) ∧ Upd [] w w' := by
  have O1 := Lib.hid (O9.start w a b)
  have H0 := Lib.hid h0
  clear h0
  unfold Opd.arg
  go_enter Try.func116, Try.ntmps116
  go_wp2_with (have _t := O1; clear _t; go_at_call 178; refine (isReg9_any a _).mono ?_; rintro e w2 ⟨rfl, hu⟩; rw [H0.out]; have O2 := Lib.hid (O1.out.step hu); have ca := cells_of O2.out.a; have cb := cells_of O2.out.b; clear hu O1)
  go_ret
  exact ⟨rfl, O2.out.u⟩

set_option maxRecDepth 100000 in
set_option maxHeartbeats 1000000 in
theorem op9_6_0_0 (a b : Opd) (w : World) (op : Int) (hlo : 21 ≤ op) (hhi : op ≤ 25) (h0 : rmB a = true) (h1 : byteImmB b = true) : Calls Try.prog 116 #[.int .i64 op, a.arg, b.arg] w fun e w' => e = .returned (.bool true) ∧ Upd [] w w' := by
  have e1 : (op == 1) = false := by rw [beq_eq_false_iff_ne]; omega
  have e11 : (op == 11) = false := by rw [beq_eq_false_iff_ne]; omega
  have e2 : (op == 2) = false := by rw [beq_eq_false_iff_ne]; omega
  have e27 : (op == 27) = false := by rw [beq_eq_false_iff_ne]; omega
  have e19 : (op == 19) = false := by rw [beq_eq_false_iff_ne]; omega
  have e20 : (op == 20) = false := by rw [beq_eq_false_iff_ne]; omega
  have e34 : (op == 34) = false := by rw [beq_eq_false_iff_ne]; omega
  have e18 : (op == 18) = false := by rw [beq_eq_false_iff_ne]; omega
  have e35 : (op == 35) = false := by rw [beq_eq_false_iff_ne]; omega
  have e36 : (op == 36) = false := by rw [beq_eq_false_iff_ne]; omega
  have e37 : (op == 37) = false := by rw [beq_eq_false_iff_ne]; omega
  have l3 : decide (3 ≤ op) = true := by simp; omega
  have g3 : decide (op ≤ 10) = false := by simp; omega
  have l12 : decide (12 ≤ op) = true := by simp; omega
  have g12 : decide (op ≤ 17) = false := by simp; omega
  have l21 : decide (21 ≤ op) = true := by simp; omega
  have g21 : decide (op ≤ 25) = true := by simp; omega
  have O1 := Lib.hid (O9.start w a b)
  have H0 := Lib.hid h0
  have H1 := Lib.hid h1
  clear hlo hhi h0 h1
  unfold Opd.arg
  go_enter Try.func116, Try.ntmps116
  go_wp2_with (first | (have _t := O1; clear _t; go_at_call 177; refine (rm9_any a _).mono ?_; rintro e w2 ⟨rfl, hu⟩; rw [H0.out]; have O2 := Lib.hid (O1.out.step hu); have ca := cells_of O2.out.a; have cb := cells_of O2.out.b; clear hu O1) | (have _t := O2; clear _t; go_at_call 181; refine (byteImm9_any b _).mono ?_; rintro e w3 ⟨rfl, hu⟩; rw [H1.out]; have O3 := Lib.hid (O2.out.step hu); clear ca cb; have ca := cells_of O3.out.a; have cb := cells_of O3.out.b; clear hu O2))
  go_ret
  exact ⟨rfl, O3.out.u⟩

set_option maxRecDepth 100000 in
set_option maxHeartbeats 1000000 in
theorem op9_6_0_1 (a b : Opd) (w : World) (op : Int) (hlo : 21 ≤ op) (hhi : op ≤ 25) (h0 : rmB a = true) (h1 : byteImmB b = false) (h2 : isRegB b = true) (h3 : (b.r == 1) = true) : Calls Try.prog 116 #[.int .i64 op, a.arg, b.arg] w fun e w' => e = .returned (.bool true) ∧ Upd [] w w' := by
  have e1 : (op == 1) = false := by rw [beq_eq_false_iff_ne]; omega
  have e11 : (op == 11) = false := by rw [beq_eq_false_iff_ne]; omega
  have e2 : (op == 2) = false := by rw [beq_eq_false_iff_ne]; omega
  have e27 : (op == 27) = false := by rw [beq_eq_false_iff_ne]; omega
  have e19 : (op == 19) = false := by rw [beq_eq_false_iff_ne]; omega
  have e20 : (op == 20) = false := by rw [beq_eq_false_iff_ne]; omega
  have e34 : (op == 34) = false := by rw [beq_eq_false_iff_ne]; omega
  have e18 : (op == 18) = false := by rw [beq_eq_false_iff_ne]; omega
  have e35 : (op == 35) = false := by rw [beq_eq_false_iff_ne]; omega
  have e36 : (op == 36) = false := by rw [beq_eq_false_iff_ne]; omega
  have e37 : (op == 37) = false := by rw [beq_eq_false_iff_ne]; omega
  have l3 : decide (3 ≤ op) = true := by simp; omega
  have g3 : decide (op ≤ 10) = false := by simp; omega
  have l12 : decide (12 ≤ op) = true := by simp; omega
  have g12 : decide (op ≤ 17) = false := by simp; omega
  have l21 : decide (21 ≤ op) = true := by simp; omega
  have g21 : decide (op ≤ 25) = true := by simp; omega
  have O1 := Lib.hid (O9.start w a b)
  have H0 := Lib.hid h0
  have H1 := Lib.hid h1
  have H2 := Lib.hid h2
  clear hlo hhi h0 h1 h2
  unfold Opd.arg
  go_enter Try.func116, Try.ntmps116
  go_wp2_with (first | (have _t := O1; clear _t; go_at_call 177; refine (rm9_any a _).mono ?_; rintro e w2 ⟨rfl, hu⟩; rw [H0.out]; have O2 := Lib.hid (O1.out.step hu); have ca := cells_of O2.out.a; have cb := cells_of O2.out.b; clear hu O1) | (have _t := O2; clear _t; go_at_call 181; refine (byteImm9_any b _).mono ?_; rintro e w3 ⟨rfl, hu⟩; rw [H1.out]; have O3 := Lib.hid (O2.out.step hu); clear ca cb; have ca := cells_of O3.out.a; have cb := cells_of O3.out.b; clear hu O2) | (have _t := O3; clear _t; go_at_call 178; refine (isReg9_any b _).mono ?_; rintro e w4 ⟨rfl, hu⟩; rw [H2.out]; have O4 := Lib.hid (O3.out.step hu); clear ca cb; have ca := cells_of O4.out.a; have cb := cells_of O4.out.b; clear hu O3))
  go_ret
  exact ⟨rfl, O4.out.u⟩

set_option maxRecDepth 100000 in
set_option maxHeartbeats 1000000 in
theorem op9_6_0_2 (a b : Opd) (w : World) (op : Int) (hlo : 21 ≤ op) (hhi : op ≤ 25) (h0 : rmB a = true) (h1 : byteImmB b = false) (h2 : isRegB b = true) (h3 : (b.r == 1) = false) : Calls Try.prog 116 #[.int .i64 op, a.arg, b.arg] w fun e w' => e = .returned (.bool false) ∧ Upd [] w w' := by
  have e1 : (op == 1) = false := by rw [beq_eq_false_iff_ne]; omega
  have e11 : (op == 11) = false := by rw [beq_eq_false_iff_ne]; omega
  have e2 : (op == 2) = false := by rw [beq_eq_false_iff_ne]; omega
  have e27 : (op == 27) = false := by rw [beq_eq_false_iff_ne]; omega
  have e19 : (op == 19) = false := by rw [beq_eq_false_iff_ne]; omega
  have e20 : (op == 20) = false := by rw [beq_eq_false_iff_ne]; omega
  have e34 : (op == 34) = false := by rw [beq_eq_false_iff_ne]; omega
  have e18 : (op == 18) = false := by rw [beq_eq_false_iff_ne]; omega
  have e35 : (op == 35) = false := by rw [beq_eq_false_iff_ne]; omega
  have e36 : (op == 36) = false := by rw [beq_eq_false_iff_ne]; omega
  have e37 : (op == 37) = false := by rw [beq_eq_false_iff_ne]; omega
  have l3 : decide (3 ≤ op) = true := by simp; omega
  have g3 : decide (op ≤ 10) = false := by simp; omega
  have l12 : decide (12 ≤ op) = true := by simp; omega
  have g12 : decide (op ≤ 17) = false := by simp; omega
  have l21 : decide (21 ≤ op) = true := by simp; omega
  have g21 : decide (op ≤ 25) = true := by simp; omega
  have O1 := Lib.hid (O9.start w a b)
  have H0 := Lib.hid h0
  have H1 := Lib.hid h1
  have H2 := Lib.hid h2
  clear hlo hhi h0 h1 h2
  unfold Opd.arg
  go_enter Try.func116, Try.ntmps116
  go_wp2_with (first | (have _t := O1; clear _t; go_at_call 177; refine (rm9_any a _).mono ?_; rintro e w2 ⟨rfl, hu⟩; rw [H0.out]; have O2 := Lib.hid (O1.out.step hu); have ca := cells_of O2.out.a; have cb := cells_of O2.out.b; clear hu O1) | (have _t := O2; clear _t; go_at_call 181; refine (byteImm9_any b _).mono ?_; rintro e w3 ⟨rfl, hu⟩; rw [H1.out]; have O3 := Lib.hid (O2.out.step hu); clear ca cb; have ca := cells_of O3.out.a; have cb := cells_of O3.out.b; clear hu O2) | (have _t := O3; clear _t; go_at_call 178; refine (isReg9_any b _).mono ?_; rintro e w4 ⟨rfl, hu⟩; rw [H2.out]; have O4 := Lib.hid (O3.out.step hu); clear ca cb; have ca := cells_of O4.out.a; have cb := cells_of O4.out.b; clear hu O3))
  go_ret
  exact ⟨rfl, O4.out.u⟩

set_option maxRecDepth 100000 in
set_option maxHeartbeats 1000000 in
theorem op9_6_0_3 (a b : Opd) (w : World) (op : Int) (hlo : 21 ≤ op) (hhi : op ≤ 25) (h0 : rmB a = true) (h1 : byteImmB b = false) (h2 : isRegB b = false) : Calls Try.prog 116 #[.int .i64 op, a.arg, b.arg] w fun e w' => e = .returned (.bool false) ∧ Upd [] w w' := by
  have e1 : (op == 1) = false := by rw [beq_eq_false_iff_ne]; omega
  have e11 : (op == 11) = false := by rw [beq_eq_false_iff_ne]; omega
  have e2 : (op == 2) = false := by rw [beq_eq_false_iff_ne]; omega
  have e27 : (op == 27) = false := by rw [beq_eq_false_iff_ne]; omega
  have e19 : (op == 19) = false := by rw [beq_eq_false_iff_ne]; omega
  have e20 : (op == 20) = false := by rw [beq_eq_false_iff_ne]; omega
  have e34 : (op == 34) = false := by rw [beq_eq_false_iff_ne]; omega
  have e18 : (op == 18) = false := by rw [beq_eq_false_iff_ne]; omega
  have e35 : (op == 35) = false := by rw [beq_eq_false_iff_ne]; omega
  have e36 : (op == 36) = false := by rw [beq_eq_false_iff_ne]; omega
  have e37 : (op == 37) = false := by rw [beq_eq_false_iff_ne]; omega
  have l3 : decide (3 ≤ op) = true := by simp; omega
  have g3 : decide (op ≤ 10) = false := by simp; omega
  have l12 : decide (12 ≤ op) = true := by simp; omega
  have g12 : decide (op ≤ 17) = false := by simp; omega
  have l21 : decide (21 ≤ op) = true := by simp; omega
  have g21 : decide (op ≤ 25) = true := by simp; omega
  have O1 := Lib.hid (O9.start w a b)
  have H0 := Lib.hid h0
  have H1 := Lib.hid h1
  have H2 := Lib.hid h2
  clear hlo hhi h0 h1 h2
  unfold Opd.arg
  go_enter Try.func116, Try.ntmps116
  go_wp2_with (first | (have _t := O1; clear _t; go_at_call 177; refine (rm9_any a _).mono ?_; rintro e w2 ⟨rfl, hu⟩; rw [H0.out]; have O2 := Lib.hid (O1.out.step hu); have ca := cells_of O2.out.a; have cb := cells_of O2.out.b; clear hu O1) | (have _t := O2; clear _t; go_at_call 181; refine (byteImm9_any b _).mono ?_; rintro e w3 ⟨rfl, hu⟩; rw [H1.out]; have O3 := Lib.hid (O2.out.step hu); clear ca cb; have ca := cells_of O3.out.a; have cb := cells_of O3.out.b; clear hu O2) | (have _t := O3; clear _t; go_at_call 178; refine (isReg9_any b _).mono ?_; rintro e w4 ⟨rfl, hu⟩; rw [H2.out]; have O4 := Lib.hid (O3.out.step hu); clear ca cb; have ca := cells_of O4.out.a; have cb := cells_of O4.out.b; clear hu O3))
  go_ret
  exact ⟨rfl, O4.out.u⟩

set_option maxRecDepth 100000 in
set_option maxHeartbeats 1000000 in
theorem op9_6_0_4 (a b : Opd) (w : World) (op : Int) (hlo : 21 ≤ op) (hhi : op ≤ 25) (h0 : rmB a = false) : Calls Try.prog 116 #[.int .i64 op, a.arg, b.arg] w fun e w' => e = .returned (.bool false) ∧ Upd [] w w' := by
  have e1 : (op == 1) = false := by rw [beq_eq_false_iff_ne]; omega
  have e11 : (op == 11) = false := by rw [beq_eq_false_iff_ne]; omega
  have e2 : (op == 2) = false := by rw [beq_eq_false_iff_ne]; omega
  have e27 : (op == 27) = false := by rw [beq_eq_false_iff_ne]; omega
  have e19 : (op == 19) = false := by rw [beq_eq_false_iff_ne]; omega
  have e20 : (op == 20) = false := by rw [beq_eq_false_iff_ne]; omega
  have e34 : (op == 34) = false := by rw [beq_eq_false_iff_ne]; omega
  have e18 : (op == 18) = false := by rw [beq_eq_false_iff_ne]; omega
  have e35 : (op == 35) = false := by rw [beq_eq_false_iff_ne]; omega
  have e36 : (op == 36) = false := by rw [beq_eq_false_iff_ne]; omega
  have e37 : (op == 37) = false := by rw [beq_eq_false_iff_ne]; omega
  have l3 : decide (3 ≤ op) = true := by simp; omega
  have g3 : decide (op ≤ 10) = false := by simp; omega
  have l12 : decide (12 ≤ op) = true := by simp; omega
  have g12 : decide (op ≤ 17) = false := by simp; omega
  have l21 : decide (21 ≤ op) = true := by simp; omega
  have g21 : decide (op ≤ 25) = true := by simp; omega
  have O1 := Lib.hid (O9.start w a b)
  have H0 := Lib.hid h0
  clear hlo hhi h0
  unfold Opd.arg
  go_enter Try.func116, Try.ntmps116
  go_wp2_with (have _t := O1; clear _t; go_at_call 177; refine (rm9_any a _).mono ?_; rintro e w2 ⟨rfl, hu⟩; rw [H0.out]; have O2 := Lib.hid (O1.out.step hu); have ca := cells_of O2.out.a; have cb := cells_of O2.out.b; clear hu O1)
  go_ret
  exact ⟨rfl, O2.out.u⟩

set_option maxRecDepth 100000 in
set_option maxHeartbeats 1000000 in
theorem op9_7_0_0 (a b : Opd) (w : World) (h0 : isRegB a = true) (h1 : isMemB b = true) : Calls Try.prog 116 #[.int .i64 26, a.arg, b.arg] w fun e w' => e = .returned (.bool true) ∧ Upd [] w w' := by
  have O1 := Lib.hid (O9.start w a b)
  have H0 := Lib.hid h0
  have H1 := Lib.hid h1
  clear h0 h1
  unfold Opd.arg
  go_enter Try.func116, Try.ntmps116
  go_wp2_with (first | (have _t := O1; clear _t; go_at_call 178; refine (isReg9_any a _).mono ?_; rintro e w2 ⟨rfl, hu⟩; rw [H0.out]; have O2 := Lib.hid (O1.out.step hu); have ca := cells_of O2.out.a; have cb := cells_of O2.out.b; clear hu O1) | (have _t := O2; clear _t; go_at_call 180; refine (isMem9_any b _).mono ?_; rintro e w3 ⟨rfl, hu⟩; rw [H1.out]; have O3 := Lib.hid (O2.out.step hu); clear ca cb; have ca := cells_of O3.out.a; have cb := cells_of O3.out.b; clear hu O2))
  go_ret
  exact ⟨rfl, O3.out.u⟩

set_option maxRecDepth 100000 in
set_option maxHeartbeats 1000000 in
theorem op9_7_0_1 (a b : Opd) (w : World) (h0 : isRegB a = true) (h1 : isMemB b = false) : Calls Try.prog 116 #[.int .i64 26, a.arg, b.arg] w fun e w' => e = .returned (.bool false) ∧ Upd [] w w' := by
  have O1 := Lib.hid (O9.start w a b)
  have H0 := Lib.hid h0
  have H1 := Lib.hid h1
  clear h0 h1
  unfold Opd.arg
  go_enter Try.func116, Try.ntmps116
  go_wp2_with (first | (have _t := O1; clear _t; go_at_call 178; refine (isReg9_any a _).mono ?_; rintro e w2 ⟨rfl, hu⟩; rw [H0.out]; have O2 := Lib.hid (O1.out.step hu); have ca := cells_of O2.out.a; have cb := cells_of O2.out.b; clear hu O1) | (have _t := O2; clear _t; go_at_call 180; refine (isMem9_any b _).mono ?_; rintro e w3 ⟨rfl, hu⟩; rw [H1.out]; have O3 := Lib.hid (O2.out.step hu); clear ca cb; have ca := cells_of O3.out.a; have cb := cells_of O3.out.b; clear hu O2))
  go_ret
  exact ⟨rfl, O3.out.u⟩

set_option maxRecDepth 100000 in
set_option maxHeartbeats 1000000 in
theorem op9_7_0_2 (a b : Opd) (w : World) (h0 : isRegB a = false) : Calls Try.prog 116 #[.int .i64 26, a.arg, b.arg] w fun e w' => e = .returned (.bool false) ∧ Upd [] w w' := by
  have O1 := Lib.hid (O9.start w a b)
  have H0 := Lib.hid h0
  clear h0
  unfold Opd.arg
  go_enter Try.func116, Try.ntmps116
  go_wp2_with (have _t := O1; clear _t; go_at_call 178; refine (isReg9_any a _).mono ?_; rintro e w2 ⟨rfl, hu⟩; rw [H0.out]; have O2 := Lib.hid (O1.out.step hu); have ca := cells_of O2.out.a; have cb := cells_of O2.out.b; clear hu O1)
  go_ret
  exact ⟨rfl, O2.out.u⟩

set_option maxRecDepth 100000 in
set_option maxHeartbeats 1000000 in
theorem op9_8_0_0 (a b : Opd) (w : World) (h0 : rmB a = true) (h1 : noneB b = true) : Calls Try.prog 116 #[.int .i64 28, a.arg, b.arg] w fun e w' => e = .returned (.bool true) ∧ Upd [] w w' := by
  have O1 := Lib.hid (O9.start w a b)
  have H0 := Lib.hid h0
  have H1 := Lib.hid h1
  clear h0 h1
  unfold Opd.arg
  go_enter Try.func116, Try.ntmps116
  go_wp2_with (first | (have _t := O1; clear _t; go_at_call 177; refine (rm9_any a _).mono ?_; rintro e w2 ⟨rfl, hu⟩; rw [H0.out]; have O2 := Lib.hid (O1.out.step hu); have ca := cells_of O2.out.a; have cb := cells_of O2.out.b; clear hu O1) | (have _t := O2; clear _t; go_at_call 182; refine (none9_any b _).mono ?_; rintro e w3 ⟨rfl, hu⟩; rw [H1.out]; have O3 := Lib.hid (O2.out.step hu); clear ca cb; have ca := cells_of O3.out.a; have cb := cells_of O3.out.b; clear hu O2))
  go_ret
  exact ⟨rfl, O3.out.u⟩

set_option maxRecDepth 100000 in
set_option maxHeartbeats 1000000 in
theorem op9_8_0_1 (a b : Opd) (w : World) (h0 : rmB a = true) (h1 : noneB b = false) : Calls Try.prog 116 #[.int .i64 28, a.arg, b.arg] w fun e w' => e = .returned (.bool false) ∧ Upd [] w w' := by
  have O1 := Lib.hid (O9.start w a b)
  have H0 := Lib.hid h0
  have H1 := Lib.hid h1
  clear h0 h1
  unfold Opd.arg
  go_enter Try.func116, Try.ntmps116
  go_wp2_with (first | (have _t := O1; clear _t; go_at_call 177; refine (rm9_any a _).mono ?_; rintro e w2 ⟨rfl, hu⟩; rw [H0.out]; have O2 := Lib.hid (O1.out.step hu); have ca := cells_of O2.out.a; have cb := cells_of O2.out.b; clear hu O1) | (have _t := O2; clear _t; go_at_call 182; refine (none9_any b _).mono ?_; rintro e w3 ⟨rfl, hu⟩; rw [H1.out]; have O3 := Lib.hid (O2.out.step hu); clear ca cb; have ca := cells_of O3.out.a; have cb := cells_of O3.out.b; clear hu O2))
  go_ret
  exact ⟨rfl, O3.out.u⟩

set_option maxRecDepth 100000 in
set_option maxHeartbeats 1000000 in
theorem op9_8_0_2 (a b : Opd) (w : World) (h0 : rmB a = false) (h1 : isImmB a = true) (h2 : noneB b = true) : Calls Try.prog 116 #[.int .i64 28, a.arg, b.arg] w fun e w' => e = .returned (.bool true) ∧ Upd [] w w' := by
  have O1 := Lib.hid (O9.start w a b)
  have H0 := Lib.hid h0
  have H1 := Lib.hid h1
  have H2 := Lib.hid h2
  clear h0 h1 h2
  unfold Opd.arg
  go_enter Try.func116, Try.ntmps116
  go_wp2_with (first | (have _t := O1; clear _t; go_at_call 177; refine (rm9_any a _).mono ?_; rintro e w2 ⟨rfl, hu⟩; rw [H0.out]; have O2 := Lib.hid (O1.out.step hu); have ca := cells_of O2.out.a; have cb := cells_of O2.out.b; clear hu O1) | (have _t := O2; clear _t; go_at_call 179; refine (isImm9_any a _).mono ?_; rintro e w3 ⟨rfl, hu⟩; rw [H1.out]; have O3 := Lib.hid (O2.out.step hu); clear ca cb; have ca := cells_of O3.out.a; have cb := cells_of O3.out.b; clear hu O2) | (have _t := O3; clear _t; go_at_call 182; refine (none9_any b _).mono ?_; rintro e w4 ⟨rfl, hu⟩; rw [H2.out]; have O4 := Lib.hid (O3.out.step hu); clear ca cb; have ca := cells_of O4.out.a; have cb := cells_of O4.out.b; clear hu O3))
  go_ret
  exact ⟨rfl, O4.out.u⟩

set_option maxRecDepth 100000 in
set_option maxHeartbeats 1000000 in
theorem op9_8_0_3 (a b : Opd) (w : World) (h0 : rmB a = false) (h1 : isImmB a = true) (h2 : noneB b = false) : Calls Try.prog 116 #[.int .i64 28, a.arg, b.arg] w fun e w' => e = .returned (.bool false) ∧ Upd [] w w' := by
  have O1 := Lib.hid (O9.start w a b)
  have H0 := Lib.hid h0
  have H1 := Lib.hid h1
  have H2 := Lib.hid h2
  clear h0 h1 h2
  unfold Opd.arg
  go_enter Try.func116, Try.ntmps116
  go_wp2_with (first | (have _t := O1; clear _t; go_at_call 177; refine (rm9_any a _).mono ?_; rintro e w2 ⟨rfl, hu⟩; rw [H0.out]; have O2 := Lib.hid (O1.out.step hu); have ca := cells_of O2.out.a; have cb := cells_of O2.out.b; clear hu O1) | (have _t := O2; clear _t; go_at_call 179; refine (isImm9_any a _).mono ?_; rintro e w3 ⟨rfl, hu⟩; rw [H1.out]; have O3 := Lib.hid (O2.out.step hu); clear ca cb; have ca := cells_of O3.out.a; have cb := cells_of O3.out.b; clear hu O2) | (have _t := O3; clear _t; go_at_call 182; refine (none9_any b _).mono ?_; rintro e w4 ⟨rfl, hu⟩; rw [H2.out]; have O4 := Lib.hid (O3.out.step hu); clear ca cb; have ca := cells_of O4.out.a; have cb := cells_of O4.out.b; clear hu O3))
  go_ret
  exact ⟨rfl, O4.out.u⟩

set_option maxRecDepth 100000 in
set_option maxHeartbeats 1000000 in
theorem op9_8_0_4 (a b : Opd) (w : World) (h0 : rmB a = false) (h1 : isImmB a = false) : Calls Try.prog 116 #[.int .i64 28, a.arg, b.arg] w fun e w' => e = .returned (.bool false) ∧ Upd [] w w' := by
  have O1 := Lib.hid (O9.start w a b)
  have H0 := Lib.hid h0
  have H1 := Lib.hid h1
  clear h0 h1
  unfold Opd.arg
  go_enter Try.func116, Try.ntmps116
  go_wp2_with (first | (have _t := O1; clear _t; go_at_call 177; refine (rm9_any a _).mono ?_; rintro e w2 ⟨rfl, hu⟩; rw [H0.out]; have O2 := Lib.hid (O1.out.step hu); have ca := cells_of O2.out.a; have cb := cells_of O2.out.b; clear hu O1) | (have _t := O2; clear _t; go_at_call 179; refine (isImm9_any a _).mono ?_; rintro e w3 ⟨rfl, hu⟩; rw [H1.out]; have O3 := Lib.hid (O2.out.step hu); clear ca cb; have ca := cells_of O3.out.a; have cb := cells_of O3.out.b; clear hu O2))
  go_ret
  exact ⟨rfl, O3.out.u⟩

set_option maxRecDepth 100000 in
set_option maxHeartbeats 1000000 in
theorem op9_8_1_0 (a b : Opd) (w : World) (h0 : rmB a = true) (h1 : noneB b = true) : Calls Try.prog 116 #[.int .i64 30, a.arg, b.arg] w fun e w' => e = .returned (.bool true) ∧ Upd [] w w' := by
  have O1 := Lib.hid (O9.start w a b)
  have H0 := Lib.hid h0
  have H1 := Lib.hid h1
  clear h0 h1
  unfold Opd.arg
  go_enter Try.func116, Try.ntmps116
  go_wp2_with (first | (have _t := O1; clear _t; go_at_call 177; refine (rm9_any a _).mono ?_; rintro e w2 ⟨rfl, hu⟩; rw [H0.out]; have O2 := Lib.hid (O1.out.step hu); have ca := cells_of O2.out.a; have cb := cells_of O2.out.b; clear hu O1) | (have _t := O2; clear _t; go_at_call 182; refine (none9_any b _).mono ?_; rintro e w3 ⟨rfl, hu⟩; rw [H1.out]; have O3 := Lib.hid (O2.out.step hu); clear ca cb; have ca := cells_of O3.out.a; have cb := cells_of O3.out.b; clear hu O2))
  go_ret
  exact ⟨rfl, O3.out.u⟩

set_option maxRecDepth 100000 in
set_option maxHeartbeats 1000000 in
theorem op9_8_1_1 (a b : Opd) (w : World) (h0 : rmB a = true) (h1 : noneB b = false) : Calls Try.prog 116 #[.int .i64 30, a.arg, b.arg] w fun e w' => e = .returned (.bool false) ∧ Upd [] w w' := by
  have O1 := Lib.hid (O9.start w a b)
  have H0 := Lib.hid h0
  have H1 := Lib.hid h1
  clear h0 h1
  unfold Opd.arg
  go_enter Try.func116, Try.ntmps116
  go_wp2_with (first | (have _t := O1; clear _t; go_at_call 177; refine (rm9_any a _).mono ?_; rintro e w2 ⟨rfl, hu⟩; rw [H0.out]; have O2 := Lib.hid (O1.out.step hu); have ca := cells_of O2.out.a; have cb := cells_of O2.out.b; clear hu O1) | (have _t := O2; clear _t; go_at_call 182; refine (none9_any b _).mono ?_; rintro e w3 ⟨rfl, hu⟩; rw [H1.out]; have O3 := Lib.hid (O2.out.step hu); clear ca cb; have ca := cells_of O3.out.a; have cb := cells_of O3.out.b; clear hu O2))
  go_ret
  exact ⟨rfl, O3.out.u⟩

set_option maxRecDepth 100000 in
set_option maxHeartbeats 1000000 in
theorem op9_8_1_2 (a b : Opd) (w : World) (h0 : rmB a = false) (h1 : isImmB a = true) (h2 : noneB b = true) : Calls Try.prog 116 #[.int .i64 30, a.arg, b.arg] w fun e w' => e = .returned (.bool true) ∧ Upd [] w w' := by
  have O1 := Lib.hid (O9.start w a b)
  have H0 := Lib.hid h0
  have H1 := Lib.hid h1
  have H2 := Lib.hid h2
  clear h0 h1 h2
  unfold Opd.arg
  go_enter Try.func116, Try.ntmps116
  go_wp2_with (first | (have _t := O1; clear _t; go_at_call 177; refine (rm9_any a _).mono ?_; rintro e w2 ⟨rfl, hu⟩; rw [H0.out]; have O2 := Lib.hid (O1.out.step hu); have ca := cells_of O2.out.a; have cb := cells_of O2.out.b; clear hu O1) | (have _t := O2; clear _t; go_at_call 179; refine (isImm9_any a _).mono ?_; rintro e w3 ⟨rfl, hu⟩; rw [H1.out]; have O3 := Lib.hid (O2.out.step hu); clear ca cb; have ca := cells_of O3.out.a; have cb := cells_of O3.out.b; clear hu O2) | (have _t := O3; clear _t; go_at_call 182; refine (none9_any b _).mono ?_; rintro e w4 ⟨rfl, hu⟩; rw [H2.out]; have O4 := Lib.hid (O3.out.step hu); clear ca cb; have ca := cells_of O4.out.a; have cb := cells_of O4.out.b; clear hu O3))
  go_ret
  exact ⟨rfl, O4.out.u⟩

set_option maxRecDepth 100000 in
set_option maxHeartbeats 1000000 in
theorem op9_8_1_3 (a b : Opd) (w : World) (h0 : rmB a = false) (h1 : isImmB a = true) (h2 : noneB b = false) : Calls Try.prog 116 #[.int .i64 30, a.arg, b.arg] w fun e w' => e = .returned (.bool false) ∧ Upd [] w w' := by
  have O1 := Lib.hid (O9.start w a b)
  have H0 := Lib.hid h0
  have H1 := Lib.hid h1
  have H2 := Lib.hid h2
  clear h0 h1 h2
  unfold Opd.arg
  go_enter Try.func116, Try.ntmps116
  go_wp2_with (first | (have _t := O1; clear _t; go_at_call 177; refine (rm9_any a _).mono ?_; rintro e w2 ⟨rfl, hu⟩; rw [H0.out]; have O2 := Lib.hid (O1.out.step hu); have ca := cells_of O2.out.a; have cb := cells_of O2.out.b; clear hu O1) | (have _t := O2; clear _t; go_at_call 179; refine (isImm9_any a _).mono ?_; rintro e w3 ⟨rfl, hu⟩; rw [H1.out]; have O3 := Lib.hid (O2.out.step hu); clear ca cb; have ca := cells_of O3.out.a; have cb := cells_of O3.out.b; clear hu O2) | (have _t := O3; clear _t; go_at_call 182; refine (none9_any b _).mono ?_; rintro e w4 ⟨rfl, hu⟩; rw [H2.out]; have O4 := Lib.hid (O3.out.step hu); clear ca cb; have ca := cells_of O4.out.a; have cb := cells_of O4.out.b; clear hu O3))
  go_ret
  exact ⟨rfl, O4.out.u⟩

set_option maxRecDepth 100000 in
set_option maxHeartbeats 1000000 in
theorem op9_8_1_4 (a b : Opd) (w : World) (h0 : rmB a = false) (h1 : isImmB a = false) : Calls Try.prog 116 #[.int .i64 30, a.arg, b.arg] w fun e w' => e = .returned (.bool false) ∧ Upd [] w w' := by
  have O1 := Lib.hid (O9.start w a b)
  have H0 := Lib.hid h0
  have H1 := Lib.hid h1
  clear h0 h1
  unfold Opd.arg
  go_enter Try.func116, Try.ntmps116
  go_wp2_with (first | (have _t := O1; clear _t; go_at_call 177; refine (rm9_any a _).mono ?_; rintro e w2 ⟨rfl, hu⟩; rw [H0.out]; have O2 := Lib.hid (O1.out.step hu); have ca := cells_of O2.out.a; have cb := cells_of O2.out.b; clear hu O1) | (have _t := O2; clear _t; go_at_call 179; refine (isImm9_any a _).mono ?_; rintro e w3 ⟨rfl, hu⟩; rw [H1.out]; have O3 := Lib.hid (O2.out.step hu); clear ca cb; have ca := cells_of O3.out.a; have cb := cells_of O3.out.b; clear hu O2))
  go_ret
  exact ⟨rfl, O3.out.u⟩

set_option maxRecDepth 100000 in
set_option maxHeartbeats 1000000 in
theorem op9_8_2_0 (a b : Opd) (w : World) (h0 : rmB a = true) (h1 : noneB b = true) : Calls Try.prog 116 #[.int .i64 32, a.arg, b.arg] w fun e w' => e = .returned (.bool true) ∧ Upd [] w w' := by
  have O1 := Lib.hid (O9.start w a b)
  have H0 := Lib.hid h0
  have H1 := Lib.hid h1
  clear h0 h1
  unfold Opd.arg
  go_enter Try.func116, Try.ntmps116
  go_wp2_with (first | (have _t := O1; clear _t; go_at_call 177; refine (rm9_any a _).mono ?_; rintro e w2 ⟨rfl, hu⟩; rw [H0.out]; have O2 := Lib.hid (O1.out.step hu); have ca := cells_of O2.out.a; have cb := cells_of O2.out.b; clear hu O1) | (have _t := O2; clear _t; go_at_call 182; refine (none9_any b _).mono ?_; rintro e w3 ⟨rfl, hu⟩; rw [H1.out]; have O3 := Lib.hid (O2.out.step hu); clear ca cb; have ca := cells_of O3.out.a; have cb := cells_of O3.out.b; clear hu O2))
  go_ret
  exact ⟨rfl, O3.out.u⟩

set_option maxRecDepth 100000 in
set_option maxHeartbeats 1000000 in
theorem op9_8_2_1 (a b : Opd) (w : World) (h0 : rmB a = true) (h1 : noneB b = false) : Calls Try.prog 116 #[.int .i64 32, a.arg, b.arg] w fun e w' => e = .returned (.bool false) ∧ Upd [] w w' := by
  have O1 := Lib.hid (O9.start w a b)
  have H0 := Lib.hid h0
  have H1 := Lib.hid h1
  clear h0 h1
  unfold Opd.arg
  go_enter Try.func116, Try.ntmps116
  go_wp2_with (first | (have _t := O1; clear _t; go_at_call 177; refine (rm9_any a _).mono ?_; rintro e w2 ⟨rfl, hu⟩; rw [H0.out]; have O2 := Lib.hid (O1.out.step hu); have ca := cells_of O2.out.a; have cb := cells_of O2.out.b; clear hu O1) | (have _t := O2; clear _t; go_at_call 182; refine (none9_any b _).mono ?_; rintro e w3 ⟨rfl, hu⟩; rw [H1.out]; have O3 := Lib.hid (O2.out.step hu); clear ca cb; have ca := cells_of O3.out.a; have cb := cells_of O3.out.b; clear hu O2))
  go_ret
  exact ⟨rfl, O3.out.u⟩

set_option maxRecDepth 100000 in
set_option maxHeartbeats 1000000 in
theorem op9_8_2_2 (a b : Opd) (w : World) (h0 : rmB a = false) (h1 : isImmB a = true) (h2 : noneB b = true) : Calls Try.prog 116 #[.int .i64 32, a.arg, b.arg] w fun e w' => e = .returned (.bool true) ∧ Upd [] w w' := by
  have O1 := Lib.hid (O9.start w a b)
  have H0 := Lib.hid h0
  have H1 := Lib.hid h1
  have H2 := Lib.hid h2
  clear h0 h1 h2
  unfold Opd.arg
  go_enter Try.func116, Try.ntmps116
  go_wp2_with (first | (have _t := O1; clear _t; go_at_call 177; refine (rm9_any a _).mono ?_; rintro e w2 ⟨rfl, hu⟩; rw [H0.out]; have O2 := Lib.hid (O1.out.step hu); have ca := cells_of O2.out.a; have cb := cells_of O2.out.b; clear hu O1) | (have _t := O2; clear _t; go_at_call 179; refine (isImm9_any a _).mono ?_; rintro e w3 ⟨rfl, hu⟩; rw [H1.out]; have O3 := Lib.hid (O2.out.step hu); clear ca cb; have ca := cells_of O3.out.a; have cb := cells_of O3.out.b; clear hu O2) | (have _t := O3; clear _t; go_at_call 182; refine (none9_any b _).mono ?_; rintro e w4 ⟨rfl, hu⟩; rw [H2.out]; have O4 := Lib.hid (O3.out.step hu); clear ca cb; have ca := cells_of O4.out.a; have cb := cells_of O4.out.b; clear hu O3))
  go_ret
  exact ⟨rfl, O4.out.u⟩

set_option maxRecDepth 100000 in
set_option maxHeartbeats 1000000 in
theorem op9_8_2_3 (a b : Opd) (w : World) (h0 : rmB a = false) (h1 : isImmB a = true) (h2 : noneB b = false) : Calls Try.prog 116 #[.int .i64 32, a.arg, b.arg] w fun e w' => e = .returned (.bool false) ∧ Upd [] w w' := by
  have O1 := Lib.hid (O9.start w a b)
  have H0 := Lib.hid h0
  have H1 := Lib.hid h1
  have H2 := Lib.hid h2
  clear h0 h1 h2
  unfold Opd.arg
  go_enter Try.func116, Try.ntmps116
  go_wp2_with (first | (have _t := O1; clear _t; go_at_call 177; refine (rm9_any a _).mono ?_; rintro e w2 ⟨rfl, hu⟩; rw [H0.out]; have O2 := Lib.hid (O1.out.step hu); have ca := cells_of O2.out.a; have cb := cells_of O2.out.b; clear hu O1) | (have _t := O2; clear _t; go_at_call 179; refine (isImm9_any a _).mono ?_; rintro e w3 ⟨rfl, hu⟩; rw [H1.out]; have O3 := Lib.hid (O2.out.step hu); clear ca cb; have ca := cells_of O3.out.a; have cb := cells_of O3.out.b; clear hu O2) | (have _t := O3; clear _t; go_at_call 182; refine (none9_any b _).mono ?_; rintro e w4 ⟨rfl, hu⟩; rw [H2.out]; have O4 := Lib.hid (O3.out.step hu); clear ca cb; have ca := cells_of O4.out.a; have cb := cells_of O4.out.b; clear hu O3))
  go_ret
  exact ⟨rfl, O4.out.u⟩

set_option maxRecDepth 100000 in
set_option maxHeartbeats 1000000 in
theorem op9_8_2_4 (a b : Opd) (w : World) (h0 : rmB a = false) (h1 : isImmB a = false) : Calls Try.prog 116 #[.int .i64 32, a.arg, b.arg] w fun e w' => e = .returned (.bool false) ∧ Upd [] w w' := by
  have O1 := Lib.hid (O9.start w a b)
  have H0 := Lib.hid h0
  have H1 := Lib.hid h1
  clear h0 h1
  unfold Opd.arg
  go_enter Try.func116, Try.ntmps116
  go_wp2_with (first | (have _t := O1; clear _t; go_at_call 177; refine (rm9_any a _).mono ?_; rintro e w2 ⟨rfl, hu⟩; rw [H0.out]; have O2 := Lib.hid (O1.out.step hu); have ca := cells_of O2.out.a; have cb := cells_of O2.out.b; clear hu O1) | (have _t := O2; clear _t; go_at_call 179; refine (isImm9_any a _).mono ?_; rintro e w3 ⟨rfl, hu⟩; rw [H1.out]; have O3 := Lib.hid (O2.out.step hu); clear ca cb; have ca := cells_of O3.out.a; have cb := cells_of O3.out.b; clear hu O2))
  go_ret
  exact ⟨rfl, O3.out.u⟩

set_option maxRecDepth 100000 in
set_option maxHeartbeats 1000000 in
theorem op9_9_0_0 (a b : Opd) (w : World) (h0 : isRegB a = true) (h1 : noneB b = true) : Calls Try.prog 116 #[.int .i64 29, a.arg, b.arg] w fun e w' => e = .returned (.bool true) ∧ Upd [] w w' := by
  have O1 := Lib.hid (O9.start w a b)
  have H0 := Lib.hid h0
  have H1 := Lib.hid h1
  clear h0 h1
  unfold Opd.arg
  go_enter Try.func116, Try.ntmps116
  go_wp2_with (first | (have _t := O1; clear _t; go_at_call 178; refine (isReg9_any a _).mono ?_; rintro e w2 ⟨rfl, hu⟩; rw [H0.out]; have O2 := Lib.hid (O1.out.step hu); have ca := cells_of O2.out.a; have cb := cells_of O2.out.b; clear hu O1) | (have _t := O2; clear _t; go_at_call 182; refine (none9_any b _).mono ?_; rintro e w3 ⟨rfl, hu⟩; rw [H1.out]; have O3 := Lib.hid (O2.out.step hu); clear ca cb; have ca := cells_of O3.out.a; have cb := cells_of O3.out.b; clear hu O2))
  go_ret
  exact ⟨rfl, O3.out.u⟩

set_option maxRecDepth 100000 in
set_option maxHeartbeats 1000000 in
theorem op9_9_0_1 (a b : Opd) (w : World) (h0 : isRegB a = true) (h1 : noneB b = false) : Calls Try.prog 116 #[.int .i64 29, a.arg, b.arg] w fun e w' => e = .returned (.bool false) ∧ Upd [] w w' := by
  have O1 := Lib.hid (O9.start w a b)
  have H0 := Lib.hid h0
  have H1 := Lib.hid h1
  clear h0 h1
  unfold Opd.arg
  go_enter Try.func116, Try.ntmps116
  go_wp2_with (first | (have _t := O1; clear _t; go_at_call 178; refine (isReg9_any a _).mono ?_; rintro e w2 ⟨rfl, hu⟩; rw [H0.out]; have O2 := Lib.hid (O1.out.step hu); have ca := cells_of O2.out.a; have cb := cells_of O2.out.b; clear hu O1) | (have _t := O2; clear _t; go_at_call 182; refine (none9_any b _).mono ?_; rintro e w3 ⟨rfl, hu⟩; rw [H1.out]; have O3 := Lib.hid (O2.out.step hu); clear ca cb; have ca := cells_of O3.out.a; have cb := cells_of O3.out.b; clear hu O2))
  go_ret
  exact ⟨rfl, O3.out.u⟩

set_option maxRecDepth 100000 in
set_option maxHeartbeats 1000000 in
theorem op9_9_0_2 (a b : Opd) (w : World) (h0 : isRegB a = false) : Calls Try.prog 116 #[.int .i64 29, a.arg, b.arg] w fun e w' => e = .returned (.bool false) ∧ Upd [] w w' := by
  have O1 := Lib.hid (O9.start w a b)
  have H0 := Lib.hid h0
  clear h0
  unfold Opd.arg
  go_enter Try.func116, Try.ntmps116
  go_wp2_with (have _t := O1; clear _t; go_at_call 178; refine (isReg9_any a _).mono ?_; rintro e w2 ⟨rfl, hu⟩; rw [H0.out]; have O2 := Lib.hid (O1.out.step hu); have ca := cells_of O2.out.a; have cb := cells_of O2.out.b; clear hu O1)
  go_ret
  exact ⟨rfl, O2.out.u⟩

set_option maxRecDepth 100000 in
set_option maxHeartbeats 1000000 in
theorem op9_10_0_0 (a b : Opd) (w : World) (h0 : isImmB a = true) (h1 : noneB b = true) : Calls Try.prog 116 #[.int .i64 33, a.arg, b.arg] w fun e w' => e = .returned (.bool true) ∧ Upd [] w w' := by
  have O1 := Lib.hid (O9.start w a b)
  have H0 := Lib.hid h0
  have H1 := Lib.hid h1
  clear h0 h1
  unfold Opd.arg
  go_enter Try.func116, Try.ntmps116
  go_wp2_with (first | (have _t := O1; clear _t; go_at_call 179; refine (isImm9_any a _).mono ?_; rintro e w2 ⟨rfl, hu⟩; rw [H0.out]; have O2 := Lib.hid (O1.out.step hu); have ca := cells_of O2.out.a; have cb := cells_of O2.out.b; clear hu O1) | (have _t := O2; clear _t; go_at_call 182; refine (none9_any b _).mono ?_; rintro e w3 ⟨rfl, hu⟩; rw [H1.out]; have O3 := Lib.hid (O2.out.step hu); clear ca cb; have ca := cells_of O3.out.a; have cb := cells_of O3.out.b; clear hu O2))
  go_ret
  exact ⟨rfl, O3.out.u⟩

set_option maxRecDepth 100000 in
set_option maxHeartbeats 1000000 in
theorem op9_10_0_1 (a b : Opd) (w : World) (h0 : isImmB a = true) (h1 : noneB b = false) : Calls Try.prog 116 #[.int .i64 33, a.arg, b.arg] w fun e w' => e = .returned (.bool false) ∧ Upd [] w w' := by
  have O1 := Lib.hid (O9.start w a b)
  have H0 := Lib.hid h0
  have H1 := Lib.hid h1
  clear h0 h1
  unfold Opd.arg
  go_enter Try.func116, Try.ntmps116
  go_wp2_with (first | (have _t := O1; clear _t; go_at_call 179; refine (isImm9_any a _).mono ?_; rintro e w2 ⟨rfl, hu⟩; rw [H0.out]; have O2 := Lib.hid (O1.out.step hu); have ca := cells_of O2.out.a; have cb := cells_of O2.out.b; clear hu O1) | (have _t := O2; clear _t; go_at_call 182; refine (none9_any b _).mono ?_; rintro e w3 ⟨rfl, hu⟩; rw [H1.out]; have O3 := Lib.hid (O2.out.step hu); clear ca cb; have ca := cells_of O3.out.a; have cb := cells_of O3.out.b; clear hu O2))
  go_ret
  exact ⟨rfl, O3.out.u⟩

set_option maxRecDepth 100000 in
set_option maxHeartbeats 1000000 in
theorem op9_10_0_2 (a b : Opd) (w : World) (h0 : isImmB a = false) : Calls Try.prog 116 #[.int .i64 33, a.arg, b.arg] w fun e w' => e = .returned (.bool false) ∧ Upd [] w w' := by
  have O1 := Lib.hid (O9.start w a b)
  have H0 := Lib.hid h0
  clear h0
  unfold Opd.arg
  go_enter Try.func116, Try.ntmps116
  go_wp2_with (have _t := O1; clear _t; go_at_call 179; refine (isImm9_any a _).mono ?_; rintro e w2 ⟨rfl, hu⟩; rw [H0.out]; have O2 := Lib.hid (O1.out.step hu); have ca := cells_of O2.out.a; have cb := cells_of O2.out.b; clear hu O1)
  go_ret
  exact ⟨rfl, O2.out.u⟩

set_option maxRecDepth 100000 in
set_option maxHeartbeats 1000000 in
theorem op9_11_0_0 (a b : Opd) (w : World) (h0 : isImmB a = true) (h1 : (a.imm == 128) = true) (h2 : noneB b = true) : Calls Try.prog 116 #[.int .i64 43, a.arg, b.arg] w fun e w' => e = .returned (.bool true) ∧ Upd [] w w' := by
  have O1 := Lib.hid (O9.start w a b)
  have H0 := Lib.hid h0
  have H2 := Lib.hid h2
  clear h0 h2
  unfold Opd.arg
  go_enter Try.func116, Try.ntmps116
  go_wp2_with (first | (have _t := O1; clear _t; go_at_call 179; refine (isImm9_any a _).mono ?_; rintro e w2 ⟨rfl, hu⟩; rw [H0.out]; have O2 := Lib.hid (O1.out.step hu); have ca := cells_of O2.out.a; have cb := cells_of O2.out.b; clear hu O1) | (have _t := O2; clear _t; go_at_call 182; refine (none9_any b _).mono ?_; rintro e w3 ⟨rfl, hu⟩; rw [H2.out]; have O3 := Lib.hid (O2.out.step hu); clear ca cb; have ca := cells_of O3.out.a; have cb := cells_of O3.out.b; clear hu O2))
  go_ret
  exact ⟨rfl, O3.out.u⟩

set_option maxRecDepth 100000 in
set_option maxHeartbeats 1000000 in
theorem op9_11_0_1 (a b : Opd) (w : World) (h0 : isImmB a = true) (h1 : (a.imm == 128) = true) (h2 : noneB b = false) : Calls Try.prog 116 #[.int .i64 43, a.arg, b.arg] w fun e w' => e = .returned (.bool false) ∧ Upd [] w w' := by
  have O1 := Lib.hid (O9.start w a b)
  have H0 := Lib.hid h0
  have H2 := Lib.hid h2
  clear h0 h2
  unfold Opd.arg
  go_enter Try.func116, Try.ntmps116
  go_wp2_with (first | (have _t := O1; clear _t; go_at_call 179; refine (isImm9_any a _).mono ?_; rintro e w2 ⟨rfl, hu⟩; rw [H0.out]; have O2 := Lib.hid (O1.out.step hu); have ca := cells_of O2.out.a; have cb := cells_of O2.out.b; clear hu O1) | (have _t := O2; clear _t; go_at_call 182; refine (none9_any b _).mono ?_; rintro e w3 ⟨rfl, hu⟩; rw [H2.out]; have O3 := Lib.hid (O2.out.step hu); clear ca cb; have ca := cells_of O3.out.a; have cb := cells_of O3.out.b; clear hu O2))
  go_ret
  exact ⟨rfl, O3.out.u⟩

set_option maxRecDepth 100000 in
set_option maxHeartbeats 1000000 in
theorem op9_11_0_2 (a b : Opd) (w : World) (h0 : isImmB a = true) (h1 : (a.imm == 128) = false) : Calls Try.prog 116 #[.int .i64 43, a.arg, b.arg] w fun e w' => e = .returned (.bool false) ∧ Upd [] w w' := by
  have O1 := Lib.hid (O9.start w a b)
  have H0 := Lib.hid h0
  clear h0
  unfold Opd.arg
  go_enter Try.func116, Try.ntmps116
  go_wp2_with (have _t := O1; clear _t; go_at_call 179; refine (isImm9_any a _).mono ?_; rintro e w2 ⟨rfl, hu⟩; rw [H0.out]; have O2 := Lib.hid (O1.out.step hu); have ca := cells_of O2.out.a; have cb := cells_of O2.out.b; clear hu O1)
  go_ret
  exact ⟨rfl, O2.out.u⟩

set_option maxRecDepth 100000 in
set_option maxHeartbeats 1000000 in
theorem op9_11_0_3 (a b : Opd) (w : World) (h0 : isImmB a = false) : Calls Try.prog 116 #[.int .i64 43, a.arg, b.arg] w fun e w' => e = .returned (.bool false) ∧ Upd [] w w' := by
  have O1 := Lib.hid (O9.start w a b)
  have H0 := Lib.hid h0
  clear h0
  unfold Opd.arg
  go_enter Try.func116, Try.ntmps116
  go_wp2_with (have _t := O1; clear _t; go_at_call 179; refine (isImm9_any a _).mono ?_; rintro e w2 ⟨rfl, hu⟩; rw [H0.out]; have O2 := Lib.hid (O1.out.step hu); have ca := cells_of O2.out.a; have cb := cells_of O2.out.b; clear hu O1)
  go_ret
  exact ⟨rfl, O2.out.u⟩

set_option maxRecDepth 100000 in
set_option maxHeartbeats 1000000 in
theorem op9_12_0_0 (a b : Opd) (w : World) (h0 : isMemB a = true) (h1 : noneB b = true) : Calls Try.prog 116 #[.int .i64 45, a.arg, b.arg] w fun e w' => e = .returned (.bool true) ∧ Upd [] w w' := by
  have O1 := Lib.hid (O9.start w a b)
  have H0 := Lib.hid h0
  have H1 := Lib.hid h1
  clear h0 h1
  unfold Opd.arg
  go_enter Try.func116, Try.ntmps116
  go_wp2_with (first | (have _t := O1; clear _t; go_at_call 180; refine (isMem9_any a _).mono ?_; rintro e w2 ⟨rfl, hu⟩; rw [H0.out]; have O2 := Lib.hid (O1.out.step hu); have ca := cells_of O2.out.a; have cb := cells_of O2.out.b; clear hu O1) | (have _t := O2; clear _t; go_at_call 182; refine (none9_any b _).mono ?_; rintro e w3 ⟨rfl, hu⟩; rw [H1.out]; have O3 := Lib.hid (O2.out.step hu); clear ca cb; have ca := cells_of O3.out.a; have cb := cells_of O3.out.b; clear hu O2))
  go_ret
  exact ⟨rfl, O3.out.u⟩

set_option maxRecDepth 100000 in
set_option maxHeartbeats 1000000 in
theorem op9_12_0_1 (a b : Opd) (w : World) (h0 : isMemB a = true) (h1 : noneB b = false) : Calls Try.prog 116 #[.int .i64 45, a.arg, b.arg] w fun e w' => e = .returned (.bool false) ∧ Upd [] w w' := by
  have O1 := Lib.hid (O9.start w a b)
  have H0 := Lib.hid h0
  have H1 := Lib.hid h1
  clear h0 h1
  unfold Opd.arg
  go_enter Try.func116, Try.ntmps116
  go_wp2_with (first | (have _t := O1; clear _t; go_at_call 180; refine (isMem9_any a _).mono ?_; rintro e w2 ⟨rfl, hu⟩; rw [H0.out]; have O2 := Lib.hid (O1.out.step hu); have ca := cells_of O2.out.a; have cb := cells_of O2.out.b; clear hu O1) | (have _t := O2; clear _t; go_at_call 182; refine (none9_any b _).mono ?_; rintro e w3 ⟨rfl, hu⟩; rw [H1.out]; have O3 := Lib.hid (O2.out.step hu); clear ca cb; have ca := cells_of O3.out.a; have cb := cells_of O3.out.b; clear hu O2))
  go_ret
  exact ⟨rfl, O3.out.u⟩

set_option maxRecDepth 100000 in
set_option maxHeartbeats 1000000 in
theorem op9_12_0_2 (a b : Opd) (w : World) (h0 : isMemB a = false) : Calls Try.prog 116 #[.int .i64 45, a.arg, b.arg] w fun e w' => e = .returned (.bool false) ∧ Upd [] w w' := by
  have O1 := Lib.hid (O9.start w a b)
  have H0 := Lib.hid h0
  clear h0
  unfold Opd.arg
  go_enter Try.func116, Try.ntmps116
  go_wp2_with (have _t := O1; clear _t; go_at_call 180; refine (isMem9_any a _).mono ?_; rintro e w2 ⟨rfl, hu⟩; rw [H0.out]; have O2 := Lib.hid (O1.out.step hu); have ca := cells_of O2.out.a; have cb := cells_of O2.out.b; clear hu O1)
  go_ret
  exact ⟨rfl, O2.out.u⟩

set_option maxRecDepth 100000 in
set_option maxHeartbeats 1000000 in
theorem op9_12_1_0 (a b : Opd) (w : World) (h0 : isMemB a = true) (h1 : noneB b = true) : Calls Try.prog 116 #[.int .i64 46, a.arg, b.arg] w fun e w' => e = .returned (.bool true) ∧ Upd [] w w' := by
  have O1 := Lib.hid (O9.start w a b)
  have H0 := Lib.hid h0
  have H1 := Lib.hid h1
  clear h0 h1
  unfold Opd.arg
  go_enter Try.func116, Try.ntmps116
  go_wp2_with (first | (have _t := O1; clear _t; go_at_call 180; refine (isMem9_any a _).mono ?_; rintro e w2 ⟨rfl, hu⟩; rw [H0.out]; have O2 := Lib.hid (O1.out.step hu); have ca := cells_of O2.out.a; have cb := cells_of O2.out.b; clear hu O1) | (have _t := O2; clear _t; go_at_call 182; refine (none9_any b _).mono ?_; rintro e w3 ⟨rfl, hu⟩; rw [H1.out]; have O3 := Lib.hid (O2.out.step hu); clear ca cb; have ca := cells_of O3.out.a; have cb := cells_of O3.out.b; clear hu O2))
  go_ret
  exact ⟨rfl, O3.out.u⟩

set_option maxRecDepth 100000 in
set_option maxHeartbeats 1000000 in
theorem op9_12_1_1 (a b : Opd) (w : World) (h0 : isMemB a = true) (h1 : noneB b = false) : Calls Try.prog 116 #[.int .i64 46, a.arg, b.arg] w fun e w' => e = .returned (.bool false) ∧ Upd [] w w' := by
  have O1 := Lib.hid (O9.start w a b)
  have H0 := Lib.hid h0
  have H1 := Lib.hid h1
  clear h0 h1
  unfold Opd.arg
  go_enter Try.func116, Try.ntmps116
  go_wp2_with (first | (have _t := O1; clear _t; go_at_call 180; refine (isMem9_any a _).mono ?_; rintro e w2 ⟨rfl, hu⟩; rw [H0.out]; have O2 := Lib.hid (O1.out.step hu); have ca := cells_of O2.out.a; have cb := cells_of O2.out.b; clear hu O1) | (have _t := O2; clear _t; go_at_call 182; refine (none9_any b _).mono ?_; rintro e w3 ⟨rfl, hu⟩; rw [H1.out]; have O3 := Lib.hid (O2.out.step hu); clear ca cb; have ca := cells_of O3.out.a; have cb := cells_of O3.out.b; clear hu O2))
  go_ret
  exact ⟨rfl, O3.out.u⟩

set_option maxRecDepth 100000 in
set_option maxHeartbeats 1000000 in
theorem op9_12_1_2 (a b : Opd) (w : World) (h0 : isMemB a = false) : Calls Try.prog 116 #[.int .i64 46, a.arg, b.arg] w fun e w' => e = .returned (.bool false) ∧ Upd [] w w' := by
  have O1 := Lib.hid (O9.start w a b)
  have H0 := Lib.hid h0
  clear h0
  unfold Opd.arg
  go_enter Try.func116, Try.ntmps116
  go_wp2_with (have _t := O1; clear _t; go_at_call 180; refine (isMem9_any a _).mono ?_; rintro e w2 ⟨rfl, hu⟩; rw [H0.out]; have O2 := Lib.hid (O1.out.step hu); have ca := cells_of O2.out.a; have cb := cells_of O2.out.b; clear hu O1)
  go_ret
  exact ⟨rfl, O2.out.u⟩

set_option maxRecDepth 100000 in
set_option maxHeartbeats 1000000 in
theorem op9_12_2_0 (a b : Opd) (w : World) (op : Int) (hlo : 47 ≤ op) (hhi : op ≤ 50) (h0 : isMemB a = true) (h1 : noneB b = true) : Calls Try.prog 116 #[.int .i64 op, a.arg, b.arg] w fun e w' => e = .returned (.bool true) ∧ Upd [] w w' := by
  have e1 : (op == 1) = false := by rw [beq_eq_false_iff_ne]; omega
  have e11 : (op == 11) = false := by rw [beq_eq_false_iff_ne]; omega
  have e2 : (op == 2) = false := by rw [beq_eq_false_iff_ne]; omega
  have e27 : (op == 27) = false := by rw [beq_eq_false_iff_ne]; omega
  have e19 : (op == 19) = false := by rw [beq_eq_false_iff_ne]; omega
  have e20 : (op == 20) = false := by rw [beq_eq_false_iff_ne]; omega
  have e34 : (op == 34) = false := by rw [beq_eq_false_iff_ne]; omega
  have e18 : (op == 18) = false := by rw [beq_eq_false_iff_ne]; omega
  have e35 : (op == 35) = false := by rw [beq_eq_false_iff_ne]; omega
  have e36 : (op == 36) = false := by rw [beq_eq_false_iff_ne]; omega
  have e37 : (op == 37) = false := by rw [beq_eq_false_iff_ne]; omega
  have e26 : (op == 26) = false := by rw [beq_eq_false_iff_ne]; omega
  have e28 : (op == 28) = false := by rw [beq_eq_false_iff_ne]; omega
  have e30 : (op == 30) = false := by rw [beq_eq_false_iff_ne]; omega
  have e32 : (op == 32) = false := by rw [beq_eq_false_iff_ne]; omega
  have e29 : (op == 29) = false := by rw [beq_eq_false_iff_ne]; omega
  have e33 : (op == 33) = false := by rw [beq_eq_false_iff_ne]; omega
  have e43 : (op == 43) = false := by rw [beq_eq_false_iff_ne]; omega
  have e45 : (op == 45) = false := by rw [beq_eq_false_iff_ne]; omega
  have e46 : (op == 46) = false := by rw [beq_eq_false_iff_ne]; omega
  have l3 : decide (3 ≤ op) = true := by simp; omega
  have g3 : decide (op ≤ 10) = false := by simp; omega
  have l12 : decide (12 ≤ op) = true := by simp; omega
  have g12 : decide (op ≤ 17) = false := by simp; omega
  have l21 : decide (21 ≤ op) = true := by simp; omega
  have g21 : decide (op ≤ 25) = false := by simp; omega
  have l47 : decide (47 ≤ op) = true := by simp; omega
  have g47 : decide (op ≤ 50) = true := by simp; omega
  have O1 := Lib.hid (O9.start w a b)
  have H0 := Lib.hid h0
  have H1 := Lib.hid h1
  clear hlo hhi h0 h1
  unfold Opd.arg
  go_enter Try.func116, Try.ntmps116
  go_wp2_with (first | (have _t := O1; clear _t; go_at_call 180; refine (isMem9_any a _).mono ?_; rintro e w2 ⟨rfl, hu⟩; rw [H0.out]; have O2 := Lib.hid (O1.out.step hu); have ca := cells_of O2.out.a; have cb := cells_of O2.out.b; clear hu O1) | (have _t := O2; clear _t; go_at_call 182; refine (none9_any b _).mono ?_; rintro e w3 ⟨rfl, hu⟩; rw [H1.out]; have O3 := Lib.hid (O2.out.step hu); clear ca cb; have ca := cells_of O3.out.a; have cb := cells_of O3.out.b; clear hu O2))
  go_ret
  exact ⟨rfl, O3.out.u⟩

set_option maxRecDepth 100000 in
set_option maxHeartbeats 1000000 in
theorem op9_12_2_1 (a b : Opd) (w : World) (op : Int) (hlo : 47 ≤ op) (hhi : op ≤ 50) (h0 : isMemB a = true) (h1 : noneB b = false) : Calls Try.prog 116 #[.int .i64 op, a.arg, b.arg] w fun e w' => e = .returned (.bool false) ∧ Upd [] w w' := by
  have e1 : (op == 1) = false := by rw [beq_eq_false_iff_ne]; omega
  have e11 : (op == 11) = false := by rw [beq_eq_false_iff_ne]; omega
  have e2 : (op == 2) = false := by rw [beq_eq_false_iff_ne]; omega
  have e27 : (op == 27) = false := by rw [beq_eq_false_iff_ne]; omega
  have e19 : (op == 19) = false := by rw [beq_eq_false_iff_ne]; omega
  have e20 : (op == 20) = false := by rw [beq_eq_false_iff_ne]; omega
  have e34 : (op == 34) = false := by rw [beq_eq_false_iff_ne]; omega
  have e18 : (op == 18) = false := by rw [beq_eq_false_iff_ne]; omega
  have e35 : (op == 35) = false := by rw [beq_eq_false_iff_ne]; omega
  have e36 : (op == 36) = false := by rw [beq_eq_false_iff_ne]; omega
  have e37 : (op == 37) = false := by rw [beq_eq_false_iff_ne]; omega
  have e26 : (op == 26) = false := by rw [beq_eq_false_iff_ne]; omega
  have e28 : (op == 28) = false := by rw [beq_eq_false_iff_ne]; omega
  have e30 : (op == 30) = false := by rw [beq_eq_false_iff_ne]; omega
  have e32 : (op == 32) = false := by rw [beq_eq_false_iff_ne]; omega
  have e29 : (op == 29) = false := by rw [beq_eq_false_iff_ne]; omega
  have e33 : (op == 33) = false := by rw [beq_eq_false_iff_ne]; omega
  have e43 : (op == 43) = false := by rw [beq_eq_false_iff_ne]; omega
  have e45 : (op == 45) = false := by rw [beq_eq_false_iff_ne]; omega
  have e46 : (op == 46) = false := by rw [beq_eq_false_iff_ne]; omega
  have l3 : decide (3 ≤ op) = true := by simp; omega
  have g3 : decide (op ≤ 10) = false := by simp; omega
  have l12 : decide (12 ≤ op) = true := by simp; omega
  have g12 : decide (op ≤ 17) = false := by simp; omega
  have l21 : decide (21 ≤ op) = true := by simp; omega
  have g21 : decide (op ≤ 25) = false := by simp; omega
  have l47 : decide (47 ≤ op) = true := by simp; omega
  have g47 : decide (op ≤ 50) = true := by simp; omega
  have O1 := Lib.hid (O9.start w a b)
  have H0 := Lib.hid h0
  have H1 := Lib.hid h1
  clear hlo hhi h0 h1
  unfold Opd.arg
  go_enter Try.func116, Try.ntmps116
  go_wp2_with (first | (have _t := O1; clear _t; go_at_call 180; refine (isMem9_any a _).mono ?_; rintro e w2 ⟨rfl, hu⟩; rw [H0.out]; have O2 := Lib.hid (O1.out.step hu); have ca := cells_of O2.out.a; have cb := cells_of O2.out.b; clear hu O1) | (have _t := O2; clear _t; go_at_call 182; refine (none9_any b _).mono ?_; rintro e w3 ⟨rfl, hu⟩; rw [H1.out]; have O3 := Lib.hid (O2.out.step hu); clear ca cb; have ca := cells_of O3.out.a; have cb := cells_of O3.out.b; clear hu O2))
  go_ret
  exact ⟨rfl, O3.out.u⟩

set_option maxRecDepth 100000 in
set_option maxHeartbeats 1000000 in
theorem op9_12_2_2 (a b : Opd) (w : World) (op : Int) (hlo : 47 ≤ op) (hhi : op ≤ 50) (h0 : isMemB a = false) : Calls Try.prog 116 #[.int .i64 op, a.arg, b.arg] w fun e w' => e = .returned (.bool false) ∧ Upd [] w w' := by
  have e1 : (op == 1) = false := by rw [beq_eq_false_iff_ne]; omega
  have e11 : (op == 11) = false := by rw [beq_eq_false_iff_ne]; omega
  have e2 : (op == 2) = false := by rw [beq_eq_false_iff_ne]; omega
  have e27 : (op == 27) = false := by rw [beq_eq_false_iff_ne]; omega
  have e19 : (op == 19) = false := by rw [beq_eq_false_iff_ne]; omega
  have e20 : (op == 20) = false := by rw [beq_eq_false_iff_ne]; omega
  have e34 : (op == 34) = false := by rw [beq_eq_false_iff_ne]; omega
  have e18 : (op == 18) = false := by rw [beq_eq_false_iff_ne]; omega
  have e35 : (op == 35) = false := by rw [beq_eq_false_iff_ne]; omega
  have e36 : (op == 36) = false := by rw [beq_eq_false_iff_ne]; omega
  have e37 : (op == 37) = false := by rw [beq_eq_false_iff_ne]; omega
  have e26 : (op == 26) = false := by rw [beq_eq_false_iff_ne]; omega
  have e28 : (op == 28) = false := by rw [beq_eq_false_iff_ne]; omega
  have e30 : (op == 30) = false := by rw [beq_eq_false_iff_ne]; omega
  have e32 : (op == 32) = false := by rw [beq_eq_false_iff_ne]; omega
  have e29 : (op == 29) = false := by rw [beq_eq_false_iff_ne]; omega
  have e33 : (op == 33) = false := by rw [beq_eq_false_iff_ne]; omega
  have e43 : (op == 43) = false := by rw [beq_eq_false_iff_ne]; omega
  have e45 : (op == 45) = false := by rw [beq_eq_false_iff_ne]; omega
  have e46 : (op == 46) = false := by rw [beq_eq_false_iff_ne]; omega
  have l3 : decide (3 ≤ op) = true := by simp; omega
  have g3 : decide (op ≤ 10) = false := by simp; omega
  have l12 : decide (12 ≤ op) = true := by simp; omega
  have g12 : decide (op ≤ 17) = false := by simp; omega
  have l21 : decide (21 ≤ op) = true := by simp; omega
  have g21 : decide (op ≤ 25) = false := by simp; omega
  have l47 : decide (47 ≤ op) = true := by simp; omega
  have g47 : decide (op ≤ 50) = true := by simp; omega
  have O1 := Lib.hid (O9.start w a b)
  have H0 := Lib.hid h0
  clear hlo hhi h0
  unfold Opd.arg
  go_enter Try.func116, Try.ntmps116
  go_wp2_with (have _t := O1; clear _t; go_at_call 180; refine (isMem9_any a _).mono ?_; rintro e w2 ⟨rfl, hu⟩; rw [H0.out]; have O2 := Lib.hid (O1.out.step hu); have ca := cells_of O2.out.a; have cb := cells_of O2.out.b; clear hu O1)
  go_ret
  exact ⟨rfl, O2.out.u⟩

set_option maxRecDepth 100000 in
set_option maxHeartbeats 1000000 in
theorem op9_12_3_0 (a b : Opd) (w : World) (h0 : isMemB a = true) (h1 : noneB b = true) : Calls Try.prog 116 #[.int .i64 53, a.arg, b.arg] w fun e w' => e = .returned (.bool true) ∧ Upd [] w w' := by
  have O1 := Lib.hid (O9.start w a b)
  have H0 := Lib.hid h0
  have H1 := Lib.hid h1
  clear h0 h1
  unfold Opd.arg
  go_enter Try.func116, Try.ntmps116
  go_wp2_with (first | (have _t := O1; clear _t; go_at_call 180; refine (isMem9_any a _).mono ?_; rintro e w2 ⟨rfl, hu⟩; rw [H0.out]; have O2 := Lib.hid (O1.out.step hu); have ca := cells_of O2.out.a; have cb := cells_of O2.out.b; clear hu O1) | (have _t := O2; clear _t; go_at_call 182; refine (none9_any b _).mono ?_; rintro e w3 ⟨rfl, hu⟩; rw [H1.out]; have O3 := Lib.hid (O2.out.step hu); clear ca cb; have ca := cells_of O3.out.a; have cb := cells_of O3.out.b; clear hu O2))
  go_ret
  exact ⟨rfl, O3.out.u⟩

set_option maxRecDepth 100000 in
set_option maxHeartbeats 1000000 in
theorem op9_12_3_1 (a b : Opd) (w : World) (h0 : isMemB a = true) (h1 : noneB b = false) : Calls Try.prog 116 #[.int .i64 53, a.arg, b.arg] w fun e w' => e = .returned (.bool false) ∧ Upd [] w w' := by
  have O1 := Lib.hid (O9.start w a b)
  have H0 := Lib.hid h0
  have H1 := Lib.hid h1
  clear h0 h1
  unfold Opd.arg
  go_enter Try.func116, Try.ntmps116
  go_wp2_with (first | (have _t := O1; clear _t; go_at_call 180; refine (isMem9_any a _).mono ?_; rintro e w2 ⟨rfl, hu⟩; rw [H0.out]; have O2 := Lib.hid (O1.out.step hu); have ca := cells_of O2.out.a; have cb := cells_of O2.out.b; clear hu O1) | (have _t := O2; clear _t; go_at_call 182; refine (none9_any b _).mono ?_; rintro e w3 ⟨rfl, hu⟩; rw [H1.out]; have O3 := Lib.hid (O2.out.step hu); clear ca cb; have ca := cells_of O3.out.a; have cb := cells_of O3.out.b; clear hu O2))
  go_ret
  exact ⟨rfl, O3.out.u⟩

set_option maxRecDepth 100000 in
set_option maxHeartbeats 1000000 in
theorem op9_12_3_2 (a b : Opd) (w : World) (h0 : isMemB a = false) : Calls Try.prog 116 #[.int .i64 53, a.arg, b.arg] w fun e w' => e = .returned (.bool false) ∧ Upd [] w w' := by
  have O1 := Lib.hid (O9.start w a b)
  have H0 := Lib.hid h0
  clear h0
  unfold Opd.arg
  go_enter Try.func116, Try.ntmps116
  go_wp2_with (have _t := O1; clear _t; go_at_call 180; refine (isMem9_any a _).mono ?_; rintro e w2 ⟨rfl, hu⟩; rw [H0.out]; have O2 := Lib.hid (O1.out.step hu); have ca := cells_of O2.out.a; have cb := cells_of O2.out.b; clear hu O1)
  go_ret
  exact ⟨rfl, O2.out.u⟩

set_option maxRecDepth 100000 in
set_option maxHeartbeats 1000000 in
theorem op9_13_0_0 (a b : Opd) (w : World) (h0 : noneB a = true) (h1 : noneB b = true) : Calls Try.prog 116 #[.int .i64 31, a.arg, b.arg] w fun e w' => e = .returned (.bool true) ∧ Upd [] w w' := by
  have O1 := Lib.hid (O9.start w a b)
  have H0 := Lib.hid h0
  have H1 := Lib.hid h1
  clear h0 h1
  unfold Opd.arg
  go_enter Try.func116, Try.ntmps116
  go_wp2_with (first | (have _t := O1; clear _t; go_at_call 182; refine (none9_any a _).mono ?_; rintro e w2 ⟨rfl, hu⟩; rw [H0.out]; have O2 := Lib.hid (O1.out.step hu); have ca := cells_of O2.out.a; have cb := cells_of O2.out.b; clear hu O1) | (have _t := O2; clear _t; go_at_call 182; refine (none9_any b _).mono ?_; rintro e w3 ⟨rfl, hu⟩; rw [H1.out]; have O3 := Lib.hid (O2.out.step hu); clear ca cb; have ca := cells_of O3.out.a; have cb := cells_of O3.out.b; clear hu O2))
  go_ret
  exact ⟨rfl, O3.out.u⟩

set_option maxRecDepth 100000 in
set_option maxHeartbeats 1000000 in
theorem op9_13_0_1 (a b : Opd) (w : World) (h0 : noneB a = true) (h1 : noneB b = false) : Calls Try.prog 116 #[.int .i64 31, a.arg, b.arg] w fun e w' => e = .returned (.bool false) ∧ Upd [] w w' := by
  have O1 := Lib.hid (O9.start w a b)
  have H0 := Lib.hid h0
  have H1 := Lib.hid h1
  clear h0 h1
  unfold Opd.arg
  go_enter Try.func116, Try.ntmps116
  go_wp2_with (first | (have _t := O1; clear _t; go_at_call 182; refine (none9_any a _).mono ?_; rintro e w2 ⟨rfl, hu⟩; rw [H0.out]; have O2 := Lib.hid (O1.out.step hu); have ca := cells_of O2.out.a; have cb := cells_of O2.out.b; clear hu O1) | (have _t := O2; clear _t; go_at_call 182; refine (none9_any b _).mono ?_; rintro e w3 ⟨rfl, hu⟩; rw [H1.out]; have O3 := Lib.hid (O2.out.step hu); clear ca cb; have ca := cells_of O3.out.a; have cb := cells_of O3.out.b; clear hu O2))
  go_ret
  exact ⟨rfl, O3.out.u⟩

set_option maxRecDepth 100000 in
set_option maxHeartbeats 1000000 in
theorem op9_13_0_2 (a b : Opd) (w : World) (h0 : noneB a = false) : Calls Try.prog 116 #[.int .i64 31, a.arg, b.arg] w fun e w' => e = .returned (.bool false) ∧ Upd [] w w' := by
  have O1 := Lib.hid (O9.start w a b)
  have H0 := Lib.hid h0
  clear h0
  unfold Opd.arg
  go_enter Try.func116, Try.ntmps116
  go_wp2_with (have _t := O1; clear _t; go_at_call 182; refine (none9_any a _).mono ?_; rintro e w2 ⟨rfl, hu⟩; rw [H0.out]; have O2 := Lib.hid (O1.out.step hu); have ca := cells_of O2.out.a; have cb := cells_of O2.out.b; clear hu O1)
  go_ret
  exact ⟨rfl, O2.out.u⟩

set_option maxRecDepth 100000 in
set_option maxHeartbeats 1000000 in
theorem op9_13_1_0 (a b : Opd) (w : World) (op : Int) (hlo : 38 ≤ op) (hhi : op ≤ 42) (h0 : noneB a = true) (h1 : noneB b = true) : Calls Try.prog 116 #[.int .i64 op, a.arg, b.arg] w fun e w' => e = .returned (.bool true) ∧ Upd [] w w' := by
  have e1 : (op == 1) = false := by rw [beq_eq_false_iff_ne]; omega
  have e11 : (op == 11) = false := by rw [beq_eq_false_iff_ne]; omega
  have e2 : (op == 2) = false := by rw [beq_eq_false_iff_ne]; omega
  have e27 : (op == 27) = false := by rw [beq_eq_false_iff_ne]; omega
  have e19 : (op == 19) = false := by rw [beq_eq_false_iff_ne]; omega
  have e20 : (op == 20) = false := by rw [beq_eq_false_iff_ne]; omega
  have e34 : (op == 34) = false := by rw [beq_eq_false_iff_ne]; omega
  have e18 : (op == 18) = false := by rw [beq_eq_false_iff_ne]; omega
  have e35 : (op == 35) = false := by rw [beq_eq_false_iff_ne]; omega
  have e36 : (op == 36) = false := by rw [beq_eq_false_iff_ne]; omega
  have e37 : (op == 37) = false := by rw [beq_eq_false_iff_ne]; omega
  have e26 : (op == 26) = false := by rw [beq_eq_false_iff_ne]; omega
  have e28 : (op == 28) = false := by rw [beq_eq_false_iff_ne]; omega
  have e30 : (op == 30) = false := by rw [beq_eq_false_iff_ne]; omega
  have e32 : (op == 32) = false := by rw [beq_eq_false_iff_ne]; omega
  have e29 : (op == 29) = false := by rw [beq_eq_false_iff_ne]; omega
  have e33 : (op == 33) = false := by rw [beq_eq_false_iff_ne]; omega
  have e43 : (op == 43) = false := by rw [beq_eq_false_iff_ne]; omega
  have e45 : (op == 45) = false := by rw [beq_eq_false_iff_ne]; omega
  have e46 : (op == 46) = false := by rw [beq_eq_false_iff_ne]; omega
  have e53 : (op == 53) = false := by rw [beq_eq_false_iff_ne]; omega
  have e31 : (op == 31) = false := by rw [beq_eq_false_iff_ne]; omega
  have l3 : decide (3 ≤ op) = true := by simp; omega
  have g3 : decide (op ≤ 10) = false := by simp; omega
  have l12 : decide (12 ≤ op) = true := by simp; omega
  have g12 : decide (op ≤ 17) = false := by simp; omega
  have l21 : decide (21 ≤ op) = true := by simp; omega
  have g21 : decide (op ≤ 25) = false := by simp; omega
  have l47 : decide (47 ≤ op) = false := by simp; omega
  have g47 : decide (op ≤ 50) = true := by simp; omega
  have l38 : decide (38 ≤ op) = true := by simp; omega
  have g38 : decide (op ≤ 42) = true := by simp; omega
  have O1 := Lib.hid (O9.start w a b)
  have H0 := Lib.hid h0
  have H1 := Lib.hid h1
  clear hlo hhi h0 h1
  unfold Opd.arg
  go_enter Try.func116, Try.ntmps116
  go_wp2_with (first | (have _t := O1; clear _t; go_at_call 182; refine (none9_any a _).mono ?_; rintro e w2 ⟨rfl, hu⟩; rw [H0.out]; have O2 := Lib.hid (O1.out.step hu); have ca := cells_of O2.out.a; have cb := cells_of O2.out.b; clear hu O1) | (have _t := O2; clear _t; go_at_call 182; refine (none9_any b _).mono ?_; rintro e w3 ⟨rfl, hu⟩; rw [H1.out]; have O3 := Lib.hid (O2.out.step hu); clear ca cb; have ca := cells_of O3.out.a; have cb := cells_of O3.out.b; clear hu O2))
  go_ret
  exact ⟨rfl, O3.out.u⟩

set_option maxRecDepth 100000 in
set_option maxHeartbeats 1000000 in
theorem op9_13_1_1 (a b : Opd) (w : World) (op : Int) (hlo : 38 ≤ op) (hhi : op ≤ 42) (h0 : noneB a = true) (h1 : noneB b = false) : Calls Try.prog 116 #[.int .i64 op, a.arg, b.arg] w fun e w' => e = .returned (.bool false) ∧ Upd [] w w' := by
  have e1 : (op == 1) = false := by rw [beq_eq_false_iff_ne]; omega
  have e11 : (op == 11) = false := by rw [beq_eq_false_iff_ne]; omega
  have e2 : (op == 2) = false := by rw [beq_eq_false_iff_ne]; omega
  have e27 : (op == 27) = false := by rw [beq_eq_false_iff_ne]; omega
  have e19 : (op == 19) = false := by rw [beq_eq_false_iff_ne]; omega
  have e20 : (op == 20) = false := by rw [beq_eq_false_iff_ne]; omega
  have e34 : (op == 34) = false := by rw [beq_eq_false_iff_ne]; omega
  have e18 : (op == 18) = false := by rw [beq_eq_false_iff_ne]; omega
  have e35 : (op == 35) = false := by rw [beq_eq_false_iff_ne]; omega
  have e36 : (op == 36) = false := by rw [beq_eq_false_iff_ne]; omega
  have e37 : (op == 37) = false := by rw [beq_eq_false_iff_ne]; omega
  have e26 : (op == 26) = false := by rw [beq_eq_false_iff_ne]; omega
  have e28 : (op == 28) = false := by rw [beq_eq_false_iff_ne]; omega
  have e30 : (op == 30) = false := by rw [beq_eq_false_iff_ne]; omega
  have e32 : (op == 32) = false := by rw [beq_eq_false_iff_ne]; omega
  have e29 : (op == 29) = false := by rw [beq_eq_false_iff_ne]; omega
  have e33 : (op == 33) = false := by rw [beq_eq_false_iff_ne]; omega
  have e43 : (op == 43) = false := by rw [beq_eq_false_iff_ne]; omega
  have e45 : (op == 45) = false := by rw [beq_eq_false_iff_ne]; omega
  have e46 : (op == 46) = false := by rw [beq_eq_false_iff_ne]; omega
  have e53 : (op == 53) = false := by rw [beq_eq_false_iff_ne]; omega
  have e31 : (op == 31) = false := by rw [beq_eq_false_iff_ne]; omega
  have l3 : decide (3 ≤ op) = true := by simp; omega
  have g3 : decide (op ≤ 10) = false := by simp; omega
  have l12 : decide (12 ≤ op) = true := by simp; omega
  have g12 : decide (op ≤ 17) = false := by simp; omega
  have l21 : decide (21 ≤ op) = true := by simp; omega
  have g21 : decide (op ≤ 25) = false := by simp; omega
  have l47 : decide (47 ≤ op) = false := by simp; omega
  have g47 : decide (op ≤ 50) = true := by simp; omega
  have l38 : decide (38 ≤ op) = true := by simp; omega
  have g38 : decide (op ≤ 42) = true := by simp; omega
  have O1 := Lib.hid (O9.start w a b)
  have H0 := Lib.hid h0
  have H1 := Lib.hid h1
  clear hlo hhi h0 h1
  unfold Opd.arg
  go_enter Try.func116, Try.ntmps116
  go_wp2_with (first | (have _t := O1; clear _t; go_at_call 182; refine (none9_any a _).mono ?_; rintro e w2 ⟨rfl, hu⟩; rw [H0.out]; have O2 := Lib.hid (O1.out.step hu); have ca := cells_of O2.out.a; have cb := cells_of O2.out.b; clear hu O1) | (have _t := O2; clear _t; go_at_call 182; refine (none9_any b _).mono ?_; rintro e w3 ⟨rfl, hu⟩; rw [H1.out]; have O3 := Lib.hid (O2.out.step hu); clear ca cb; have ca := cells_of O3.out.a; have cb := cells_of O3.out.b; clear hu O2))
  go_ret
  exact ⟨rfl, O3.out.u⟩

set_option maxRecDepth 100000 in
set_option maxHeartbeats 1000000 in
theorem op9_13_1_2 (a b : Opd) (w : World) (op : Int) (hlo : 38 ≤ op) (hhi : op ≤ 42) (h0 : noneB a = false) : Calls Try.prog 116 #[.int .i64 op, a.arg, b.arg] w fun e w' => e = .returned (.bool false) ∧ Upd [] w w' := by
  have e1 : (op == 1) = false := by rw [beq_eq_false_iff_ne]; omega
  have e11 : (op == 11) = false := by rw [beq_eq_false_iff_ne]; omega
  have e2 : (op == 2) = false := by rw [beq_eq_false_iff_ne]; omega
  have e27 : (op == 27) = false := by rw [beq_eq_false_iff_ne]; omega
  have e19 : (op == 19) = false := by rw [beq_eq_false_iff_ne]; omega
  have e20 : (op == 20) = false := by rw [beq_eq_false_iff_ne]; omega
  have e34 : (op == 34) = false := by rw [beq_eq_false_iff_ne]; omega
  have e18 : (op == 18) = false := by rw [beq_eq_false_iff_ne]; omega
  have e35 : (op == 35) = false := by rw [beq_eq_false_iff_ne]; omega
  have e36 : (op == 36) = false := by rw [beq_eq_false_iff_ne]; omega
  have e37 : (op == 37) = false := by rw [beq_eq_false_iff_ne]; omega
  have e26 : (op == 26) = false := by rw [beq_eq_false_iff_ne]; omega
  have e28 : (op == 28) = false := by rw [beq_eq_false_iff_ne]; omega
  have e30 : (op == 30) = false := by rw [beq_eq_false_iff_ne]; omega
  have e32 : (op == 32) = false := by rw [beq_eq_false_iff_ne]; omega
  have e29 : (op == 29) = false := by rw [beq_eq_false_iff_ne]; omega
  have e33 : (op == 33) = false := by rw [beq_eq_false_iff_ne]; omega
  have e43 : (op == 43) = false := by rw [beq_eq_false_iff_ne]; omega
  have e45 : (op == 45) = false := by rw [beq_eq_false_iff_ne]; omega
  have e46 : (op == 46) = false := by rw [beq_eq_false_iff_ne]; omega
  have e53 : (op == 53) = false := by rw [beq_eq_false_iff_ne]; omega
  have e31 : (op == 31) = false := by rw [beq_eq_false_iff_ne]; omega
  have l3 : decide (3 ≤ op) = true := by simp; omega
  have g3 : decide (op ≤ 10) = false := by simp; omega
  have l12 : decide (12 ≤ op) = true := by simp; omega
  have g12 : decide (op ≤ 17) = false := by simp; omega
  have l21 : decide (21 ≤ op) = true := by simp; omega
  have g21 : decide (op ≤ 25) = false := by simp; omega
  have l47 : decide (47 ≤ op) = false := by simp; omega
  have g47 : decide (op ≤ 50) = true := by simp; omega
  have l38 : decide (38 ≤ op) = true := by simp; omega
  have g38 : decide (op ≤ 42) = true := by simp; omega
  have O1 := Lib.hid (O9.start w a b)
  have H0 := Lib.hid h0
  clear hlo hhi h0
  unfold Opd.arg
  go_enter Try.func116, Try.ntmps116
  go_wp2_with (have _t := O1; clear _t; go_at_call 182; refine (none9_any a _).mono ?_; rintro e w2 ⟨rfl, hu⟩; rw [H0.out]; have O2 := Lib.hid (O1.out.step hu); have ca := cells_of O2.out.a; have cb := cells_of O2.out.b; clear hu O1)
  go_ret
  exact ⟨rfl, O2.out.u⟩

set_option maxRecDepth 100000 in
set_option maxHeartbeats 1000000 in
theorem op9_13_2_0 (a b : Opd) (w : World) (h0 : noneB a = true) (h1 : noneB b = true) : Calls Try.prog 116 #[.int .i64 44, a.arg, b.arg] w fun e w' => e = .returned (.bool true) ∧ Upd [] w w' := by
  have O1 := Lib.hid (O9.start w a b)
  have H0 := Lib.hid h0
  have H1 := Lib.hid h1
  clear h0 h1
  unfold Opd.arg
  go_enter Try.func116, Try.ntmps116
  go_wp2_with (first | (have _t := O1; clear _t; go_at_call 182; refine (none9_any a _).mono ?_; rintro e w2 ⟨rfl, hu⟩; rw [H0.out]; have O2 := Lib.hid (O1.out.step hu); have ca := cells_of O2.out.a; have cb := cells_of O2.out.b; clear hu O1) | (have _t := O2; clear _t; go_at_call 182; refine (none9_any b _).mono ?_; rintro e w3 ⟨rfl, hu⟩; rw [H1.out]; have O3 := Lib.hid (O2.out.step hu); clear ca cb; have ca := cells_of O3.out.a; have cb := cells_of O3.out.b; clear hu O2))
  go_ret
  exact ⟨rfl, O3.out.u⟩

set_option maxRecDepth 100000 in
set_option maxHeartbeats 1000000 in
theorem op9_13_2_1 (a b : Opd) (w : World) (h0 : noneB a = true) (h1 : noneB b = false) : Calls Try.prog 116 #[.int .i64 44, a.arg, b.arg] w fun e w' => e = .returned (.bool false) ∧ Upd [] w w' := by
  have O1 := Lib.hid (O9.start w a b)
  have H0 := Lib.hid h0
  have H1 := Lib.hid h1
  clear h0 h1
  unfold Opd.arg
  go_enter Try.func116, Try.ntmps116
  go_wp2_with (first | (have _t := O1; clear _t; go_at_call 182; refine (none9_any a _).mono ?_; rintro e w2 ⟨rfl, hu⟩; rw [H0.out]; have O2 := Lib.hid (O1.out.step hu); have ca := cells_of O2.out.a; have cb := cells_of O2.out.b; clear hu O1) | (have _t := O2; clear _t; go_at_call 182; refine (none9_any b _).mono ?_; rintro e w3 ⟨rfl, hu⟩; rw [H1.out]; have O3 := Lib.hid (O2.out.step hu); clear ca cb; have ca := cells_of O3.out.a; have cb := cells_of O3.out.b; clear hu O2))
  go_ret
  exact ⟨rfl, O3.out.u⟩

set_option maxRecDepth 100000 in
set_option maxHeartbeats 1000000 in
theorem op9_13_2_2 (a b : Opd) (w : World) (h0 : noneB a = false) : Calls Try.prog 116 #[.int .i64 44, a.arg, b.arg] w fun e w' => e = .returned (.bool false) ∧ Upd [] w w' := by
  have O1 := Lib.hid (O9.start w a b)
  have H0 := Lib.hid h0
  clear h0
  unfold Opd.arg
  go_enter Try.func116, Try.ntmps116
  go_wp2_with (have _t := O1; clear _t; go_at_call 182; refine (none9_any a _).mono ?_; rintro e w2 ⟨rfl, hu⟩; rw [H0.out]; have O2 := Lib.hid (O1.out.step hu); have ca := cells_of O2.out.a; have cb := cells_of O2.out.b; clear hu O1)
  go_ret
  exact ⟨rfl, O2.out.u⟩

set_option maxRecDepth 100000 in
set_option maxHeartbeats 1000000 in
theorem op9_13_3_0 (a b : Opd) (w : World) (h0 : noneB a = true) (h1 : noneB b = true) : Calls Try.prog 116 #[.int .i64 51, a.arg, b.arg] w fun e w' => e = .returned (.bool true) ∧ Upd [] w w' := by
  have O1 := Lib.hid (O9.start w a b)
  have H0 := Lib.hid h0
  have H1 := Lib.hid h1
  clear h0 h1
  unfold Opd.arg
  go_enter Try.func116, Try.ntmps116
  go_wp2_with (first | (have _t := O1; clear _t; go_at_call 182; refine (none9_any a _).mono ?_; rintro e w2 ⟨rfl, hu⟩; rw [H0.out]; have O2 := Lib.hid (O1.out.step hu); have ca := cells_of O2.out.a; have cb := cells_of O2.out.b; clear hu O1) | (have _t := O2; clear _t; go_at_call 182; refine (none9_any b _).mono ?_; rintro e w3 ⟨rfl, hu⟩; rw [H1.out]; have O3 := Lib.hid (O2.out.step hu); clear ca cb; have ca := cells_of O3.out.a; have cb := cells_of O3.out.b; clear hu O2))
  go_ret
  exact ⟨rfl, O3.out.u⟩

set_option maxRecDepth 100000 in
set_option maxHeartbeats 1000000 in
theorem op9_13_3_1 (a b : Opd) (w : World) (h0 : noneB a = true) (h1 : noneB b = false) : Calls Try.prog 116 #[.int .i64 51, a.arg, b.arg] w fun e w' => e = .returned (.bool false) ∧ Upd [] w w' := by
  have O1 := Lib.hid (O9.start w a b)
  have H0 := Lib.hid h0
  have H1 := Lib.hid h1
  clear h0 h1
  unfold Opd.arg
  go_enter Try.func116, Try.ntmps116
  go_wp2_with (first | (have _t := O1; clear _t; go_at_call 182; refine (none9_any a _).mono ?_; rintro e w2 ⟨rfl, hu⟩; rw [H0.out]; have O2 := Lib.hid (O1.out.step hu); have ca := cells_of O2.out.a; have cb := cells_of O2.out.b; clear hu O1) | (have _t := O2; clear _t; go_at_call 182; refine (none9_any b _).mono ?_; rintro e w3 ⟨rfl, hu⟩; rw [H1.out]; have O3 := Lib.hid (O2.out.step hu); clear ca cb; have ca := cells_of O3.out.a; have cb := cells_of O3.out.b; clear hu O2))
  go_ret
  exact ⟨rfl, O3.out.u⟩

set_option maxRecDepth 100000 in
set_option maxHeartbeats 1000000 in
theorem op9_13_3_2 (a b : Opd) (w : World) (h0 : noneB a = false) : Calls Try.prog 116 #[.int .i64 51, a.arg, b.arg] w fun e w' => e = .returned (.bool false) ∧ Upd [] w w' := by
  have O1 := Lib.hid (O9.start w a b)
  have H0 := Lib.hid h0
  clear h0
  unfold Opd.arg
  go_enter Try.func116, Try.ntmps116
  go_wp2_with (have _t := O1; clear _t; go_at_call 182; refine (none9_any a _).mono ?_; rintro e w2 ⟨rfl, hu⟩; rw [H0.out]; have O2 := Lib.hid (O1.out.step hu); have ca := cells_of O2.out.a; have cb := cells_of O2.out.b; clear hu O1)
  go_ret
  exact ⟨rfl, O2.out.u⟩

set_option maxRecDepth 100000 in
set_option maxHeartbeats 1000000 in
theorem op9_13_4_0 (a b : Opd) (w : World) (h0 : noneB a = true) (h1 : noneB b = true) : Calls Try.prog 116 #[.int .i64 52, a.arg, b.arg] w fun e w' => e = .returned (.bool true) ∧ Upd [] w w' := by
  have O1 := Lib.hid (O9.start w a b)
  have H0 := Lib.hid h0
  have H1 := Lib.hid h1
  clear h0 h1
  unfold Opd.arg
  go_enter Try.func116, Try.ntmps116
  go_wp2_with (first | (have _t := O1; clear _t; go_at_call 182; refine (none9_any a _).mono ?_; rintro e w2 ⟨rfl, hu⟩; rw [H0.out]; have O2 := Lib.hid (O1.out.step hu); have ca := cells_of O2.out.a; have cb := cells_of O2.out.b; clear hu O1) | (have _t := O2; clear _t; go_at_call 182; refine (none9_any b _).mono ?_; rintro e w3 ⟨rfl, hu⟩; rw [H1.out]; have O3 := Lib.hid (O2.out.step hu); clear ca cb; have ca := cells_of O3.out.a; have cb := cells_of O3.out.b; clear hu O2))
  go_ret
  exact ⟨rfl, O3.out.u⟩

set_option maxRecDepth 100000 in
set_option maxHeartbeats 1000000 in
theorem op9_13_4_1 (a b : Opd) (w : World) (h0 : noneB a = true) (h1 : noneB b = false) : Calls Try.prog 116 #[.int .i64 52, a.arg, b.arg] w fun e w' => e = .returned (.bool false) ∧ Upd [] w w' := by
  have O1 := Lib.hid (O9.start w a b)
  have H0 := Lib.hid h0
  have H1 := Lib.hid h1
  clear h0 h1
  unfold Opd.arg
  go_enter Try.func116, Try.ntmps116
  go_wp2_with (first | (have _t := O1; clear _t; go_at_call 182; refine (none9_any a _).mono ?_; rintro e w2 ⟨rfl, hu⟩; rw [H0.out]; have O2 := Lib.hid (O1.out.step hu); have ca := cells_of O2.out.a; have cb := cells_of O2.out.b; clear hu O1) | (have _t := O2; clear _t; go_at_call 182; refine (none9_any b _).mono ?_; rintro e w3 ⟨rfl, hu⟩; rw [H1.out]; have O3 := Lib.hid (O2.out.step hu); clear ca cb; have ca := cells_of O3.out.a; have cb := cells_of O3.out.b; clear hu O2))
  go_ret
  exact ⟨rfl, O3.out.u⟩

set_option maxRecDepth 100000 in
set_option maxHeartbeats 1000000 in
theorem op9_13_4_2 (a b : Opd) (w : World) (h0 : noneB a = false) : Calls Try.prog 116 #[.int .i64 52, a.arg, b.arg] w fun e w' => e = .returned (.bool false) ∧ Upd [] w w' := by
  have O1 := Lib.hid (O9.start w a b)
  have H0 := Lib.hid h0
  clear h0
  unfold Opd.arg
  go_enter Try.func116, Try.ntmps116
  go_wp2_with (have _t := O1; clear _t; go_at_call 182; refine (none9_any a _).mono ?_; rintro e w2 ⟨rfl, hu⟩; rw [H0.out]; have O2 := Lib.hid (O1.out.step hu); have ca := cells_of O2.out.a; have cb := cells_of O2.out.b; clear hu O1)
  go_ret
  exact ⟨rfl, O2.out.u⟩

set_option maxRecDepth 100000 in
set_option maxHeartbeats 1000000 in
theorem op9_lo (a b : Opd) (w : World) (op : Int) (h : op ≤ 0) : Calls Try.prog 116 #[.int .i64 op, a.arg, b.arg] w fun e w' => e = .returned (.bool false) ∧ Upd [] w w' := by
  have e1 : (op == 1) = false := by rw [beq_eq_false_iff_ne]; omega
  have e11 : (op == 11) = false := by rw [beq_eq_false_iff_ne]; omega
  have e2 : (op == 2) = false := by rw [beq_eq_false_iff_ne]; omega
  have e27 : (op == 27) = false := by rw [beq_eq_false_iff_ne]; omega
  have e19 : (op == 19) = false := by rw [beq_eq_false_iff_ne]; omega
  have e20 : (op == 20) = false := by rw [beq_eq_false_iff_ne]; omega
  have e34 : (op == 34) = false := by rw [beq_eq_false_iff_ne]; omega
  have e18 : (op == 18) = false := by rw [beq_eq_false_iff_ne]; omega
  have e35 : (op == 35) = false := by rw [beq_eq_false_iff_ne]; omega
  have e36 : (op == 36) = false := by rw [beq_eq_false_iff_ne]; omega
  have e37 : (op == 37) = false := by rw [beq_eq_false_iff_ne]; omega
  have e26 : (op == 26) = false := by rw [beq_eq_false_iff_ne]; omega
  have e28 : (op == 28) = false := by rw [beq_eq_false_iff_ne]; omega
  have e30 : (op == 30) = false := by rw [beq_eq_false_iff_ne]; omega
  have e32 : (op == 32) = false := by rw [beq_eq_false_iff_ne]; omega
  have e29 : (op == 29) = false := by rw [beq_eq_false_iff_ne]; omega
  have e33 : (op == 33) = false := by rw [beq_eq_false_iff_ne]; omega
  have e43 : (op == 43) = false := by rw [beq_eq_false_iff_ne]; omega
  have e45 : (op == 45) = false := by rw [beq_eq_false_iff_ne]; omega
  have e46 : (op == 46) = false := by rw [beq_eq_false_iff_ne]; omega
  have e53 : (op == 53) = false := by rw [beq_eq_false_iff_ne]; omega
  have e31 : (op == 31) = false := by rw [beq_eq_false_iff_ne]; omega
  have e44 : (op == 44) = false := by rw [beq_eq_false_iff_ne]; omega
  have e51 : (op == 51) = false := by rw [beq_eq_false_iff_ne]; omega
  have e52 : (op == 52) = false := by rw [beq_eq_false_iff_ne]; omega
  have l3 : decide (3 ≤ op) = false := by simp; omega
  have g3 : decide (op ≤ 10) = true := by simp; omega
  have l12 : decide (12 ≤ op) = false := by simp; omega
  have g12 : decide (op ≤ 17) = true := by simp; omega
  have l21 : decide (21 ≤ op) = false := by simp; omega
  have g21 : decide (op ≤ 25) = true := by simp; omega
  have l47 : decide (47 ≤ op) = false := by simp; omega
  have g47 : decide (op ≤ 50) = true := by simp; omega
  have l38 : decide (38 ≤ op) = false := by simp; omega
  have g38 : decide (op ≤ 42) = true := by simp; omega
  clear h
  unfold Opd.arg
  go_enter Try.func116, Try.ntmps116
  go_wp2_with fail
  go_ret
  exact ⟨rfl, ((Upd.refl [] w).alloc _).alloc _⟩

set_option maxRecDepth 100000 in
set_option maxHeartbeats 1000000 in
theorem op9_hi (a b : Opd) (w : World) (op : Int) (h : 54 ≤ op) : Calls Try.prog 116 #[.int .i64 op, a.arg, b.arg] w fun e w' => e = .returned (.bool false) ∧ Upd [] w w' := by
  have e1 : (op == 1) = false := by rw [beq_eq_false_iff_ne]; omega
  have e11 : (op == 11) = false := by rw [beq_eq_false_iff_ne]; omega
  have e2 : (op == 2) = false := by rw [beq_eq_false_iff_ne]; omega
  have e27 : (op == 27) = false := by rw [beq_eq_false_iff_ne]; omega
  have e19 : (op == 19) = false := by rw [beq_eq_false_iff_ne]; omega
  have e20 : (op == 20) = false := by rw [beq_eq_false_iff_ne]; omega
  have e34 : (op == 34) = false := by rw [beq_eq_false_iff_ne]; omega
  have e18 : (op == 18) = false := by rw [beq_eq_false_iff_ne]; omega
  have e35 : (op == 35) = false := by rw [beq_eq_false_iff_ne]; omega
  have e36 : (op == 36) = false := by rw [beq_eq_false_iff_ne]; omega
  have e37 : (op == 37) = false := by rw [beq_eq_false_iff_ne]; omega
  have e26 : (op == 26) = false := by rw [beq_eq_false_iff_ne]; omega
  have e28 : (op == 28) = false := by rw [beq_eq_false_iff_ne]; omega
  have e30 : (op == 30) = false := by rw [beq_eq_false_iff_ne]; omega
  have e32 : (op == 32) = false := by rw [beq_eq_false_iff_ne]; omega
  have e29 : (op == 29) = false := by rw [beq_eq_false_iff_ne]; omega
  have e33 : (op == 33) = false := by rw [beq_eq_false_iff_ne]; omega
  have e43 : (op == 43) = false := by rw [beq_eq_false_iff_ne]; omega
  have e45 : (op == 45) = false := by rw [beq_eq_false_iff_ne]; omega
  have e46 : (op == 46) = false := by rw [beq_eq_false_iff_ne]; omega
  have e53 : (op == 53) = false := by rw [beq_eq_false_iff_ne]; omega
  have e31 : (op == 31) = false := by rw [beq_eq_false_iff_ne]; omega
  have e44 : (op == 44) = false := by rw [beq_eq_false_iff_ne]; omega
  have e51 : (op == 51) = false := by rw [beq_eq_false_iff_ne]; omega
  have e52 : (op == 52) = false := by rw [beq_eq_false_iff_ne]; omega
  have l3 : decide (3 ≤ op) = true := by simp; omega
  have g3 : decide (op ≤ 10) = false := by simp; omega
  have l12 : decide (12 ≤ op) = true := by simp; omega
  have g12 : decide (op ≤ 17) = false := by simp; omega
  have l21 : decide (21 ≤ op) = true := by simp; omega
  have g21 : decide (op ≤ 25) = false := by simp; omega
  have l47 : decide (47 ≤ op) = true := by simp; omega
  have g47 : decide (op ≤ 50) = false := by simp; omega
  have l38 : decide (38 ≤ op) = true := by simp; omega
  have g38 : decide (op ≤ 42) = false := by simp; omega
  clear h
  unfold Opd.arg
  go_enter Try.func116, Try.ntmps116
  go_wp2_with fail
  go_ret
  exact ⟨rfl, ((Upd.refl [] w).alloc _).alloc _⟩

end Go.Proofs.Ytoplekfnghkkdaa
