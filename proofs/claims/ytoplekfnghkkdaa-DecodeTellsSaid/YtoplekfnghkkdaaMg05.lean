/-
  The document's instructions in Go: operands, by its contract. No condition.
-/
import Derived.Test.YtoplekfnghkkdaaMg04
import Derived.Test.YtoplekfnghkkdaaMg02
namespace Go.Proofs.Ytoplekfnghkkdaa
open Go Go.RowKit
set_option linter.unusedVariables false
set_option linter.unusedSimpArgs false

theorem operands9_any (op : Int) (a b : Opd) (w : World) : Calls Try.prog 116 #[.int .i64 op, a.arg, b.arg] w fun e w' => e = .returned (.bool (operandsB op a b)) ∧ Upd [] w w' := by
  by_cases hlo : op ≤ 0
  · rw [show operandsB op a b = false from by unfold operandsB; repeat' rw [if_neg (by omega)]]
    exact op9_lo a b w op hlo
  by_cases hhi : 54 ≤ op
  · rw [show operandsB op a b = false from by unfold operandsB; repeat' rw [if_neg (by omega)]]
    exact op9_hi a b w op hhi
  by_cases c0_0 : op = 1
  · rw [show operandsB op a b = ((rmB a && ((isRegB b || isImmB b) || (isRegB a && isMemB b)))) from by unfold operandsB; rw [if_pos (by omega)]]
    subst c0_0
    cases h0 : rmB a
    · exact op9_0_0_5 a b w h0
    · cases h1 : isRegB b
      · cases h2 : isImmB b
        · cases h3 : isRegB a
          · exact op9_0_0_4 a b w h0 h1 h2 h3
          · cases h4 : isMemB b
            · exact op9_0_0_3 a b w h0 h1 h2 h3 h4
            · exact op9_0_0_2 a b w h0 h1 h2 h3 h4
        · exact op9_0_0_1 a b w h0 h1 h2
      · exact op9_0_0_0 a b w h0 h1
  by_cases c0_1 : 3 ≤ op ∧ op ≤ 10
  · rw [show operandsB op a b = ((rmB a && ((isRegB b || isImmB b) || (isRegB a && isMemB b)))) from by unfold operandsB; rw [if_pos (by omega)]]
    cases h0 : rmB a
    · exact op9_0_1_5 a b w op c0_1.1 c0_1.2 h0
    · cases h1 : isRegB b
      · cases h2 : isImmB b
        · cases h3 : isRegB a
          · exact op9_0_1_4 a b w op c0_1.1 c0_1.2 h0 h1 h2 h3
          · cases h4 : isMemB b
            · exact op9_0_1_3 a b w op c0_1.1 c0_1.2 h0 h1 h2 h3 h4
            · exact op9_0_1_2 a b w op c0_1.1 c0_1.2 h0 h1 h2 h3 h4
        · exact op9_0_1_1 a b w op c0_1.1 c0_1.2 h0 h1 h2
      · exact op9_0_1_0 a b w op c0_1.1 c0_1.2 h0 h1
  by_cases c1_0 : op = 11
  · rw [show operandsB op a b = ((rmB a && (isRegB b || isImmB b))) from by unfold operandsB; rw [if_neg (by omega), if_pos (by omega)]]
    subst c1_0
    cases h0 : rmB a
    · exact op9_1_0_3 a b w h0
    · cases h1 : isRegB b
      · cases h2 : isImmB b
        · exact op9_1_0_2 a b w h0 h1 h2
        · exact op9_1_0_1 a b w h0 h1 h2
      · exact op9_1_0_0 a b w h0 h1
  by_cases c2_0 : op = 2
  · rw [show operandsB op a b = ((rmB a && ((isRegB b || byteImmB b) || (isRegB a && isMemB b)))) from by unfold operandsB; rw [if_neg (by omega), if_neg (by omega), if_pos (by omega)]]
    subst c2_0
    cases h0 : rmB a
    · exact op9_2_0_5 a b w h0
    · cases h1 : isRegB b
      · cases h2 : byteImmB b
        · cases h3 : isRegB a
          · exact op9_2_0_4 a b w h0 h1 h2 h3
          · cases h4 : isMemB b
            · exact op9_2_0_3 a b w h0 h1 h2 h3 h4
            · exact op9_2_0_2 a b w h0 h1 h2 h3 h4
        · exact op9_2_0_1 a b w h0 h1 h2
      · exact op9_2_0_0 a b w h0 h1
  by_cases c3_0 : op = 27
  · rw [show operandsB op a b = ((rmB a && isRegB b)) from by unfold operandsB; rw [if_neg (by omega), if_neg (by omega), if_neg (by omega), if_pos (by omega)]]
    subst c3_0
    cases h0 : rmB a
    · exact op9_3_0_2 a b w h0
    · cases h1 : isRegB b
      · exact op9_3_0_1 a b w h0 h1
      · exact op9_3_0_0 a b w h0 h1
  by_cases c4_0 : 12 ≤ op ∧ op ≤ 17
  · rw [show operandsB op a b = ((rmB a && noneB b)) from by unfold operandsB; rw [if_neg (by omega), if_neg (by omega), if_neg (by omega), if_neg (by omega), if_pos (by omega)]]
    cases h0 : rmB a
    · exact op9_4_0_2 a b w op c4_0.1 c4_0.2 h0
    · cases h1 : noneB b
      · exact op9_4_0_1 a b w op c4_0.1 c4_0.2 h0 h1
      · exact op9_4_0_0 a b w op c4_0.1 c4_0.2 h0 h1
  by_cases c4_1 : op = 19
  · rw [show operandsB op a b = ((rmB a && noneB b)) from by unfold operandsB; rw [if_neg (by omega), if_neg (by omega), if_neg (by omega), if_neg (by omega), if_pos (by omega)]]
    subst c4_1
    cases h0 : rmB a
    · exact op9_4_1_2 a b w h0
    · cases h1 : noneB b
      · exact op9_4_1_1 a b w h0 h1
      · exact op9_4_1_0 a b w h0 h1
  by_cases c4_2 : op = 20
  · rw [show operandsB op a b = ((rmB a && noneB b)) from by unfold operandsB; rw [if_neg (by omega), if_neg (by omega), if_neg (by omega), if_neg (by omega), if_pos (by omega)]]
    subst c4_2
    cases h0 : rmB a
    · exact op9_4_2_2 a b w h0
    · cases h1 : noneB b
      · exact op9_4_2_1 a b w h0 h1
      · exact op9_4_2_0 a b w h0 h1
  by_cases c4_3 : op = 34
  · rw [show operandsB op a b = ((rmB a && noneB b)) from by unfold operandsB; rw [if_neg (by omega), if_neg (by omega), if_neg (by omega), if_neg (by omega), if_pos (by omega)]]
    subst c4_3
    cases h0 : rmB a
    · exact op9_4_3_2 a b w h0
    · cases h1 : noneB b
      · exact op9_4_3_1 a b w h0 h1
      · exact op9_4_3_0 a b w h0 h1
  by_cases c5_0 : op = 18
  · rw [show operandsB op a b = ((isRegB a && rmB b)) from by unfold operandsB; rw [if_neg (by omega), if_neg (by omega), if_neg (by omega), if_neg (by omega), if_neg (by omega), if_pos (by omega)]]
    subst c5_0
    cases h0 : isRegB a
    · exact op9_5_0_2 a b w h0
    · cases h1 : rmB b
      · exact op9_5_0_1 a b w h0 h1
      · exact op9_5_0_0 a b w h0 h1
  by_cases c5_1 : op = 35
  · rw [show operandsB op a b = ((isRegB a && rmB b)) from by unfold operandsB; rw [if_neg (by omega), if_neg (by omega), if_neg (by omega), if_neg (by omega), if_neg (by omega), if_pos (by omega)]]
    subst c5_1
    cases h0 : isRegB a
    · exact op9_5_1_2 a b w h0
    · cases h1 : rmB b
      · exact op9_5_1_1 a b w h0 h1
      · exact op9_5_1_0 a b w h0 h1
  by_cases c5_2 : op = 36
  · rw [show operandsB op a b = ((isRegB a && rmB b)) from by unfold operandsB; rw [if_neg (by omega), if_neg (by omega), if_neg (by omega), if_neg (by omega), if_neg (by omega), if_pos (by omega)]]
    subst c5_2
    cases h0 : isRegB a
    · exact op9_5_2_2 a b w h0
    · cases h1 : rmB b
      · exact op9_5_2_1 a b w h0 h1
      · exact op9_5_2_0 a b w h0 h1
  by_cases c5_3 : op = 37
  · rw [show operandsB op a b = ((isRegB a && rmB b)) from by unfold operandsB; rw [if_neg (by omega), if_neg (by omega), if_neg (by omega), if_neg (by omega), if_neg (by omega), if_pos (by omega)]]
    subst c5_3
    cases h0 : isRegB a
    · exact op9_5_3_2 a b w h0
    · cases h1 : rmB b
      · exact op9_5_3_1 a b w h0 h1
      · exact op9_5_3_0 a b w h0 h1
  by_cases c6_0 : 21 ≤ op ∧ op ≤ 25
  · rw [show operandsB op a b = ((rmB a && (byteImmB b || (isRegB b && (b.r == 1))))) from by unfold operandsB; rw [if_neg (by omega), if_neg (by omega), if_neg (by omega), if_neg (by omega), if_neg (by omega), if_neg (by omega), if_pos (by omega)]]
    cases h0 : rmB a
    · exact op9_6_0_4 a b w op c6_0.1 c6_0.2 h0
    · cases h1 : byteImmB b
      · cases h2 : isRegB b
        · exact op9_6_0_3 a b w op c6_0.1 c6_0.2 h0 h1 h2
        · cases h3 : (b.r == 1)
          · exact op9_6_0_2 a b w op c6_0.1 c6_0.2 h0 h1 h2 h3
          · exact op9_6_0_1 a b w op c6_0.1 c6_0.2 h0 h1 h2 h3
      · exact op9_6_0_0 a b w op c6_0.1 c6_0.2 h0 h1
  by_cases c7_0 : op = 26
  · rw [show operandsB op a b = ((isRegB a && isMemB b)) from by unfold operandsB; rw [if_neg (by omega), if_neg (by omega), if_neg (by omega), if_neg (by omega), if_neg (by omega), if_neg (by omega), if_neg (by omega), if_pos (by omega)]]
    subst c7_0
    cases h0 : isRegB a
    · exact op9_7_0_2 a b w h0
    · cases h1 : isMemB b
      · exact op9_7_0_1 a b w h0 h1
      · exact op9_7_0_0 a b w h0 h1
  by_cases c8_0 : op = 28
  · rw [show operandsB op a b = (((rmB a || isImmB a) && noneB b)) from by unfold operandsB; rw [if_neg (by omega), if_neg (by omega), if_neg (by omega), if_neg (by omega), if_neg (by omega), if_neg (by omega), if_neg (by omega), if_neg (by omega), if_pos (by omega)]]
    subst c8_0
    cases h0 : rmB a
    · cases h1 : isImmB a
      · exact op9_8_0_4 a b w h0 h1
      · cases h2 : noneB b
        · exact op9_8_0_3 a b w h0 h1 h2
        · exact op9_8_0_2 a b w h0 h1 h2
    · cases h1 : noneB b
      · exact op9_8_0_1 a b w h0 h1
      · exact op9_8_0_0 a b w h0 h1
  by_cases c8_1 : op = 30
  · rw [show operandsB op a b = (((rmB a || isImmB a) && noneB b)) from by unfold operandsB; rw [if_neg (by omega), if_neg (by omega), if_neg (by omega), if_neg (by omega), if_neg (by omega), if_neg (by omega), if_neg (by omega), if_neg (by omega), if_pos (by omega)]]
    subst c8_1
    cases h0 : rmB a
    · cases h1 : isImmB a
      · exact op9_8_1_4 a b w h0 h1
      · cases h2 : noneB b
        · exact op9_8_1_3 a b w h0 h1 h2
        · exact op9_8_1_2 a b w h0 h1 h2
    · cases h1 : noneB b
      · exact op9_8_1_1 a b w h0 h1
      · exact op9_8_1_0 a b w h0 h1
  by_cases c8_2 : op = 32
  · rw [show operandsB op a b = (((rmB a || isImmB a) && noneB b)) from by unfold operandsB; rw [if_neg (by omega), if_neg (by omega), if_neg (by omega), if_neg (by omega), if_neg (by omega), if_neg (by omega), if_neg (by omega), if_neg (by omega), if_pos (by omega)]]
    subst c8_2
    cases h0 : rmB a
    · cases h1 : isImmB a
      · exact op9_8_2_4 a b w h0 h1
      · cases h2 : noneB b
        · exact op9_8_2_3 a b w h0 h1 h2
        · exact op9_8_2_2 a b w h0 h1 h2
    · cases h1 : noneB b
      · exact op9_8_2_1 a b w h0 h1
      · exact op9_8_2_0 a b w h0 h1
  by_cases c9_0 : op = 29
  · rw [show operandsB op a b = ((isRegB a && noneB b)) from by unfold operandsB; rw [if_neg (by omega), if_neg (by omega), if_neg (by omega), if_neg (by omega), if_neg (by omega), if_neg (by omega), if_neg (by omega), if_neg (by omega), if_neg (by omega), if_pos (by omega)]]
    subst c9_0
    cases h0 : isRegB a
    · exact op9_9_0_2 a b w h0
    · cases h1 : noneB b
      · exact op9_9_0_1 a b w h0 h1
      · exact op9_9_0_0 a b w h0 h1
  by_cases c10_0 : op = 33
  · rw [show operandsB op a b = ((isImmB a && noneB b)) from by unfold operandsB; rw [if_neg (by omega), if_neg (by omega), if_neg (by omega), if_neg (by omega), if_neg (by omega), if_neg (by omega), if_neg (by omega), if_neg (by omega), if_neg (by omega), if_neg (by omega), if_pos (by omega)]]
    subst c10_0
    cases h0 : isImmB a
    · exact op9_10_0_2 a b w h0
    · cases h1 : noneB b
      · exact op9_10_0_1 a b w h0 h1
      · exact op9_10_0_0 a b w h0 h1
  by_cases c11_0 : op = 43
  · rw [show operandsB op a b = (((isImmB a && (a.imm == 128)) && noneB b)) from by unfold operandsB; rw [if_neg (by omega), if_neg (by omega), if_neg (by omega), if_neg (by omega), if_neg (by omega), if_neg (by omega), if_neg (by omega), if_neg (by omega), if_neg (by omega), if_neg (by omega), if_neg (by omega), if_pos (by omega)]]
    subst c11_0
    cases h0 : isImmB a
    · exact op9_11_0_3 a b w h0
    · cases h1 : (a.imm == 128)
      · exact op9_11_0_2 a b w h0 h1
      · cases h2 : noneB b
        · exact op9_11_0_1 a b w h0 h1 h2
        · exact op9_11_0_0 a b w h0 h1 h2
  by_cases c12_0 : op = 45
  · rw [show operandsB op a b = ((isMemB a && noneB b)) from by unfold operandsB; rw [if_neg (by omega), if_neg (by omega), if_neg (by omega), if_neg (by omega), if_neg (by omega), if_neg (by omega), if_neg (by omega), if_neg (by omega), if_neg (by omega), if_neg (by omega), if_neg (by omega), if_neg (by omega), if_pos (by omega)]]
    subst c12_0
    cases h0 : isMemB a
    · exact op9_12_0_2 a b w h0
    · cases h1 : noneB b
      · exact op9_12_0_1 a b w h0 h1
      · exact op9_12_0_0 a b w h0 h1
  by_cases c12_1 : op = 46
  · rw [show operandsB op a b = ((isMemB a && noneB b)) from by unfold operandsB; rw [if_neg (by omega), if_neg (by omega), if_neg (by omega), if_neg (by omega), if_neg (by omega), if_neg (by omega), if_neg (by omega), if_neg (by omega), if_neg (by omega), if_neg (by omega), if_neg (by omega), if_neg (by omega), if_pos (by omega)]]
    subst c12_1
    cases h0 : isMemB a
    · exact op9_12_1_2 a b w h0
    · cases h1 : noneB b
      · exact op9_12_1_1 a b w h0 h1
      · exact op9_12_1_0 a b w h0 h1
  by_cases c12_2 : 47 ≤ op ∧ op ≤ 50
  · rw [show operandsB op a b = ((isMemB a && noneB b)) from by unfold operandsB; rw [if_neg (by omega), if_neg (by omega), if_neg (by omega), if_neg (by omega), if_neg (by omega), if_neg (by omega), if_neg (by omega), if_neg (by omega), if_neg (by omega), if_neg (by omega), if_neg (by omega), if_neg (by omega), if_pos (by omega)]]
    cases h0 : isMemB a
    · exact op9_12_2_2 a b w op c12_2.1 c12_2.2 h0
    · cases h1 : noneB b
      · exact op9_12_2_1 a b w op c12_2.1 c12_2.2 h0 h1
      · exact op9_12_2_0 a b w op c12_2.1 c12_2.2 h0 h1
  by_cases c12_3 : op = 53
  · rw [show operandsB op a b = ((isMemB a && noneB b)) from by unfold operandsB; rw [if_neg (by omega), if_neg (by omega), if_neg (by omega), if_neg (by omega), if_neg (by omega), if_neg (by omega), if_neg (by omega), if_neg (by omega), if_neg (by omega), if_neg (by omega), if_neg (by omega), if_neg (by omega), if_pos (by omega)]]
    subst c12_3
    cases h0 : isMemB a
    · exact op9_12_3_2 a b w h0
    · cases h1 : noneB b
      · exact op9_12_3_1 a b w h0 h1
      · exact op9_12_3_0 a b w h0 h1
  by_cases c13_0 : op = 31
  · rw [show operandsB op a b = ((noneB a && noneB b)) from by unfold operandsB; rw [if_neg (by omega), if_neg (by omega), if_neg (by omega), if_neg (by omega), if_neg (by omega), if_neg (by omega), if_neg (by omega), if_neg (by omega), if_neg (by omega), if_neg (by omega), if_neg (by omega), if_neg (by omega), if_neg (by omega), if_pos (by omega)]]
    subst c13_0
    cases h0 : noneB a
    · exact op9_13_0_2 a b w h0
    · cases h1 : noneB b
      · exact op9_13_0_1 a b w h0 h1
      · exact op9_13_0_0 a b w h0 h1
  by_cases c13_1 : 38 ≤ op ∧ op ≤ 42
  · rw [show operandsB op a b = ((noneB a && noneB b)) from by unfold operandsB; rw [if_neg (by omega), if_neg (by omega), if_neg (by omega), if_neg (by omega), if_neg (by omega), if_neg (by omega), if_neg (by omega), if_neg (by omega), if_neg (by omega), if_neg (by omega), if_neg (by omega), if_neg (by omega), if_neg (by omega), if_pos (by omega)]]
    cases h0 : noneB a
    · exact op9_13_1_2 a b w op c13_1.1 c13_1.2 h0
    · cases h1 : noneB b
      · exact op9_13_1_1 a b w op c13_1.1 c13_1.2 h0 h1
      · exact op9_13_1_0 a b w op c13_1.1 c13_1.2 h0 h1
  by_cases c13_2 : op = 44
  · rw [show operandsB op a b = ((noneB a && noneB b)) from by unfold operandsB; rw [if_neg (by omega), if_neg (by omega), if_neg (by omega), if_neg (by omega), if_neg (by omega), if_neg (by omega), if_neg (by omega), if_neg (by omega), if_neg (by omega), if_neg (by omega), if_neg (by omega), if_neg (by omega), if_neg (by omega), if_pos (by omega)]]
    subst c13_2
    cases h0 : noneB a
    · exact op9_13_2_2 a b w h0
    · cases h1 : noneB b
      · exact op9_13_2_1 a b w h0 h1
      · exact op9_13_2_0 a b w h0 h1
  by_cases c13_3 : op = 51
  · rw [show operandsB op a b = ((noneB a && noneB b)) from by unfold operandsB; rw [if_neg (by omega), if_neg (by omega), if_neg (by omega), if_neg (by omega), if_neg (by omega), if_neg (by omega), if_neg (by omega), if_neg (by omega), if_neg (by omega), if_neg (by omega), if_neg (by omega), if_neg (by omega), if_neg (by omega), if_pos (by omega)]]
    subst c13_3
    cases h0 : noneB a
    · exact op9_13_3_2 a b w h0
    · cases h1 : noneB b
      · exact op9_13_3_1 a b w h0 h1
      · exact op9_13_3_0 a b w h0 h1
  by_cases c13_4 : op = 52
  · rw [show operandsB op a b = ((noneB a && noneB b)) from by unfold operandsB; rw [if_neg (by omega), if_neg (by omega), if_neg (by omega), if_neg (by omega), if_neg (by omega), if_neg (by omega), if_neg (by omega), if_neg (by omega), if_neg (by omega), if_neg (by omega), if_neg (by omega), if_neg (by omega), if_neg (by omega), if_pos (by omega)]]
    subst c13_4
    cases h0 : noneB a
    · exact op9_13_4_2 a b w h0
    · cases h1 : noneB b
      · exact op9_13_4_1 a b w h0 h1
      · exact op9_13_4_0 a b w h0 h1
  exfalso
  omega

end Go.Proofs.Ytoplekfnghkkdaa

/-
  The document's instructions in Go: Is, by its contract. No condition.
-/
namespace Go.Proofs.Ytoplekfnghkkdaa
open Go Go.RowKit
set_option linter.unusedVariables false
set_option linter.unusedSimpArgs false

def Ins.arg (i : Ins) : Value := .agg #[.int .i64 i.op, .int .i64 i.cond,
  .int .i64 i.a.k, .int .i64 i.a.r, .int .u32 i.a.imm, .int .i64 i.a.b, .int .i64 i.a.x, .int .u32 i.a.sc,
  .int .i64 i.b.k, .int .i64 i.b.r, .int .u32 i.b.imm, .int .i64 i.b.b, .int .i64 i.b.x, .int .u32 i.b.sc,
  .bool i.rep, .int .i64 i.len]

set_option maxRecDepth 100000 in
set_option maxHeartbeats 1000000 in
theorem is9_l1 (op cond len : Int) (a b : Opd) (w : World) (rep : Bool) (h : len < 0) :
    Calls Try.prog 54 #[.agg #[.int .i64 op, .int .i64 cond, .int .i64 a.k, .int .i64 a.r, .int .u32 a.imm, .int .i64 a.b, .int .i64 a.x, .int .u32 a.sc, .int .i64 b.k, .int .i64 b.r, .int .u32 b.imm, .int .i64 b.b, .int .i64 b.x, .int .u32 b.sc, .bool rep, .int .i64 len]] w fun e w' => e = .returned (.bool false) ∧ Upd [] w w' := by
  have q1 : decide (len < 0) = true := by simp; omega
  clear h
  go_enter Try.func54, Try.ntmps54
  go_wp2_with fail
  go_ret
  exact ⟨rfl, (Upd.refl _ _).alloc _⟩

set_option maxRecDepth 100000 in
set_option maxHeartbeats 1000000 in
theorem is9_l2 (op cond len : Int) (a b : Opd) (w : World) (rep : Bool) (h : 15 < len) :
    Calls Try.prog 54 #[.agg #[.int .i64 op, .int .i64 cond, .int .i64 a.k, .int .i64 a.r, .int .u32 a.imm, .int .i64 a.b, .int .i64 a.x, .int .u32 a.sc, .int .i64 b.k, .int .i64 b.r, .int .u32 b.imm, .int .i64 b.b, .int .i64 b.x, .int .u32 b.sc, .bool rep, .int .i64 len]] w fun e w' => e = .returned (.bool false) ∧ Upd [] w w' := by
  have q1 : decide (len < 0) = false := by simp; omega
  have q2 : decide (15 < len) = true := by simp; omega
  clear h
  go_enter Try.func54, Try.ntmps54
  go_wp2_with fail
  go_ret
  exact ⟨rfl, (Upd.refl _ _).alloc _⟩

set_option maxRecDepth 100000 in
set_option maxHeartbeats 1000000 in
theorem is9_l3 (op cond len : Int) (a b : Opd) (w : World) (h : 0 ≤ len ∧ len ≤ 15) (h1 : op ≠ 41) (h2 : op ≠ 42) :
    Calls Try.prog 54 #[.agg #[.int .i64 op, .int .i64 cond, .int .i64 a.k, .int .i64 a.r, .int .u32 a.imm, .int .i64 a.b, .int .i64 a.x, .int .u32 a.sc, .int .i64 b.k, .int .i64 b.r, .int .u32 b.imm, .int .i64 b.b, .int .i64 b.x, .int .u32 b.sc, .bool true, .int .i64 len]] w fun e w' => e = .returned (.bool false) ∧ Upd [] w w' := by
  have q1 : decide (len < 0) = false := by simp; omega
  have q2 : decide (15 < len) = false := by simp; omega
  have q3 : (op != 41) = true := by simp; omega
  have q4 : (op != 42) = true := by simp; omega
  clear h h1 h2
  go_enter Try.func54, Try.ntmps54
  go_wp2_with fail
  go_ret
  exact ⟨rfl, (Upd.refl _ _).alloc _⟩

set_option maxRecDepth 100000 in
set_option maxHeartbeats 1000000 in
theorem is9_nc1 (op cond len : Int) (a b : Opd) (w : World) (h : 0 ≤ len ∧ len ≤ 15) (hc : cond < 0) :
    Calls Try.prog 54 #[.agg #[.int .i64 op, .int .i64 cond, .int .i64 a.k, .int .i64 a.r, .int .u32 a.imm, .int .i64 a.b, .int .i64 a.x, .int .u32 a.sc, .int .i64 b.k, .int .i64 b.r, .int .u32 b.imm, .int .i64 b.b, .int .i64 b.x, .int .u32 b.sc, .bool false, .int .i64 len]] w fun e w' => e = .returned (.bool false) ∧ Upd [] w w' := by
  have q1 : decide (len < 0) = false := by simp; omega
  have q2 : decide (15 < len) = false := by simp; omega
  have q3 : decide (cond < 0) = true := by simp; omega
  clear h hc
  go_enter Try.func54, Try.ntmps54
  go_wp2_with fail
  go_ret
  exact ⟨rfl, (Upd.refl _ _).alloc _⟩

set_option maxRecDepth 100000 in
set_option maxHeartbeats 1000000 in
theorem is9_nc2 (op cond len : Int) (a b : Opd) (w : World) (h : 0 ≤ len ∧ len ≤ 15) (hc : 15 < cond) :
    Calls Try.prog 54 #[.agg #[.int .i64 op, .int .i64 cond, .int .i64 a.k, .int .i64 a.r, .int .u32 a.imm, .int .i64 a.b, .int .i64 a.x, .int .u32 a.sc, .int .i64 b.k, .int .i64 b.r, .int .u32 b.imm, .int .i64 b.b, .int .i64 b.x, .int .u32 b.sc, .bool false, .int .i64 len]] w fun e w' => e = .returned (.bool false) ∧ Upd [] w w' := by
  have q1 : decide (len < 0) = false := by simp; omega
  have q2 : decide (15 < len) = false := by simp; omega
  have q3 : decide (cond < 0) = false := by simp; omega
  have q4 : decide (15 < cond) = true := by simp; omega
  clear h hc
  go_enter Try.func54, Try.ntmps54
  go_wp2_with fail
  go_ret
  exact ⟨rfl, (Upd.refl _ _).alloc _⟩

set_option maxRecDepth 100000 in
set_option maxHeartbeats 1000000 in
theorem is9_nc3 (op cond len : Int) (a b : Opd) (w : World) (h : 0 ≤ len ∧ len ≤ 15) (hc : 0 ≤ cond ∧ cond ≤ 15) (h0 : cond ≠ 0) (h33 : op ≠ 33) (h34 : op ≠ 34) (h35 : op ≠ 35) :
    Calls Try.prog 54 #[.agg #[.int .i64 op, .int .i64 cond, .int .i64 a.k, .int .i64 a.r, .int .u32 a.imm, .int .i64 a.b, .int .i64 a.x, .int .u32 a.sc, .int .i64 b.k, .int .i64 b.r, .int .u32 b.imm, .int .i64 b.b, .int .i64 b.x, .int .u32 b.sc, .bool false, .int .i64 len]] w fun e w' => e = .returned (.bool false) ∧ Upd [] w w' := by
  have q1 : decide (len < 0) = false := by simp; omega
  have q2 : decide (15 < len) = false := by simp; omega
  have q3 : decide (cond < 0) = false := by simp; omega
  have q4 : decide (15 < cond) = false := by simp; omega
  have q5 : (cond != 0) = true := by simp; omega
  have q6 : (op != 33) = true := by simp; omega
  have q7 : (op != 34) = true := by simp; omega
  have q8 : (op != 35) = true := by simp; omega
  clear h hc h0 h33 h34 h35
  go_enter Try.func54, Try.ntmps54
  go_wp2_with fail
  go_ret
  exact ⟨rfl, (Upd.refl _ _).alloc _⟩

set_option maxRecDepth 100000 in
set_option maxHeartbeats 1000000 in
theorem is9_nok (op len : Int) (a b : Opd) (w : World) (x : Bool) (h : 0 ≤ len ∧ len ≤ 15) (hx : operandsB op a b = x) :
    Calls Try.prog 54 #[.agg #[.int .i64 op, .int .i64 0, .int .i64 a.k, .int .i64 a.r, .int .u32 a.imm, .int .i64 a.b, .int .i64 a.x, .int .u32 a.sc, .int .i64 b.k, .int .i64 b.r, .int .u32 b.imm, .int .i64 b.b, .int .i64 b.x, .int .u32 b.sc, .bool false, .int .i64 len]] w fun e w' => e = .returned (.bool x) ∧ Upd [] w w' := by
  have q1 : decide (len < 0) = false := by simp; omega
  have q2 : decide (15 < len) = false := by simp; omega
  have HX := Lib.hid hx
  clear h hx
  go_enter Try.func54, Try.ntmps54
  go_wp2_with (go_at_call 116; refine (operands9_any op a b _).mono ?_; rintro e w1 ⟨rfl, hu⟩; rw [HX.out]; have U1 := Lib.hid (((Upd.refl [] w).alloc _).also hu (by simp)); clear hu)
  go_ret
  exact ⟨rfl, U1.out⟩

set_option maxRecDepth 100000 in
set_option maxHeartbeats 1000000 in
theorem is9_ac1 (cond len : Int) (a b : Opd) (w : World) (h : 0 ≤ len ∧ len ≤ 15) (hc : cond < 0) :
    Calls Try.prog 54 #[.agg #[.int .i64 41, .int .i64 cond, .int .i64 a.k, .int .i64 a.r, .int .u32 a.imm, .int .i64 a.b, .int .i64 a.x, .int .u32 a.sc, .int .i64 b.k, .int .i64 b.r, .int .u32 b.imm, .int .i64 b.b, .int .i64 b.x, .int .u32 b.sc, .bool true, .int .i64 len]] w fun e w' => e = .returned (.bool false) ∧ Upd [] w w' := by
  have q1 : decide (len < 0) = false := by simp; omega
  have q2 : decide (15 < len) = false := by simp; omega
  have q3 : decide (cond < 0) = true := by simp; omega
  clear h hc
  go_enter Try.func54, Try.ntmps54
  go_wp2_with fail
  go_ret
  exact ⟨rfl, (Upd.refl _ _).alloc _⟩

set_option maxRecDepth 100000 in
set_option maxHeartbeats 1000000 in
theorem is9_ac2 (cond len : Int) (a b : Opd) (w : World) (h : 0 ≤ len ∧ len ≤ 15) (hc : 15 < cond) :
    Calls Try.prog 54 #[.agg #[.int .i64 41, .int .i64 cond, .int .i64 a.k, .int .i64 a.r, .int .u32 a.imm, .int .i64 a.b, .int .i64 a.x, .int .u32 a.sc, .int .i64 b.k, .int .i64 b.r, .int .u32 b.imm, .int .i64 b.b, .int .i64 b.x, .int .u32 b.sc, .bool true, .int .i64 len]] w fun e w' => e = .returned (.bool false) ∧ Upd [] w w' := by
  have q1 : decide (len < 0) = false := by simp; omega
  have q2 : decide (15 < len) = false := by simp; omega
  have q3 : decide (cond < 0) = false := by simp; omega
  have q4 : decide (15 < cond) = true := by simp; omega
  clear h hc
  go_enter Try.func54, Try.ntmps54
  go_wp2_with fail
  go_ret
  exact ⟨rfl, (Upd.refl _ _).alloc _⟩

set_option maxRecDepth 100000 in
set_option maxHeartbeats 1000000 in
theorem is9_ac3 (cond len : Int) (a b : Opd) (w : World) (h : 0 ≤ len ∧ len ≤ 15) (hc : 0 ≤ cond ∧ cond ≤ 15) (h0 : cond ≠ 0) :
    Calls Try.prog 54 #[.agg #[.int .i64 41, .int .i64 cond, .int .i64 a.k, .int .i64 a.r, .int .u32 a.imm, .int .i64 a.b, .int .i64 a.x, .int .u32 a.sc, .int .i64 b.k, .int .i64 b.r, .int .u32 b.imm, .int .i64 b.b, .int .i64 b.x, .int .u32 b.sc, .bool true, .int .i64 len]] w fun e w' => e = .returned (.bool false) ∧ Upd [] w w' := by
  have q1 : decide (len < 0) = false := by simp; omega
  have q2 : decide (15 < len) = false := by simp; omega
  have q3 : decide (cond < 0) = false := by simp; omega
  have q4 : decide (15 < cond) = false := by simp; omega
  have q5 : (cond != 0) = true := by simp; omega
  clear h hc h0
  go_enter Try.func54, Try.ntmps54
  go_wp2_with fail
  go_ret
  exact ⟨rfl, (Upd.refl _ _).alloc _⟩

set_option maxRecDepth 100000 in
set_option maxHeartbeats 1000000 in
theorem is9_aok (len : Int) (a b : Opd) (w : World) (x : Bool) (h : 0 ≤ len ∧ len ≤ 15) (hx : operandsB 41 a b = x) :
    Calls Try.prog 54 #[.agg #[.int .i64 41, .int .i64 0, .int .i64 a.k, .int .i64 a.r, .int .u32 a.imm, .int .i64 a.b, .int .i64 a.x, .int .u32 a.sc, .int .i64 b.k, .int .i64 b.r, .int .u32 b.imm, .int .i64 b.b, .int .i64 b.x, .int .u32 b.sc, .bool true, .int .i64 len]] w fun e w' => e = .returned (.bool x) ∧ Upd [] w w' := by
  have q1 : decide (len < 0) = false := by simp; omega
  have q2 : decide (15 < len) = false := by simp; omega
  have HX := Lib.hid hx
  clear h hx
  go_enter Try.func54, Try.ntmps54
  go_wp2_with (go_at_call 116; refine (operands9_any 41 a b _).mono ?_; rintro e w1 ⟨rfl, hu⟩; rw [HX.out]; have U1 := Lib.hid (((Upd.refl [] w).alloc _).also hu (by simp)); clear hu)
  go_ret
  exact ⟨rfl, U1.out⟩

set_option maxRecDepth 100000 in
set_option maxHeartbeats 1000000 in
theorem is9_bc1 (cond len : Int) (a b : Opd) (w : World) (h : 0 ≤ len ∧ len ≤ 15) (hc : cond < 0) :
    Calls Try.prog 54 #[.agg #[.int .i64 42, .int .i64 cond, .int .i64 a.k, .int .i64 a.r, .int .u32 a.imm, .int .i64 a.b, .int .i64 a.x, .int .u32 a.sc, .int .i64 b.k, .int .i64 b.r, .int .u32 b.imm, .int .i64 b.b, .int .i64 b.x, .int .u32 b.sc, .bool true, .int .i64 len]] w fun e w' => e = .returned (.bool false) ∧ Upd [] w w' := by
  have q1 : decide (len < 0) = false := by simp; omega
  have q2 : decide (15 < len) = false := by simp; omega
  have q3 : decide (cond < 0) = true := by simp; omega
  clear h hc
  go_enter Try.func54, Try.ntmps54
  go_wp2_with fail
  go_ret
  exact ⟨rfl, (Upd.refl _ _).alloc _⟩

set_option maxRecDepth 100000 in
set_option maxHeartbeats 1000000 in
theorem is9_bc2 (cond len : Int) (a b : Opd) (w : World) (h : 0 ≤ len ∧ len ≤ 15) (hc : 15 < cond) :
    Calls Try.prog 54 #[.agg #[.int .i64 42, .int .i64 cond, .int .i64 a.k, .int .i64 a.r, .int .u32 a.imm, .int .i64 a.b, .int .i64 a.x, .int .u32 a.sc, .int .i64 b.k, .int .i64 b.r, .int .u32 b.imm, .int .i64 b.b, .int .i64 b.x, .int .u32 b.sc, .bool true, .int .i64 len]] w fun e w' => e = .returned (.bool false) ∧ Upd [] w w' := by
  have q1 : decide (len < 0) = false := by simp; omega
  have q2 : decide (15 < len) = false := by simp; omega
  have q3 : decide (cond < 0) = false := by simp; omega
  have q4 : decide (15 < cond) = true := by simp; omega
  clear h hc
  go_enter Try.func54, Try.ntmps54
  go_wp2_with fail
  go_ret
  exact ⟨rfl, (Upd.refl _ _).alloc _⟩

set_option maxRecDepth 100000 in
set_option maxHeartbeats 1000000 in
theorem is9_bc3 (cond len : Int) (a b : Opd) (w : World) (h : 0 ≤ len ∧ len ≤ 15) (hc : 0 ≤ cond ∧ cond ≤ 15) (h0 : cond ≠ 0) :
    Calls Try.prog 54 #[.agg #[.int .i64 42, .int .i64 cond, .int .i64 a.k, .int .i64 a.r, .int .u32 a.imm, .int .i64 a.b, .int .i64 a.x, .int .u32 a.sc, .int .i64 b.k, .int .i64 b.r, .int .u32 b.imm, .int .i64 b.b, .int .i64 b.x, .int .u32 b.sc, .bool true, .int .i64 len]] w fun e w' => e = .returned (.bool false) ∧ Upd [] w w' := by
  have q1 : decide (len < 0) = false := by simp; omega
  have q2 : decide (15 < len) = false := by simp; omega
  have q3 : decide (cond < 0) = false := by simp; omega
  have q4 : decide (15 < cond) = false := by simp; omega
  have q5 : (cond != 0) = true := by simp; omega
  clear h hc h0
  go_enter Try.func54, Try.ntmps54
  go_wp2_with fail
  go_ret
  exact ⟨rfl, (Upd.refl _ _).alloc _⟩

set_option maxRecDepth 100000 in
set_option maxHeartbeats 1000000 in
theorem is9_bok (len : Int) (a b : Opd) (w : World) (x : Bool) (h : 0 ≤ len ∧ len ≤ 15) (hx : operandsB 42 a b = x) :
    Calls Try.prog 54 #[.agg #[.int .i64 42, .int .i64 0, .int .i64 a.k, .int .i64 a.r, .int .u32 a.imm, .int .i64 a.b, .int .i64 a.x, .int .u32 a.sc, .int .i64 b.k, .int .i64 b.r, .int .u32 b.imm, .int .i64 b.b, .int .i64 b.x, .int .u32 b.sc, .bool true, .int .i64 len]] w fun e w' => e = .returned (.bool x) ∧ Upd [] w w' := by
  have q1 : decide (len < 0) = false := by simp; omega
  have q2 : decide (15 < len) = false := by simp; omega
  have HX := Lib.hid hx
  clear h hx
  go_enter Try.func54, Try.ntmps54
  go_wp2_with (go_at_call 116; refine (operands9_any 42 a b _).mono ?_; rintro e w1 ⟨rfl, hu⟩; rw [HX.out]; have U1 := Lib.hid (((Upd.refl [] w).alloc _).also hu (by simp)); clear hu)
  go_ret
  exact ⟨rfl, U1.out⟩

set_option maxRecDepth 100000 in
set_option maxHeartbeats 1000000 in
theorem is9_k33 (cond len : Int) (a b : Opd) (w : World) (x : Bool) (h : 0 ≤ len ∧ len ≤ 15) (hc : 0 ≤ cond ∧ cond ≤ 15) (h0 : cond ≠ 0) (hx : operandsB 33 a b = x) :
    Calls Try.prog 54 #[.agg #[.int .i64 33, .int .i64 cond, .int .i64 a.k, .int .i64 a.r, .int .u32 a.imm, .int .i64 a.b, .int .i64 a.x, .int .u32 a.sc, .int .i64 b.k, .int .i64 b.r, .int .u32 b.imm, .int .i64 b.b, .int .i64 b.x, .int .u32 b.sc, .bool false, .int .i64 len]] w fun e w' => e = .returned (.bool x) ∧ Upd [] w w' := by
  have q1 : decide (len < 0) = false := by simp; omega
  have q2 : decide (15 < len) = false := by simp; omega
  have q3 : decide (cond < 0) = false := by simp; omega
  have q4 : decide (15 < cond) = false := by simp; omega
  have q5 : (cond != 0) = true := by simp; omega
  have HX := Lib.hid hx
  clear h hc h0 hx
  go_enter Try.func54, Try.ntmps54
  go_wp2_with (go_at_call 116; refine (operands9_any 33 a b _).mono ?_; rintro e w1 ⟨rfl, hu⟩; rw [HX.out]; have U1 := Lib.hid (((Upd.refl [] w).alloc _).also hu (by simp)); clear hu)
  go_ret
  exact ⟨rfl, U1.out⟩

set_option maxRecDepth 100000 in
set_option maxHeartbeats 1000000 in
theorem is9_k34 (cond len : Int) (a b : Opd) (w : World) (x : Bool) (h : 0 ≤ len ∧ len ≤ 15) (hc : 0 ≤ cond ∧ cond ≤ 15) (h0 : cond ≠ 0) (hx : operandsB 34 a b = x) :
    Calls Try.prog 54 #[.agg #[.int .i64 34, .int .i64 cond, .int .i64 a.k, .int .i64 a.r, .int .u32 a.imm, .int .i64 a.b, .int .i64 a.x, .int .u32 a.sc, .int .i64 b.k, .int .i64 b.r, .int .u32 b.imm, .int .i64 b.b, .int .i64 b.x, .int .u32 b.sc, .bool false, .int .i64 len]] w fun e w' => e = .returned (.bool x) ∧ Upd [] w w' := by
  have q1 : decide (len < 0) = false := by simp; omega
  have q2 : decide (15 < len) = false := by simp; omega
  have q3 : decide (cond < 0) = false := by simp; omega
  have q4 : decide (15 < cond) = false := by simp; omega
  have q5 : (cond != 0) = true := by simp; omega
  have HX := Lib.hid hx
  clear h hc h0 hx
  go_enter Try.func54, Try.ntmps54
  go_wp2_with (go_at_call 116; refine (operands9_any 34 a b _).mono ?_; rintro e w1 ⟨rfl, hu⟩; rw [HX.out]; have U1 := Lib.hid (((Upd.refl [] w).alloc _).also hu (by simp)); clear hu)
  go_ret
  exact ⟨rfl, U1.out⟩

set_option maxRecDepth 100000 in
set_option maxHeartbeats 1000000 in
theorem is9_k35 (cond len : Int) (a b : Opd) (w : World) (x : Bool) (h : 0 ≤ len ∧ len ≤ 15) (hc : 0 ≤ cond ∧ cond ≤ 15) (h0 : cond ≠ 0) (hx : operandsB 35 a b = x) :
    Calls Try.prog 54 #[.agg #[.int .i64 35, .int .i64 cond, .int .i64 a.k, .int .i64 a.r, .int .u32 a.imm, .int .i64 a.b, .int .i64 a.x, .int .u32 a.sc, .int .i64 b.k, .int .i64 b.r, .int .u32 b.imm, .int .i64 b.b, .int .i64 b.x, .int .u32 b.sc, .bool false, .int .i64 len]] w fun e w' => e = .returned (.bool x) ∧ Upd [] w w' := by
  have q1 : decide (len < 0) = false := by simp; omega
  have q2 : decide (15 < len) = false := by simp; omega
  have q3 : decide (cond < 0) = false := by simp; omega
  have q4 : decide (15 < cond) = false := by simp; omega
  have q5 : (cond != 0) = true := by simp; omega
  have HX := Lib.hid hx
  clear h hc h0 hx
  go_enter Try.func54, Try.ntmps54
  go_wp2_with (go_at_call 116; refine (operands9_any 35 a b _).mono ?_; rintro e w1 ⟨rfl, hu⟩; rw [HX.out]; have U1 := Lib.hid (((Upd.refl [] w).alloc _).also hu (by simp)); clear hu)
  go_ret
  exact ⟨rfl, U1.out⟩

theorem isB_eq (op cond : Int) (a b : Opd) (rep : Bool) (len : Int) : isB ⟨op, cond, a, b, rep, len⟩ = if len < 0 ∨ 15 < len ∨ rep = true ∧ op ≠ 41 ∧ op ≠ 42 then false else if cond < 0 ∨ 15 < cond ∨ cond ≠ 0 ∧ op ≠ 33 ∧ op ≠ 34 ∧ op ≠ 35 then false else operandsB op a b := rfl

theorem Is9_any (i : Ins) (w : World) : Calls Try.prog 54 #[i.arg] w fun e w' => e = .returned (.bool (isB i)) ∧ Upd [] w w' := by
  obtain ⟨op, cond, a, b, rep, len⟩ := i
  unfold Ins.arg
  rw [isB_eq]
  by_cases l1 : len < 0
  · rw [if_pos (.inl l1)]; exact is9_l1 op cond len a b w rep l1
  by_cases l2 : 15 < len
  · rw [if_pos (.inr (.inl l2))]; exact is9_l2 op cond len a b w rep l2
  have hl : 0 ≤ len ∧ len ≤ 15 := by omega
  by_cases l3 : rep = true ∧ op ≠ 41 ∧ op ≠ 42
  · rw [if_pos (.inr (.inr l3))]
    obtain ⟨rfl, h1, h2⟩ := l3
    exact is9_l3 op cond len a b w hl h1 h2
  rw [if_neg (by rintro (h | h | h); exact l1 h; exact l2 h; exact l3 h)]
  have hr : rep = false ∨ rep = true ∧ op = 41 ∨ rep = true ∧ op = 42 := by
    cases rep
    · exact .inl rfl
    · by_cases h1 : op = 41
      · exact .inr (.inl ⟨rfl, h1⟩)
      · by_cases h2 : op = 42
        · exact .inr (.inr ⟨rfl, h2⟩)
        · exact absurd ⟨rfl, h1, h2⟩ l3
  clear l3
  by_cases c1 : cond < 0
  · rw [if_pos (.inl c1)]
    rcases hr with rfl | ⟨rfl, rfl⟩ | ⟨rfl, rfl⟩
    · exact is9_nc1 op cond len a b w hl c1
    · exact is9_ac1 cond len a b w hl c1
    · exact is9_bc1 cond len a b w hl c1
  by_cases c2 : 15 < cond
  · rw [if_pos (.inr (.inl c2))]
    rcases hr with rfl | ⟨rfl, rfl⟩ | ⟨rfl, rfl⟩
    · exact is9_nc2 op cond len a b w hl c2
    · exact is9_ac2 cond len a b w hl c2
    · exact is9_bc2 cond len a b w hl c2
  have hc : 0 ≤ cond ∧ cond ≤ 15 := by omega
  by_cases c3 : cond ≠ 0 ∧ op ≠ 33 ∧ op ≠ 34 ∧ op ≠ 35
  · rw [if_pos (.inr (.inr c3))]
    rcases hr with rfl | ⟨rfl, rfl⟩ | ⟨rfl, rfl⟩
    · exact is9_nc3 op cond len a b w hl hc c3.1 c3.2.1 c3.2.2.1 c3.2.2.2
    · exact is9_ac3 cond len a b w hl hc c3.1
    · exact is9_bc3 cond len a b w hl hc c3.1
  rw [if_neg (by rintro (h | h | h); exact c1 h; exact c2 h; exact c3 h)]
  by_cases c0 : cond = 0
  · subst c0
    rcases hr with rfl | ⟨rfl, rfl⟩ | ⟨rfl, rfl⟩
    · exact is9_nok op len a b w _ hl rfl
    · exact is9_aok len a b w _ hl rfl
    · exact is9_bok len a b w _ hl rfl
  have ho : op = 33 ∨ op = 34 ∨ op = 35 := by
    by_cases h1 : op = 33
    · exact .inl h1
    by_cases h2 : op = 34
    · exact .inr (.inl h2)
    by_cases h3 : op = 35
    · exact .inr (.inr h3)
    exact absurd ⟨c0, h1, h2, h3⟩ c3
  have hrep : rep = false := by
    rcases hr with h | ⟨_, h⟩ | ⟨_, h⟩
    · exact h
    · omega
    · omega
  subst hrep
  rcases ho with rfl | rfl | rfl
  · exact is9_k33 cond len a b w _ hl hc c0 rfl
  · exact is9_k34 cond len a b w _ hl hc c0 rfl
  · exact is9_k35 cond len a b w _ hl hc c0 rfl

end Go.Proofs.Ytoplekfnghkkdaa

/-
  Package decode: modrm, the tables, bare, place, each by its contract.
-/
namespace Go.Proofs.Ytoplekfnghkkdaa
open Go Go.RowKit
set_option linter.unusedVariables false
set_option linter.unusedSimpArgs false

theorem wr_all (c cs : Array Value) (h : c.size = cs.size) : wr c 0 cs.toList = cs := by
  apply Array.ext_getElem?
  intro k
  have hl : cs.toList.length = cs.size := Array.length_toList
  rw [wr_get _ _ _ _ (by rw [hl, h]; omega), hl]
  by_cases hk : k < cs.size
  · rw [if_pos (by omega), Nat.sub_zero, Array.getElem?_toList]
  · rw [if_neg (by omega), Array.getElem?_eq_none (by omega), Array.getElem?_eq_none (by omega)]

theorem wpList_store_arr' {P : Program} {ops : Array Oper} {rest : List Oper} {op : Oper} {a : Act} {w : World} {Q : Exit → Act → World → Prop} (hgd : op.guard = none) (ty : TypeId) (x y : Operand) (ho : op.op = .store ty x y)
    (b o : Nat) (cs : Array Value) (hx : a.eval x = .pointer (some ⟨b, o, none⟩)) (hy : a.eval y = .agg cs)
    {c : Array Value} {t : TypeId} (hb : w.heap[b]? = some (.cells c t (0, 0))) (hn : o + cs.size ≤ c.size) (hi : (P.info? ty).map (·.size) = some cs.size) (h1 : cs.all (·.oneCell') = true)
    (h : ∀ w', w.setCells b o cs.toList = w' → wpList P ops Q rest (a.put op.dst undef) w') : wpList P ops Q (op :: rest) a w :=
  wpList_store_arr hgd ty x y ho b o cs hx hy hb hn hi h1 (h _ rfl)

theorem arr_new {w w' : World} {b : Nat} {cs c : Array Value} {t : TypeId} (hw : w.setCells b 0 cs.toList = w') (hb : w.heap[b]? = some (.cells c t (0, 0))) (hc : c.size = cs.size) :
    w'.heap[b]? = some (.cells cs t (0, 0)) ∧ Upd [b] w w' := by
  subst hw
  exact ⟨by rw [heap_setCells_same _ _ _ _ hb, wr_all c cs hc], (Upd.refl [b] w).setCells (.inl (by simp)) _ _⟩

theorem Mrm.one (m : Mrm) : m.cells.all (·.oneCell') = true := by simp [Mrm.cells, Value.oneCell']

theorem mrm_info : (Try.prog.info? 231).map (·.size) = some 3 := by kernel_rfl

theorem res_mrm {tmps : Array Value} {w : World} (a : Tmp) (b : Nat) (m : Mrm) (ha : tmps.getD a undef = .pointer (some ⟨b, 0, none⟩)) (hb : w.heap[b]? = some (.cells m.cells 231 (0, 0))) :
    (resRun tmps (.cell a 231)).run Try.prog w = .ok (.agg m.cells) w :=
  res_row a 231 b _ _ ha hb Try.underlying231 rfl mrm_info

set_option maxRecDepth 100000 in
set_option maxHeartbeats 400000 in
theorem modrm1_any (c a n : Int) (b : Nat) (w : World) (h0 : 0 ≤ c) (h1 : c < 4294967296) (ha : 0 ≤ a ∧ a < 32) (hn : 0 ≤ n ∧ n ≤ 8) (hx : w.cell? ⟨b, 0, none⟩ = some (.int .u32 c)) :
    Calls Try.prog 203 #[.int .i64 a, .int .i64 n, .pointer (some ⟨b, 0, none⟩)] w fun e w' => e = .returned (.int .i64 (c / 2 ^ a.toNat % 2 ^ n.toNat)) ∧ w = w' := by
  obtain ⟨a, rfl⟩ := Int.eq_ofNat_of_zero_le ha.1
  obtain ⟨n, rfl⟩ := Int.eq_ofNat_of_zero_le hn.1
  rw [Int.toNat_natCast, Int.toNat_natCast]
  have ha : a < 32 := by omega
  have hn : n ≤ 8 := by omega
  have hp : (0 : Int) < 2 ^ n := Int.pow_pos (by decide)
  have hq : (2 : Int) ^ n ≤ 256 := by
    have : (2 : Nat) ^ n ≤ 2 ^ 8 := Nat.pow_le_pow_right (by decide) hn
    have h2 : ((2 : Int) ^ n) = ((2 ^ n : Nat) : Int) := by push_cast; rfl
    rw [h2]; omega
  obtain ⟨z, hz⟩ : ∃ z : Int, c / 2 ^ a % 2 ^ n = z := ⟨_, rfl⟩
  have hz0 : 0 ≤ z := by rw [← hz]; exact Int.emod_nonneg _ (by omega)
  have hz1 : z < 256 := by rw [← hz]; have := Int.emod_lt_of_pos (c / 2 ^ a) hp; omega
  have HZ := Lib.hid hz
  have HC := Lib.hid (And.intro h0 (And.intro h1 (And.intro ha hn)))
  have e1 : wrap64 z = z := by unfold wrap64; omega
  clear hp hq h0 h1 ha hn hz
  go_enter Try.func203, Try.ntmps203
  go_wp2_with (go_at_call 163; refine (Field_any c a n _ HC.out.1 HC.out.2.1 HC.out.2.2.1 (by have := HC.out.2.2.2; omega)).mono ?_; rintro e w' ⟨rfl, rfl⟩; rw [HZ.out])
  go_ret
  exact ⟨ret_of (congrArg (Value.int .i64) (by first | rfl | exact HZ.out.symm)), rfl⟩

set_option maxRecDepth 100000 in
set_option maxHeartbeats 1000000 in
theorem modrm_any (d g k : Nat) (v : Value) (L : List Int) (w : World) (hD : IsDec w d v L g k) :
    Calls Try.prog 165 #[.pointer (some ⟨d, 0, none⟩)] w (DAns d v L g w (dcMrm L k) fun m => .agg m.cells) := by
  have hb := byte_any d g k v L (w.alloc (.cells #[.int .i64 0, .int .i64 0, .int .i64 0] 231)) (hD.step ((Upd.refl [] w).alloc _))
  have HD := Lib.hid hD
  have HLt := Lib.hid (lt_of_heap hD.h)
  unfold dcMrm
  cases h : dcByte L k with
  | ok c k1 =>
    obtain ⟨c0, c1, _⟩ := dcByte_ok hD.r h
    rw [h] at hb
    rw [DR.bind_ok]
    have HB := Lib.hid hb
    have q1 : c % 4294967296 = c := by omega
    have HM := Lib.hid (show c / 2 ^ (6 : Int).toNat % 2 ^ (2 : Int).toNat = (mrmOf c).mod ∧ c / 2 ^ (3 : Int).toNat % 2 ^ (3 : Int).toNat = (mrmOf c).reg ∧ c / 2 ^ (0 : Int).toNat % 2 ^ (3 : Int).toNat = (mrmOf c).rm by
      simp only [mrmOf]
      refine ⟨?_, ?_, ?_⟩
      · show c / 64 % 4 = c / 64; omega
      · show c / 8 % 8 = c / 8 % 8; rfl
      · show c / 1 % 8 = c % 8; omega)
    have HC := Lib.hid (And.intro c0 c1)
    clear hb hD h c0 c1
    go_enter Try.func165, Try.ntmps165
    go_wp2_with (first | (go_at_call 99; refine HB.out.mono ?_; rintro e w2 ⟨rfl, hD2, hu⟩; have H2 := Lib.hid (And.intro hD2 (And.intro (also_new hu) (new_kept HLt.out hu))); clear hD2 hu; have hx := cells_of (heap_alloc_new w2 (.cells #[.int .u32 c] 24)) 0) | (go_at_call 203; refine (modrm1_any c _ _ w2.heap.size _ HC.out.1 (by have := HC.out; omega) (by decide) (by decide) hx).mono ?_; rintro e w3 ⟨rfl, rfl⟩; first | rw [HM.out.1] | rw [HM.out.2.1] | rw [HM.out.2.2]) | (refine at_store 231 rfl ?_; refine wpList_store_arr' rfl 231 _ _ rfl w.heap.size 0 (mrmOf c).cells rfl rfl (heap_alloc_keep _ H2.out.2.2) (by simp [Mrm.cells]) mrm_info (Mrm.one _) ?_; intro w3 hw3; have H3 := Lib.hid (And.intro H2.out.1 (And.intro H2.out.2.1 (arr_new hw3 (heap_alloc_keep _ H2.out.2.2) rfl))); clear hw3 H2))
    obtain ⟨h1, h2⟩ := dec_fin HD.out H3.out.1 H3.out.2.1 (((Upd.refl [w.heap.size] w2).alloc _).also H3.out.2.2.2 (by simp)) (by simp)
    exact bodyPost_ret (results_one' rfl (res_mrm 2 w.heap.size _ rfl H3.out.2.2.1)) rfl ⟨rfl, h1, h2⟩
  | err c =>
    rw [h] at hb
    rw [DR.bind_err]
    have HB := Lib.hid hb
    clear hb hD h
    go_enter Try.func165, Try.ntmps165
    go_wp2_with (go_at_call 99; refine HB.out.mono ?_; rintro e w2 ⟨rfl, hu⟩)
    exact ⟨rfl, rfl, also_new hu⟩


/-! ### Tables -/
theorem range8 {n : Int} (h0 : 0 ≤ n) (h1 : n < 8) : n = 0 ∨ n = 1 ∨ n = 2 ∨ n = 3 ∨ n = 4 ∨ n = 5 ∨ n = 6 ∨ n = 7 := by omega

theorem eight_index {n : Int} (h0 : 0 ≤ n) (h1 : n < 8) (w : World) : (Instr.index 191 (.agg #[.int .i64 3, .int .i64 4, .int .i64 5, .int .i64 6, .int .i64 7, .int .i64 8, .int .i64 9, .int .i64 10]) (.int .i64 n)).run Try.prog w = .ok (.int .i64 (eightI n)) w := by
  rcases range8 h0 h1 with rfl | rfl | rfl | rfl | rfl | rfl | rfl | rfl <;> kernel_rfl

set_option maxRecDepth 100000 in
set_option maxHeartbeats 1000000 in
theorem eight_any (n : Int) (w : World) (h0 : 0 ≤ n) (h1 : n < 8) : Calls Try.prog 167 #[.int .i64 n] w fun e w' => e = .returned (.int .i64 (eightI n)) ∧ w = w' := by
  have hx := eight_index h0 h1 w
  clear h0 h1
  go_enter Try.func167, Try.ntmps167
  go_wp2
  go_ret
  exact ⟨rfl, rfl⟩

theorem shifts_index {n : Int} (h0 : 0 ≤ n) (h1 : n < 8) (w : World) : (Instr.index 191 (.agg #[.int .i64 21, .int .i64 22, .int .i64 0, .int .i64 0, .int .i64 23, .int .i64 24, .int .i64 0, .int .i64 25]) (.int .i64 n)).run Try.prog w = .ok (.int .i64 (shiftsI n)) w := by
  rcases range8 h0 h1 with rfl | rfl | rfl | rfl | rfl | rfl | rfl | rfl <;> kernel_rfl

set_option maxRecDepth 100000 in
set_option maxHeartbeats 1000000 in
theorem shifts_any (n : Int) (w : World) (h0 : 0 ≤ n) (h1 : n < 8) : Calls Try.prog 231 #[.int .i64 n] w fun e w' => e = .returned (.int .i64 (shiftsI n)) ∧ w = w' := by
  have hx := shifts_index h0 h1 w
  clear h0 h1
  go_enter Try.func231, Try.ntmps231
  go_wp2
  go_ret
  exact ⟨rfl, rfl⟩

theorem others_index {n : Int} (h0 : 0 ≤ n) (h1 : n < 8) (w : World) : (Instr.index 191 (.agg #[.int .i64 0, .int .i64 0, .int .i64 14, .int .i64 15, .int .i64 16, .int .i64 17, .int .i64 19, .int .i64 20]) (.int .i64 n)).run Try.prog w = .ok (.int .i64 (othersI n)) w := by
  rcases range8 h0 h1 with rfl | rfl | rfl | rfl | rfl | rfl | rfl | rfl <;> kernel_rfl

set_option maxRecDepth 100000 in
set_option maxHeartbeats 1000000 in
theorem others_any (n : Int) (w : World) (h0 : 0 ≤ n) (h1 : n < 8) : Calls Try.prog 233 #[.int .i64 n] w fun e w' => e = .returned (.int .i64 (othersI n)) ∧ w = w' := by
  have hx := others_index h0 h1 w
  clear h0 h1
  go_enter Try.func233, Try.ntmps233
  go_wp2
  go_ret
  exact ⟨rfl, rfl⟩

theorem numbers_index {n : Int} (h0 : 0 ≤ n) (h1 : n < 8) (w : World) : (Instr.index 191 (.agg #[.int .i64 47, .int .i64 48, .int .i64 53, .int .i64 0, .int .i64 49, .int .i64 0, .int .i64 50, .int .i64 0]) (.int .i64 n)).run Try.prog w = .ok (.int .i64 (numbersI n)) w := by
  rcases range8 h0 h1 with rfl | rfl | rfl | rfl | rfl | rfl | rfl | rfl <;> kernel_rfl

set_option maxRecDepth 100000 in
set_option maxHeartbeats 1000000 in
theorem numbers_any (n : Int) (w : World) (h0 : 0 ≤ n) (h1 : n < 8) : Calls Try.prog 232 #[.int .i64 n] w fun e w' => e = .returned (.int .i64 (numbersI n)) ∧ w = w' := by
  have hx := numbers_index h0 h1 w
  clear h0 h1
  go_enter Try.func232, Try.ntmps232
  go_wp2
  go_ret
  exact ⟨rfl, rfl⟩

theorem fld_index {n : Int} (h0 : 0 ≤ n) (h1 : n < 8) (w : World) : (Instr.index 191 (.agg #[.int .i64 45, .int .i64 0, .int .i64 0, .int .i64 46, .int .i64 0, .int .i64 0, .int .i64 0, .int .i64 0]) (.int .i64 n)).run Try.prog w = .ok (.int .i64 (fldI n)) w := by
  rcases range8 h0 h1 with rfl | rfl | rfl | rfl | rfl | rfl | rfl | rfl <;> kernel_rfl

theorem last_index {n : Int} (h0 : 0 ≤ n) (h1 : n < 8) (w : World) : (Instr.index 191 (.agg #[.int .i64 12, .int .i64 13, .int .i64 30, .int .i64 0, .int .i64 32, .int .i64 0, .int .i64 28, .int .i64 0]) (.int .i64 n)).run Try.prog w = .ok (.int .i64 (lastI n)) w := by
  rcases range8 h0 h1 with rfl | rfl | rfl | rfl | rfl | rfl | rfl | rfl <;> kernel_rfl

set_option maxRecDepth 100000 in
set_option maxHeartbeats 1000000 in
theorem bare_any (n : Int) (w : World) : Calls Try.prog 205 #[.int .i64 n] w fun e w' => e = .returned (bareI n).val ∧ Upd [] w w' := by
  have hz := heap_alloc_new w (.cells Ins.zero.cells 28)
  have HZ := Lib.hid hz
  clear hz
  go_enter Try.func205, Try.ntmps205
  go_wp2_with (refine at_store 28 rfl ?_; refine wpList_store_ins (bareI n) w.heap.size rfl _ _ rfl rfl rfl HZ.out rfl ?_; intro w2 hw; obtain ⟨h1, h2⟩ := ins_new (w0 := w) (S := []) hw HZ.out rfl ((Upd.refl [] w).alloc _) (.inr (Nat.le_refl _)))
  exact bodyPost_ret (results_one' rfl (res_ins 2 w.heap.size _ rfl h1)) rfl ⟨rfl, h2⟩

end Go.Proofs.Ytoplekfnghkkdaa
