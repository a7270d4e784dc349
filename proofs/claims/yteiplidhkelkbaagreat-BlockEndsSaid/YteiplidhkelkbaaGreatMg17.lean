/-
  Parts of the proof (their names shortened by a program). No condition.
-/
import Derived.Test.YteiplidhkelkbaaGreatMg01
import Derived.Test.YteiplidhkelkbaaGreatMg16
import Derived.Test.YteiplidhkelkbaaGreatMg15
import Derived.Test.YteiplidhkelkbaaGreatMg14
import Derived.Test.YteiplidhkelkbaaGreatMg03
namespace Go.Proofs.YteiplidhkelkbaaGreat
open Go Go.RowKit
set_option linter.unusedVariables false
set_option linter.unusedSimpArgs false
set_option maxRecDepth 100000
set_option maxHeartbeats 16000000
theorem Yd4 (op : Int) (a b : Opd) (w : World) : Calls Tryz.prog 62 #[.int .i64 op, a.arg, b.arg] w fun e w' => e = .returned (.bool (Yo op a b)) ∧ Upd [] w w' := by
 by_cases hlo : op ≤ 0
 ·rw [show Yo op a b = false from by unfold Yo; repeat' rw [if_neg (by omega)]]
  exact op9_lo a b w op hlo
 by_cases hhi : 54 ≤ op
 ·rw [show Yo op a b = false from by unfold Yo; repeat' rw [if_neg (by omega)]]
  exact op9_hi a b w op hhi
 by_cases c0_0 : op = 1
 ·rw [show Yo op a b = ((rmB a && ((Yw b || Ya0 b) || (Yw a && Ya7 b)))) from by unfold Yo; rw [if_pos (by omega)]]
  subst c0_0
  cases h0 : rmB a
  ·exact Yg6.1 a b w h0
  ·cases h1 : Yw b
   ·cases h2 : Ya0 b
    ·cases h3 : Yw a
     ·exact Ytd a b w h0 h1 h2 h3
     ·cases h4 : Ya7 b
      ·exact Yg5.2 a b w h0 h1 h2 h3 h4
      ·exact Yg5.1 a b w h0 h1 h2 h3 h4
    ·exact Yg4.1 a b w h0 h1 h2
   ·exact Yg3.1 a b w h0 h1
 by_cases c0_1 : 3 ≤ op ∧ op ≤ 10
 ·rw [show Yo op a b = ((rmB a && ((Yw b || Ya0 b) || (Yw a && Ya7 b)))) from by unfold Yo; rw [if_pos (by omega)]]
  cases h0 : rmB a
  ·exact Ytj a b w op c0_1.1 c0_1.2 h0
  ·cases h1 : Yw b
   ·cases h2 : Ya0 b
    ·cases h3 : Yw a
     ·exact Ytm a b w op c0_1.1 c0_1.2 h0 h1 h2 h3
     ·cases h4 : Ya7 b
      ·exact Yg7.2 a b w op c0_1.1 c0_1.2 h0 h1 h2 h3 h4
      ·exact Yg7.1 a b w op c0_1.1 c0_1.2 h0 h1 h2 h3 h4
    ·exact Ytf a b w op c0_1.1 c0_1.2 h0 h1 h2
   ·exact Yu1 a b w op c0_1.1 c0_1.2 h0 h1
 by_cases c1_0 : op = 11
 ·rw [show Yo op a b = ((rmB a && (Yw b || Ya0 b))) from by unfold Yo; rw [if_neg (by omega), if_pos (by omega)]]
  subst c1_0
  cases h0 : rmB a
  ·exact Yg6.2.1 a b w h0
  ·cases h1 : Yw b
   ·cases h2 : Ya0 b
    ·exact Yg4.2.2 a b w h0 h1 h2
    ·exact Yg4.2.1 a b w h0 h1 h2
   ·exact Yg3.2.1 a b w h0 h1
 by_cases c2_0 : op = 2
 ·rw [show Yo op a b = ((rmB a && ((Yw b || Yca b) || (Yw a && Ya7 b)))) from by unfold Yo; rw [if_neg (by omega), if_neg (by omega), if_pos (by omega)]]
  subst c2_0
  cases h0 : rmB a
  ·exact Yg6.2.2.1 a b w h0
  ·cases h1 : Yw b
   ·cases h2 : Yca b
    ·cases h3 : Yw a
     ·exact Yti a b w h0 h1 h2 h3
     ·cases h4 : Ya7 b
      ·exact Yg8.2 a b w h0 h1 h2 h3 h4
      ·exact Yg8.1 a b w h0 h1 h2 h3 h4
    ·exact Yu3 a b w h0 h1 h2
   ·exact Yg3.2.2.1 a b w h0 h1
 by_cases c3_0 : op = 27
 ·rw [show Yo op a b = ((rmB a && Yw b)) from by unfold Yo; rw [if_neg (by omega), if_neg (by omega), if_neg (by omega), if_pos (by omega)]]
  subst c3_0
  cases h0 : rmB a
  ·exact Yg6.2.2.2.1 a b w h0
  ·cases h1 : Yw b
   ·exact Yg3.2.2.2.2 a b w h0 h1
   ·exact Yg3.2.2.2.1 a b w h0 h1
 by_cases c4_0 : 12 ≤ op ∧ op ≤ 17
 ·rw [show Yo op a b = ((rmB a && Yu b)) from by unfold Yo; rw [if_neg (by omega), if_neg (by omega), if_neg (by omega), if_neg (by omega), if_pos (by omega)]]
  cases h0 : rmB a
  ·exact Yua a b w op c4_0.1 c4_0.2 h0
  ·cases h1 : Yu b
   ·exact Yg9.2 a b w op c4_0.1 c4_0.2 h0 h1
   ·exact Yg9.1 a b w op c4_0.1 c4_0.2 h0 h1
 by_cases c4_1 : op = 19
 ·rw [show Yo op a b = ((rmB a && Yu b)) from by unfold Yo; rw [if_neg (by omega), if_neg (by omega), if_neg (by omega), if_neg (by omega), if_pos (by omega)]]
  subst c4_1
  cases h0 : rmB a
  ·exact Yg6.2.2.2.2.1 a b w h0
  ·cases h1 : Yu b
   ·exact Yg10.2.1 a b w h0 h1
   ·exact Yg10.1 a b w h0 h1
 by_cases c4_2 : op = 20
 ·rw [show Yo op a b = ((rmB a && Yu b)) from by unfold Yo; rw [if_neg (by omega), if_neg (by omega), if_neg (by omega), if_neg (by omega), if_pos (by omega)]]
  subst c4_2
  cases h0 : rmB a
  ·exact Yg6.2.2.2.2.2.1 a b w h0
  ·cases h1 : Yu b
   ·exact Yg10.2.2.2.1 a b w h0 h1
   ·exact Yg10.2.2.1 a b w h0 h1
 by_cases c4_3 : op = 34
 ·rw [show Yo op a b = ((rmB a && Yu b)) from by unfold Yo; rw [if_neg (by omega), if_neg (by omega), if_neg (by omega), if_neg (by omega), if_pos (by omega)]]
  subst c4_3
  cases h0 : rmB a
  ·exact Yg6.2.2.2.2.2.2 a b w h0
  ·cases h1 : Yu b
   ·exact Yg10.2.2.2.2.2.1 a b w h0 h1
   ·exact Yg10.2.2.2.2.1 a b w h0 h1
 by_cases c5_0 : op = 18
 ·rw [show Yo op a b = ((Yw a && rmB b)) from by unfold Yo; rw [if_neg (by omega), if_neg (by omega), if_neg (by omega), if_neg (by omega), if_neg (by omega), if_pos (by omega)]]
  subst c5_0
  cases h0 : Yw a
  ·exact Yg13.1 a b w h0
  ·cases h1 : rmB b
   ·exact Yg12.2.1 a b w h0 h1
   ·exact Yg12.1 a b w h0 h1
 by_cases c5_1 : op = 35
 ·rw [show Yo op a b = ((Yw a && rmB b)) from by unfold Yo; rw [if_neg (by omega), if_neg (by omega), if_neg (by omega), if_neg (by omega), if_neg (by omega), if_pos (by omega)]]
  subst c5_1
  cases h0 : Yw a
  ·exact Yg13.2.1 a b w h0
  ·cases h1 : rmB b
   ·exact Yg12.2.2.2.1 a b w h0 h1
   ·exact Yg12.2.2.1 a b w h0 h1
 by_cases c5_2 : op = 36
 ·rw [show Yo op a b = ((Yw a && rmB b)) from by unfold Yo; rw [if_neg (by omega), if_neg (by omega), if_neg (by omega), if_neg (by omega), if_neg (by omega), if_pos (by omega)]]
  subst c5_2
  cases h0 : Yw a
  ·exact Yg13.2.2.1 a b w h0
  ·cases h1 : rmB b
   ·exact Yg12.2.2.2.2.2.1 a b w h0 h1
   ·exact Yg12.2.2.2.2.1 a b w h0 h1
 by_cases c5_3 : op = 37
 ·rw [show Yo op a b = ((Yw a && rmB b)) from by unfold Yo; rw [if_neg (by omega), if_neg (by omega), if_neg (by omega), if_neg (by omega), if_neg (by omega), if_pos (by omega)]]
  subst c5_3
  cases h0 : Yw a
  ·exact Yg13.2.2.2.1 a b w h0
  ·cases h1 : rmB b
   ·exact Yg12.2.2.2.2.2.2.2 a b w h0 h1
   ·exact Yg12.2.2.2.2.2.2.1 a b w h0 h1
 by_cases c6_0 : 21 ≤ op ∧ op ≤ 25
 ·rw [show Yo op a b = ((rmB a && (Yca b || (Yw b && (b.r == 1))))) from by unfold Yo; rw [if_neg (by omega), if_neg (by omega), if_neg (by omega), if_neg (by omega), if_neg (by omega), if_neg (by omega), if_pos (by omega)]]
  cases h0 : rmB a
  ·exact Yul a b w op c6_0.1 c6_0.2 h0
  ·cases h1 : Yca b
   ·cases h2 : Yw b
    ·exact Yg14.2.2 a b w op c6_0.1 c6_0.2 h0 h1 h2
    ·cases h3 : (b.r == 1)
     ·exact Yg14.2.1 a b w op c6_0.1 c6_0.2 h0 h1 h2 h3
     ·exact Yg14.1 a b w op c6_0.1 c6_0.2 h0 h1 h2 h3
   ·exact Yuo a b w op c6_0.1 c6_0.2 h0 h1
 by_cases c7_0 : op = 26
 ·rw [show Yo op a b = ((Yw a && Ya7 b)) from by unfold Yo; rw [if_neg (by omega), if_neg (by omega), if_neg (by omega), if_neg (by omega), if_neg (by omega), if_neg (by omega), if_neg (by omega), if_pos (by omega)]]
  subst c7_0
  cases h0 : Yw a
  ·exact Yg13.2.2.2.2.1 a b w h0
  ·cases h1 : Ya7 b
   ·exact Yg15.2 a b w h0 h1
   ·exact Yg15.1 a b w h0 h1
 by_cases c8_0 : op = 28
 ·rw [show Yo op a b = (((rmB a || Ya0 a) && Yu b)) from by unfold Yo; rw [if_neg (by omega), if_neg (by omega), if_neg (by omega), if_neg (by omega), if_neg (by omega), if_neg (by omega), if_neg (by omega), if_neg (by omega), if_pos (by omega)]]
  subst c8_0
  cases h0 : rmB a
  ·cases h1 : Ya0 a
   ·exact Yg17.1 a b w h0 h1
   ·cases h2 : Yu b
    ·exact Yg16.2.1 a b w h0 h1 h2
    ·exact Yg16.1 a b w h0 h1 h2
  ·cases h1 : Yu b
   ·exact Yg10.2.2.2.2.2.2.2 a b w h0 h1
   ·exact Yg10.2.2.2.2.2.2.1 a b w h0 h1
 by_cases c8_1 : op = 30
 ·rw [show Yo op a b = (((rmB a || Ya0 a) && Yu b)) from by unfold Yo; rw [if_neg (by omega), if_neg (by omega), if_neg (by omega), if_neg (by omega), if_neg (by omega), if_neg (by omega), if_neg (by omega), if_neg (by omega), if_pos (by omega)]]
  subst c8_1
  cases h0 : rmB a
  ·cases h1 : Ya0 a
   ·exact Yg17.2.1 a b w h0 h1
   ·cases h2 : Yu b
    ·exact Yg16.2.2.2.1 a b w h0 h1 h2
    ·exact Yg16.2.2.1 a b w h0 h1 h2
  ·cases h1 : Yu b
   ·exact Yg11.2.1 a b w h0 h1
   ·exact Yg11.1 a b w h0 h1
 by_cases c8_2 : op = 32
 ·rw [show Yo op a b = (((rmB a || Ya0 a) && Yu b)) from by unfold Yo; rw [if_neg (by omega), if_neg (by omega), if_neg (by omega), if_neg (by omega), if_neg (by omega), if_neg (by omega), if_neg (by omega), if_neg (by omega), if_pos (by omega)]]
  subst c8_2
  cases h0 : rmB a
  ·cases h1 : Ya0 a
   ·exact Yg17.2.2 a b w h0 h1
   ·cases h2 : Yu b
    ·exact Yg16.2.2.2.2.2 a b w h0 h1 h2
    ·exact Yg16.2.2.2.2.1 a b w h0 h1 h2
  ·cases h1 : Yu b
   ·exact Yg11.2.2.2 a b w h0 h1
   ·exact Yg11.2.2.1 a b w h0 h1
 by_cases c9_0 : op = 29
 ·rw [show Yo op a b = ((Yw a && Yu b)) from by unfold Yo; rw [if_neg (by omega), if_neg (by omega), if_neg (by omega), if_neg (by omega), if_neg (by omega), if_neg (by omega), if_neg (by omega), if_neg (by omega), if_neg (by omega), if_pos (by omega)]]
  subst c9_0
  cases h0 : Yw a
  ·exact Yg13.2.2.2.2.2 a b w h0
  ·cases h1 : Yu b
   ·exact Yg18.2 a b w h0 h1
   ·exact Yg18.1 a b w h0 h1
 by_cases c10_0 : op = 33
 ·rw [show Yo op a b = ((Ya0 a && Yu b)) from by unfold Yo; rw [if_neg (by omega), if_neg (by omega), if_neg (by omega), if_neg (by omega), if_neg (by omega), if_neg (by omega), if_neg (by omega), if_neg (by omega), if_neg (by omega), if_neg (by omega), if_pos (by omega)]]
  subst c10_0
  cases h0 : Ya0 a
  ·exact Yg20.1 a b w h0
  ·cases h1 : Yu b
   ·exact Yg19.2 a b w h0 h1
   ·exact Yg19.1 a b w h0 h1
 by_cases c11_0 : op = 43
 ·rw [show Yo op a b = (((Ya0 a && (a.imm == 128)) && Yu b)) from by unfold Yo; rw [if_neg (by omega), if_neg (by omega), if_neg (by omega), if_neg (by omega), if_neg (by omega), if_neg (by omega), if_neg (by omega), if_neg (by omega), if_neg (by omega), if_neg (by omega), if_neg (by omega), if_pos (by omega)]]
  subst c11_0
  cases h0 : Ya0 a
  ·exact Yg20.2.2 a b w h0
  ·cases h1 : (a.imm == 128)
   ·exact Yg20.2.1 a b w h0 h1
   ·cases h2 : Yu b
    ·exact Yg21.2 a b w h0 h1 h2
    ·exact Yg21.1 a b w h0 h1 h2
 by_cases c12_0 : op = 45
 ·rw [show Yo op a b = ((Ya7 a && Yu b)) from by unfold Yo; rw [if_neg (by omega), if_neg (by omega), if_neg (by omega), if_neg (by omega), if_neg (by omega), if_neg (by omega), if_neg (by omega), if_neg (by omega), if_neg (by omega), if_neg (by omega), if_neg (by omega), if_neg (by omega), if_pos (by omega)]]
  subst c12_0
  cases h0 : Ya7 a
  ·exact Yg23.1 a b w h0
  ·cases h1 : Yu b
   ·exact Yg22.2.1 a b w h0 h1
   ·exact Yg22.1 a b w h0 h1
 by_cases c12_1 : op = 46
 ·rw [show Yo op a b = ((Ya7 a && Yu b)) from by unfold Yo; rw [if_neg (by omega), if_neg (by omega), if_neg (by omega), if_neg (by omega), if_neg (by omega), if_neg (by omega), if_neg (by omega), if_neg (by omega), if_neg (by omega), if_neg (by omega), if_neg (by omega), if_neg (by omega), if_pos (by omega)]]
  subst c12_1
  cases h0 : Ya7 a
  ·exact Yg23.2.1 a b w h0
  ·cases h1 : Yu b
   ·exact Yg22.2.2.2.1 a b w h0 h1
   ·exact Yg22.2.2.1 a b w h0 h1
 by_cases c12_2 : 47 ≤ op ∧ op ≤ 50
 ·rw [show Yo op a b = ((Ya7 a && Yu b)) from by unfold Yo; rw [if_neg (by omega), if_neg (by omega), if_neg (by omega), if_neg (by omega), if_neg (by omega), if_neg (by omega), if_neg (by omega), if_neg (by omega), if_neg (by omega), if_neg (by omega), if_neg (by omega), if_neg (by omega), if_pos (by omega)]]
  cases h0 : Ya7 a
  ·exact Ysp a b w op c12_2.1 c12_2.2 h0
  ·cases h1 : Yu b
   ·exact Yg24.2 a b w op c12_2.1 c12_2.2 h0 h1
   ·exact Yg24.1 a b w op c12_2.1 c12_2.2 h0 h1
 by_cases c12_3 : op = 53
 ·rw [show Yo op a b = ((Ya7 a && Yu b)) from by unfold Yo; rw [if_neg (by omega), if_neg (by omega), if_neg (by omega), if_neg (by omega), if_neg (by omega), if_neg (by omega), if_neg (by omega), if_neg (by omega), if_neg (by omega), if_neg (by omega), if_neg (by omega), if_neg (by omega), if_pos (by omega)]]
  subst c12_3
  cases h0 : Ya7 a
  ·exact Yg23.2.2 a b w h0
  ·cases h1 : Yu b
   ·exact Yg22.2.2.2.2.2 a b w h0 h1
   ·exact Yg22.2.2.2.2.1 a b w h0 h1
 by_cases c13_0 : op = 31
 ·rw [show Yo op a b = ((Yu a && Yu b)) from by unfold Yo; rw [if_neg (by omega), if_neg (by omega), if_neg (by omega), if_neg (by omega), if_neg (by omega), if_neg (by omega), if_neg (by omega), if_neg (by omega), if_neg (by omega), if_neg (by omega), if_neg (by omega), if_neg (by omega), if_neg (by omega), if_pos (by omega)]]
  subst c13_0
  cases h0 : Yu a
  ·exact Yg26.1 a b w h0
  ·cases h1 : Yu b
   ·exact Yg25.2.1 a b w h0 h1
   ·exact Yg25.1 a b w h0 h1
 by_cases c13_1 : 38 ≤ op ∧ op ≤ 42
 ·rw [show Yo op a b = ((Yu a && Yu b)) from by unfold Yo; rw [if_neg (by omega), if_neg (by omega), if_neg (by omega), if_neg (by omega), if_neg (by omega), if_neg (by omega), if_neg (by omega), if_neg (by omega), if_neg (by omega), if_neg (by omega), if_neg (by omega), if_neg (by omega), if_neg (by omega), if_pos (by omega)]]
  cases h0 : Yu a
  ·exact Yro a b w op c13_1.1 c13_1.2 h0
  ·cases h1 : Yu b
   ·exact Yg27.2 a b w op c13_1.1 c13_1.2 h0 h1
   ·exact Yg27.1 a b w op c13_1.1 c13_1.2 h0 h1
 by_cases c13_2 : op = 44
 ·rw [show Yo op a b = ((Yu a && Yu b)) from by unfold Yo; rw [if_neg (by omega), if_neg (by omega), if_neg (by omega), if_neg (by omega), if_neg (by omega), if_neg (by omega), if_neg (by omega), if_neg (by omega), if_neg (by omega), if_neg (by omega), if_neg (by omega), if_neg (by omega), if_neg (by omega), if_pos (by omega)]]
  subst c13_2
  cases h0 : Yu a
  ·exact Yg26.2.1 a b w h0
  ·cases h1 : Yu b
   ·exact Yg25.2.2.2.1 a b w h0 h1
   ·exact Yg25.2.2.1 a b w h0 h1
 by_cases c13_3 : op = 51
 ·rw [show Yo op a b = ((Yu a && Yu b)) from by unfold Yo; rw [if_neg (by omega), if_neg (by omega), if_neg (by omega), if_neg (by omega), if_neg (by omega), if_neg (by omega), if_neg (by omega), if_neg (by omega), if_neg (by omega), if_neg (by omega), if_neg (by omega), if_neg (by omega), if_neg (by omega), if_pos (by omega)]]
  subst c13_3
  cases h0 : Yu a
  ·exact Yg26.2.2.1 a b w h0
  ·cases h1 : Yu b
   ·exact Yg25.2.2.2.2.2.1 a b w h0 h1
   ·exact Yg25.2.2.2.2.1 a b w h0 h1
 by_cases c13_4 : op = 52
 ·rw [show Yo op a b = ((Yu a && Yu b)) from by unfold Yo; rw [if_neg (by omega), if_neg (by omega), if_neg (by omega), if_neg (by omega), if_neg (by omega), if_neg (by omega), if_neg (by omega), if_neg (by omega), if_neg (by omega), if_neg (by omega), if_neg (by omega), if_neg (by omega), if_neg (by omega), if_pos (by omega)]]
  subst c13_4
  cases h0 : Yu a
  ·exact Yg26.2.2.2 a b w h0
  ·cases h1 : Yu b
   ·exact Yg25.2.2.2.2.2.2.2 a b w h0 h1
   ·exact Yg25.2.2.2.2.2.2.1 a b w h0 h1
 exfalso
 omega
def Ins.arg (i : Ins) : Value := .agg #[.int .i64 i.op, .int .i64 i.cond,
 .int .i64 i.a.k, .int .i64 i.a.r, .int .u32 i.a.imm, .int .i64 i.a.b, .int .i64 i.a.x, .int .u32 i.a.sc,
 .int .i64 i.b.k, .int .i64 i.b.r, .int .u32 i.b.imm, .int .i64 i.b.b, .int .i64 i.b.x, .int .u32 i.b.sc,
 .bool i.rep, .int .i64 i.len]
theorem is9_l1 (op cond len : Int) (a b : Opd) (w : World) (rep : Bool) (h : len < 0) :
  Calls Tryz.prog 38 #[.agg #[.int .i64 op, .int .i64 cond, .int .i64 a.k, .int .i64 a.r, .int .u32 a.imm, .int .i64 a.b, .int .i64 a.x, .int .u32 a.sc, .int .i64 b.k, .int .i64 b.r, .int .u32 b.imm, .int .i64 b.b, .int .i64 b.x, .int .u32 b.sc, .bool rep, .int .i64 len]] w fun e w' => e = .returned (.bool false) ∧ Upd [] w w' := by
 have q1 : decide (len < 0) = true := by simp; omega
 clear h
 go_enter Tryz.func38, Tryz.ntmps38
 go_wp2_with fail
 go_ret
 exact ⟨rfl, (Upd.refl _ _).alloc _⟩
theorem is9_l2 (op cond len : Int) (a b : Opd) (w : World) (rep : Bool) (h : 15 < len) :
  Calls Tryz.prog 38 #[.agg #[.int .i64 op, .int .i64 cond, .int .i64 a.k, .int .i64 a.r, .int .u32 a.imm, .int .i64 a.b, .int .i64 a.x, .int .u32 a.sc, .int .i64 b.k, .int .i64 b.r, .int .u32 b.imm, .int .i64 b.b, .int .i64 b.x, .int .u32 b.sc, .bool rep, .int .i64 len]] w fun e w' => e = .returned (.bool false) ∧ Upd [] w w' := by
 have q1 : decide (len < 0) = false := by simp; omega
 have q2 : decide (15 < len) = true := by simp; omega
 clear h
 go_enter Tryz.func38, Tryz.ntmps38
 go_wp2_with fail
 go_ret
 exact ⟨rfl, (Upd.refl _ _).alloc _⟩
theorem is9_l3 (op cond len : Int) (a b : Opd) (w : World) (h : 0 ≤ len ∧ len ≤ 15) (h1 : op ≠ 41) (h2 : op ≠ 42) :
  Calls Tryz.prog 38 #[.agg #[.int .i64 op, .int .i64 cond, .int .i64 a.k, .int .i64 a.r, .int .u32 a.imm, .int .i64 a.b, .int .i64 a.x, .int .u32 a.sc, .int .i64 b.k, .int .i64 b.r, .int .u32 b.imm, .int .i64 b.b, .int .i64 b.x, .int .u32 b.sc, .bool true, .int .i64 len]] w fun e w' => e = .returned (.bool false) ∧ Upd [] w w' := by
 have q1 : decide (len < 0) = false := by simp; omega
 have q2 : decide (15 < len) = false := by simp; omega
 have q3 : (op != 41) = true := by simp; omega
 have q4 : (op != 42) = true := by simp; omega
 clear h h1 h2
 go_enter Tryz.func38, Tryz.ntmps38
 go_wp2_with fail
 go_ret
 exact ⟨rfl, (Upd.refl _ _).alloc _⟩
theorem is9_nc3 (op cond len : Int) (a b : Opd) (w : World) (h : 0 ≤ len ∧ len ≤ 15) (hc : 0 ≤ cond ∧ cond ≤ 15) (h0 : cond ≠ 0) (h33 : op ≠ 33) (h34 : op ≠ 34) (h35 : op ≠ 35) :
  Calls Tryz.prog 38 #[.agg #[.int .i64 op, .int .i64 cond, .int .i64 a.k, .int .i64 a.r, .int .u32 a.imm, .int .i64 a.b, .int .i64 a.x, .int .u32 a.sc, .int .i64 b.k, .int .i64 b.r, .int .u32 b.imm, .int .i64 b.b, .int .i64 b.x, .int .u32 b.sc, .bool false, .int .i64 len]] w fun e w' => e = .returned (.bool false) ∧ Upd [] w w' := by
 have q1 : decide (len < 0) = false := by simp; omega
 have q2 : decide (15 < len) = false := by simp; omega
 have q3 : decide (cond < 0) = false := by simp; omega
 have q4 : decide (15 < cond) = false := by simp; omega
 have q5 : (cond != 0) = true := by simp; omega
 have q6 : (op != 33) = true := by simp; omega
 have q7 : (op != 34) = true := by simp; omega
 have q8 : (op != 35) = true := by simp; omega
 clear h hc h0 h33 h34 h35
 go_enter Tryz.func38, Tryz.ntmps38
 go_wp2_with fail
 go_ret
 exact ⟨rfl, (Upd.refl _ _).alloc _⟩
theorem is9_nok (op len : Int) (a b : Opd) (w : World) (x : Bool) (h : 0 ≤ len ∧ len ≤ 15) (hx : Yo op a b = x) :
  Calls Tryz.prog 38 #[.agg #[.int .i64 op, .int .i64 0, .int .i64 a.k, .int .i64 a.r, .int .u32 a.imm, .int .i64 a.b, .int .i64 a.x, .int .u32 a.sc, .int .i64 b.k, .int .i64 b.r, .int .u32 b.imm, .int .i64 b.b, .int .i64 b.x, .int .u32 b.sc, .bool false, .int .i64 len]] w fun e w' => e = .returned (.bool x) ∧ Upd [] w w' := by
 have q1 : decide (len < 0) = false := by simp; omega
 have q2 : decide (15 < len) = false := by simp; omega
 have HX := Yh_ hx
 clear h hx
 go_enter Tryz.func38, Tryz.ntmps38
 go_wp2_with (go_at_call 62; refine (Yd4 op a b _).mono ?_; rintro e w1 ⟨rfl, hu⟩; rw [HX.out]; have U1 := Yh_ (((Upd.refl [] w).alloc _).also hu (by simp)); clear hu)
 go_ret
 exact ⟨rfl, U1.out⟩
theorem is9_aok (len : Int) (a b : Opd) (w : World) (x : Bool) (h : 0 ≤ len ∧ len ≤ 15) (hx : Yo 41 a b = x) :
  Calls Tryz.prog 38 #[.agg #[.int .i64 41, .int .i64 0, .int .i64 a.k, .int .i64 a.r, .int .u32 a.imm, .int .i64 a.b, .int .i64 a.x, .int .u32 a.sc, .int .i64 b.k, .int .i64 b.r, .int .u32 b.imm, .int .i64 b.b, .int .i64 b.x, .int .u32 b.sc, .bool true, .int .i64 len]] w fun e w' => e = .returned (.bool x) ∧ Upd [] w w' := by
 have q1 : decide (len < 0) = false := by simp; omega
 have q2 : decide (15 < len) = false := by simp; omega
 have HX := Yh_ hx
 clear h hx
 go_enter Tryz.func38, Tryz.ntmps38
 go_wp2_with (go_at_call 62; refine (Yd4 41 a b _).mono ?_; rintro e w1 ⟨rfl, hu⟩; rw [HX.out]; have U1 := Yh_ (((Upd.refl [] w).alloc _).also hu (by simp)); clear hu)
 go_ret
 exact ⟨rfl, U1.out⟩
theorem Yg28 : (∀ (op cond len : Int) (a b : Opd) (w : World) (h : 0 ≤ len ∧ len ≤ 15) (hc : cond < 0), Calls Tryz.prog 38 #[.agg #[.int .i64 op, .int .i64 cond, .int .i64 a.k, .int .i64 a.r, .int .u32 a.imm, .int .i64 a.b, .int .i64 a.x, .int .u32 a.sc, .int .i64 b.k, .int .i64 b.r, .int .u32 b.imm, .int .i64 b.b, .int .i64 b.x, .int .u32 b.sc, .bool false, .int .i64 len]] w fun e w' => e = .returned (.bool false) ∧ Upd [] w w') ∧
 (∀ (cond len : Int) (a b : Opd) (w : World) (h : 0 ≤ len ∧ len ≤ 15) (hc : cond < 0), Calls Tryz.prog 38 #[.agg #[.int .i64 41, .int .i64 cond, .int .i64 a.k, .int .i64 a.r, .int .u32 a.imm, .int .i64 a.b, .int .i64 a.x, .int .u32 a.sc, .int .i64 b.k, .int .i64 b.r, .int .u32 b.imm, .int .i64 b.b, .int .i64 b.x, .int .u32 b.sc, .bool true, .int .i64 len]] w fun e w' => e = .returned (.bool false) ∧ Upd [] w w') ∧
 (∀ (cond len : Int) (a b : Opd) (w : World) (h : 0 ≤ len ∧ len ≤ 15) (hc : cond < 0), Calls Tryz.prog 38 #[.agg #[.int .i64 42, .int .i64 cond, .int .i64 a.k, .int .i64 a.r, .int .u32 a.imm, .int .i64 a.b, .int .i64 a.x, .int .u32 a.sc, .int .i64 b.k, .int .i64 b.r, .int .u32 b.imm, .int .i64 b.b, .int .i64 b.x, .int .u32 b.sc, .bool true, .int .i64 len]] w fun e w' => e = .returned (.bool false) ∧ Upd [] w w') := by
 refine ⟨fun op cond len a b w h hc => ?_, fun cond len a b w h hc => ?_, fun cond len a b w h hc => ?_⟩
 all_goals
  have q1 : decide (len < 0) = false := by simp; omega
  have q2 : decide (15 < len) = false := by simp; omega
  have q3 : decide (cond < 0) = true := by simp; omega
  clear h hc
  go_enter Tryz.func38, Tryz.ntmps38
  go_wp2_with fail
  go_ret
  exact ⟨rfl, (Upd.refl _ _).alloc _⟩
theorem Yg29 : (∀ (op cond len : Int) (a b : Opd) (w : World) (h : 0 ≤ len ∧ len ≤ 15) (hc : 15 < cond), Calls Tryz.prog 38 #[.agg #[.int .i64 op, .int .i64 cond, .int .i64 a.k, .int .i64 a.r, .int .u32 a.imm, .int .i64 a.b, .int .i64 a.x, .int .u32 a.sc, .int .i64 b.k, .int .i64 b.r, .int .u32 b.imm, .int .i64 b.b, .int .i64 b.x, .int .u32 b.sc, .bool false, .int .i64 len]] w fun e w' => e = .returned (.bool false) ∧ Upd [] w w') ∧
 (∀ (cond len : Int) (a b : Opd) (w : World) (h : 0 ≤ len ∧ len ≤ 15) (hc : 15 < cond), Calls Tryz.prog 38 #[.agg #[.int .i64 41, .int .i64 cond, .int .i64 a.k, .int .i64 a.r, .int .u32 a.imm, .int .i64 a.b, .int .i64 a.x, .int .u32 a.sc, .int .i64 b.k, .int .i64 b.r, .int .u32 b.imm, .int .i64 b.b, .int .i64 b.x, .int .u32 b.sc, .bool true, .int .i64 len]] w fun e w' => e = .returned (.bool false) ∧ Upd [] w w') ∧
 (∀ (cond len : Int) (a b : Opd) (w : World) (h : 0 ≤ len ∧ len ≤ 15) (hc : 15 < cond), Calls Tryz.prog 38 #[.agg #[.int .i64 42, .int .i64 cond, .int .i64 a.k, .int .i64 a.r, .int .u32 a.imm, .int .i64 a.b, .int .i64 a.x, .int .u32 a.sc, .int .i64 b.k, .int .i64 b.r, .int .u32 b.imm, .int .i64 b.b, .int .i64 b.x, .int .u32 b.sc, .bool true, .int .i64 len]] w fun e w' => e = .returned (.bool false) ∧ Upd [] w w') := by
 refine ⟨fun op cond len a b w h hc => ?_, fun cond len a b w h hc => ?_, fun cond len a b w h hc => ?_⟩
 all_goals
  have q1 : decide (len < 0) = false := by simp; omega
  have q2 : decide (15 < len) = false := by simp; omega
  have q3 : decide (cond < 0) = false := by simp; omega
  have q4 : decide (15 < cond) = true := by simp; omega
  clear h hc
  go_enter Tryz.func38, Tryz.ntmps38
  go_wp2_with fail
  go_ret
  exact ⟨rfl, (Upd.refl _ _).alloc _⟩
theorem Yg30 : (∀ (cond len : Int) (a b : Opd) (w : World) (h : 0 ≤ len ∧ len ≤ 15) (hc : 0 ≤ cond ∧ cond ≤ 15) (h0 : cond ≠ 0), Calls Tryz.prog 38 #[.agg #[.int .i64 41, .int .i64 cond, .int .i64 a.k, .int .i64 a.r, .int .u32 a.imm, .int .i64 a.b, .int .i64 a.x, .int .u32 a.sc, .int .i64 b.k, .int .i64 b.r, .int .u32 b.imm, .int .i64 b.b, .int .i64 b.x, .int .u32 b.sc, .bool true, .int .i64 len]] w fun e w' => e = .returned (.bool false) ∧ Upd [] w w') ∧
 (∀ (cond len : Int) (a b : Opd) (w : World) (h : 0 ≤ len ∧ len ≤ 15) (hc : 0 ≤ cond ∧ cond ≤ 15) (h0 : cond ≠ 0), Calls Tryz.prog 38 #[.agg #[.int .i64 42, .int .i64 cond, .int .i64 a.k, .int .i64 a.r, .int .u32 a.imm, .int .i64 a.b, .int .i64 a.x, .int .u32 a.sc, .int .i64 b.k, .int .i64 b.r, .int .u32 b.imm, .int .i64 b.b, .int .i64 b.x, .int .u32 b.sc, .bool true, .int .i64 len]] w fun e w' => e = .returned (.bool false) ∧ Upd [] w w') := by
 refine ⟨fun cond len a b w h hc h0 => ?_, fun cond len a b w h hc h0 => ?_⟩
 all_goals
  have q1 : decide (len < 0) = false := by simp; omega
  have q2 : decide (15 < len) = false := by simp; omega
  have q3 : decide (cond < 0) = false := by simp; omega
  have q4 : decide (15 < cond) = false := by simp; omega
  have q5 : (cond != 0) = true := by simp; omega
  clear h hc h0
  go_enter Tryz.func38, Tryz.ntmps38
  go_wp2_with fail
  go_ret
  exact ⟨rfl, (Upd.refl _ _).alloc _⟩
theorem is9_bok (len : Int) (a b : Opd) (w : World) (x : Bool) (h : 0 ≤ len ∧ len ≤ 15) (hx : Yo 42 a b = x) :
  Calls Tryz.prog 38 #[.agg #[.int .i64 42, .int .i64 0, .int .i64 a.k, .int .i64 a.r, .int .u32 a.imm, .int .i64 a.b, .int .i64 a.x, .int .u32 a.sc, .int .i64 b.k, .int .i64 b.r, .int .u32 b.imm, .int .i64 b.b, .int .i64 b.x, .int .u32 b.sc, .bool true, .int .i64 len]] w fun e w' => e = .returned (.bool x) ∧ Upd [] w w' := by
 have q1 : decide (len < 0) = false := by simp; omega
 have q2 : decide (15 < len) = false := by simp; omega
 have HX := Yh_ hx
 clear h hx
 go_enter Tryz.func38, Tryz.ntmps38
 go_wp2_with (go_at_call 62; refine (Yd4 42 a b _).mono ?_; rintro e w1 ⟨rfl, hu⟩; rw [HX.out]; have U1 := Yh_ (((Upd.refl [] w).alloc _).also hu (by simp)); clear hu)
 go_ret
 exact ⟨rfl, U1.out⟩
theorem is9_k33 (cond len : Int) (a b : Opd) (w : World) (x : Bool) (h : 0 ≤ len ∧ len ≤ 15) (hc : 0 ≤ cond ∧ cond ≤ 15) (h0 : cond ≠ 0) (hx : Yo 33 a b = x) :
  Calls Tryz.prog 38 #[.agg #[.int .i64 33, .int .i64 cond, .int .i64 a.k, .int .i64 a.r, .int .u32 a.imm, .int .i64 a.b, .int .i64 a.x, .int .u32 a.sc, .int .i64 b.k, .int .i64 b.r, .int .u32 b.imm, .int .i64 b.b, .int .i64 b.x, .int .u32 b.sc, .bool false, .int .i64 len]] w fun e w' => e = .returned (.bool x) ∧ Upd [] w w' := by
 have q1 : decide (len < 0) = false := by simp; omega
 have q2 : decide (15 < len) = false := by simp; omega
 have q3 : decide (cond < 0) = false := by simp; omega
 have q4 : decide (15 < cond) = false := by simp; omega
 have q5 : (cond != 0) = true := by simp; omega
 have HX := Yh_ hx
 clear h hc h0 hx
 go_enter Tryz.func38, Tryz.ntmps38
 go_wp2_with (go_at_call 62; refine (Yd4 33 a b _).mono ?_; rintro e w1 ⟨rfl, hu⟩; rw [HX.out]; have U1 := Yh_ (((Upd.refl [] w).alloc _).also hu (by simp)); clear hu)
 go_ret
 exact ⟨rfl, U1.out⟩
theorem is9_k34 (cond len : Int) (a b : Opd) (w : World) (x : Bool) (h : 0 ≤ len ∧ len ≤ 15) (hc : 0 ≤ cond ∧ cond ≤ 15) (h0 : cond ≠ 0) (hx : Yo 34 a b = x) :
  Calls Tryz.prog 38 #[.agg #[.int .i64 34, .int .i64 cond, .int .i64 a.k, .int .i64 a.r, .int .u32 a.imm, .int .i64 a.b, .int .i64 a.x, .int .u32 a.sc, .int .i64 b.k, .int .i64 b.r, .int .u32 b.imm, .int .i64 b.b, .int .i64 b.x, .int .u32 b.sc, .bool false, .int .i64 len]] w fun e w' => e = .returned (.bool x) ∧ Upd [] w w' := by
 have q1 : decide (len < 0) = false := by simp; omega
 have q2 : decide (15 < len) = false := by simp; omega
 have q3 : decide (cond < 0) = false := by simp; omega
 have q4 : decide (15 < cond) = false := by simp; omega
 have q5 : (cond != 0) = true := by simp; omega
 have HX := Yh_ hx
 clear h hc h0 hx
 go_enter Tryz.func38, Tryz.ntmps38
 go_wp2_with (go_at_call 62; refine (Yd4 34 a b _).mono ?_; rintro e w1 ⟨rfl, hu⟩; rw [HX.out]; have U1 := Yh_ (((Upd.refl [] w).alloc _).also hu (by simp)); clear hu)
 go_ret
 exact ⟨rfl, U1.out⟩
theorem is9_k35 (cond len : Int) (a b : Opd) (w : World) (x : Bool) (h : 0 ≤ len ∧ len ≤ 15) (hc : 0 ≤ cond ∧ cond ≤ 15) (h0 : cond ≠ 0) (hx : Yo 35 a b = x) :
  Calls Tryz.prog 38 #[.agg #[.int .i64 35, .int .i64 cond, .int .i64 a.k, .int .i64 a.r, .int .u32 a.imm, .int .i64 a.b, .int .i64 a.x, .int .u32 a.sc, .int .i64 b.k, .int .i64 b.r, .int .u32 b.imm, .int .i64 b.b, .int .i64 b.x, .int .u32 b.sc, .bool false, .int .i64 len]] w fun e w' => e = .returned (.bool x) ∧ Upd [] w w' := by
 have q1 : decide (len < 0) = false := by simp; omega
 have q2 : decide (15 < len) = false := by simp; omega
 have q3 : decide (cond < 0) = false := by simp; omega
 have q4 : decide (15 < cond) = false := by simp; omega
 have q5 : (cond != 0) = true := by simp; omega
 have HX := Yh_ hx
 clear h hc h0 hx
 go_enter Tryz.func38, Tryz.ntmps38
 go_wp2_with (go_at_call 62; refine (Yd4 35 a b _).mono ?_; rintro e w1 ⟨rfl, hu⟩; rw [HX.out]; have U1 := Yh_ (((Upd.refl [] w).alloc _).also hu (by simp)); clear hu)
 go_ret
 exact ⟨rfl, U1.out⟩
theorem isB_eq (op cond : Int) (a b : Opd) (rep : Bool) (len : Int) : isB ⟨op, cond, a, b, rep, len⟩ = if len < 0 ∨ 15 < len ∨ rep = true ∧ op ≠ 41 ∧ op ≠ 42 then false else if cond < 0 ∨ 15 < cond ∨ cond ≠ 0 ∧ op ≠ 33 ∧ op ≠ 34 ∧ op ≠ 35 then false else Yo op a b := rfl
theorem Yrk (i : Ins) (w : World) : Calls Tryz.prog 38 #[i.arg] w fun e w' => e = .returned (.bool (isB i)) ∧ Upd [] w w' := by
 obtain ⟨op, cond, a, b, rep, len⟩ := i
 unfold Ins.arg
 rw [isB_eq]
 by_cases l1 : len < 0
 ·rw [if_pos (.inl l1)]; exact is9_l1 op cond len a b w rep l1
 by_cases l2 : 15 < len
 ·rw [if_pos (.inr (.inl l2))]; exact is9_l2 op cond len a b w rep l2
 have hl : 0 ≤ len ∧ len ≤ 15 := by omega
 by_cases l3 : rep = true ∧ op ≠ 41 ∧ op ≠ 42
 ·rw [if_pos (.inr (.inr l3))]
  obtain ⟨rfl, h1, h2⟩ := l3
  exact is9_l3 op cond len a b w hl h1 h2
 rw [if_neg (by rintro (h | h | h); exact l1 h; exact l2 h; exact l3 h)]
 have hr : rep = false ∨ rep = true ∧ op = 41 ∨ rep = true ∧ op = 42 := by
  cases rep
  ·exact .inl rfl
  ·by_cases h1 : op = 41
   ·exact .inr (.inl ⟨rfl, h1⟩)
   ·by_cases h2 : op = 42
    ·exact .inr (.inr ⟨rfl, h2⟩)
    ·exact absurd ⟨rfl, h1, h2⟩ l3
 clear l3
 by_cases c1 : cond < 0
 ·rw [if_pos (.inl c1)]
  rcases hr with rfl | ⟨rfl, rfl⟩ | ⟨rfl, rfl⟩
  ·exact Yg28.1 op cond len a b w hl c1
  ·exact Yg28.2.1 cond len a b w hl c1
  ·exact Yg28.2.2 cond len a b w hl c1
 by_cases c2 : 15 < cond
 ·rw [if_pos (.inr (.inl c2))]
  rcases hr with rfl | ⟨rfl, rfl⟩ | ⟨rfl, rfl⟩
  ·exact Yg29.1 op cond len a b w hl c2
  ·exact Yg29.2.1 cond len a b w hl c2
  ·exact Yg29.2.2 cond len a b w hl c2
 have hc : 0 ≤ cond ∧ cond ≤ 15 := by omega
 by_cases c3 : cond ≠ 0 ∧ op ≠ 33 ∧ op ≠ 34 ∧ op ≠ 35
 ·rw [if_pos (.inr (.inr c3))]
  rcases hr with rfl | ⟨rfl, rfl⟩ | ⟨rfl, rfl⟩
  ·exact is9_nc3 op cond len a b w hl hc c3.1 c3.2.1 c3.2.2.1 c3.2.2.2
  ·exact Yg30.1 cond len a b w hl hc c3.1
  ·exact Yg30.2 cond len a b w hl hc c3.1
 rw [if_neg (by rintro (h | h | h); exact c1 h; exact c2 h; exact c3 h)]
 by_cases c0 : cond = 0
 ·subst c0
  rcases hr with rfl | ⟨rfl, rfl⟩ | ⟨rfl, rfl⟩
  ·exact is9_nok op len a b w _ hl rfl
  ·exact is9_aok len a b w _ hl rfl
  ·exact is9_bok len a b w _ hl rfl
 have ho : op = 33 ∨ op = 34 ∨ op = 35 := by
  by_cases h1 : op = 33
  ·exact .inl h1
  by_cases h2 : op = 34
  ·exact .inr (.inl h2)
  by_cases h3 : op = 35
  ·exact .inr (.inr h3)
  exact absurd ⟨c0, h1, h2, h3⟩ c3
 have hrep : rep = false := by
  rcases hr with h | ⟨_, h⟩ | ⟨_, h⟩
  ·exact h
  ·omega
  ·omega
 subst hrep
 rcases ho with rfl | rfl | rfl
 ·exact is9_k33 cond len a b w _ hl hc c0 rfl
 ·exact is9_k34 cond len a b w _ hl hc c0 rfl
 ·exact is9_k35 cond len a b w _ hl hc c0 rfl
section
structure Yl (w : World) (d : Nat) (v : Value) (L : List Int) (g : Nat) (s : Rd) : Prop where
 h : w.heap[d]? = some (.cells #[v, .int .i64 s.k, .bool s.sh, .bool s.bd] 90 (0, 0))
 b : Ybz w v L g
 k : s.k ≤ L.length
 n : L.length ≤ maxLen
 gd : g ≠ d
 r : BOk L
 c : ∀ b n c, v = .slice b n c → n ≤ c
section
variable {w w' : World} {d : Nat} {v : Value} {L : List Int} {g : Nat} {s : Rd}
theorem Yl.step (h : Yl w d v L g s) (u : Upd [] w w') : Yl w' d v L g s :=
 ⟨u.get h.h (by simp), h.b.keep u (by simp), h.k, h.n, h.gd, h.r, h.c⟩
theorem Yl.lt (h : Yl w d v L g s) : d < w.heap.size := Yv h.h
theorem Yl.cells (h : Yl w d v L g s) : w.cell? ⟨d, 0, none⟩ = some v ∧ w.cell? ⟨d, 1, none⟩ = some (.int .i64 s.k) ∧ w.cell? ⟨d, 2, none⟩ = some (.bool s.sh) ∧ w.cell? ⟨d, 3, none⟩ = some (.bool s.bd) := by
 rw [Ya h.h, Ya h.h, Ya h.h, Ya h.h]; exact ⟨rfl, rfl, rfl, rfl⟩
theorem Yl.setK (h : Yl w d v L g s) (j : Nat) (hj : j ≤ L.length) : Yl (w.setCell ⟨d, 1, none⟩ (.int .i64 j)) d v L g { s with k := j } :=
 ⟨Ys h.h 1 (.int .i64 j), h.b.keep ((Upd.refl [d] w).setCell (by simp) _) (by simpa using h.gd), hj, h.n, h.gd, h.r, h.c⟩
theorem Yl.setS (h : Yl w d v L g s) (c : Bool) : Yl (w.setCell ⟨d, 2, none⟩ (.bool c)) d v L g { s with sh := c } :=
 ⟨Ys h.h 2 (.bool c), h.b.keep ((Upd.refl [d] w).setCell (by simp) _) (by simpa using h.gd), h.k, h.n, h.gd, h.r, h.c⟩
theorem Yl.setB (h : Yl w d v L g s) (c : Bool) : Yl (w.setCell ⟨d, 3, none⟩ (.bool c)) d v L g { s with bd := c } :=
 ⟨Ys h.h 3 (.bool c), h.b.keep ((Upd.refl [d] w).setCell (by simp) _) (by simpa using h.gd), h.k, h.n, h.gd, h.r, h.c⟩
end
theorem Ybs {L : List Int} {g o sc j : Nat} (W : World) (hj : j < L.length) (hb : Ybz W (.slice (some ⟨g, o, none⟩) L.length sc) L g) : W.cell? ⟨g, o + j, none⟩ = some (.int .u8 (L.getD j 0)) := by
 rcases hb with ⟨h1, _⟩ | ⟨o', c', C, T, f, h1, h2, h3⟩
 ·cases h1
 ·injection h1 with h1 h4 h5
  injection h1 with h1
  injection h1 with h1 h6
  subst h6
  rw [Ya h2]
  exact h3 j hj
structure RdB (w : World) (d : Nat) (v : Value) (L : List Int) (g : Nat) (s : Rd) (w1 : World) : Prop where
 d : Yl w1 d v L g s
 u : Upd [] w w1
theorem Yy (d g : Nat) (s : Rd) (v : Value) (L : List Int) (w : World) (hD : Yl w d v L g s) :
  Calls Tryz.prog 53 #[.pointer (some ⟨d, 0, none⟩)] w fun e w' => e = .returned (.int .u8 (reB L s)) ∧ Yl w' d v L g (Ym L s) ∧ Upd [d] w w' := by
 have hmo : Tryz.prog.follows .mixedOrders = true := by kernel_rfl
 have hl := hD.n
 unfold maxLen at hl
 by_cases h : s.k < L.length
 ·obtain ⟨o, sc, rfl, hsc⟩ : ∃ o c, v = .slice (some ⟨g, o, none⟩) L.length c ∧ L.length ≤ c := by
   rcases hD.b with ⟨_, h1⟩ | ⟨o, c, _, _, _, h1, _⟩
   ·rw [h1] at h; simp at h
   ·exact ⟨o, c, h1, hD.c _ _ _ h1⟩
  rw [show reB L s = L.getD s.k 0 from by simp [reB, h], show Ym L s = { s with k := s.k + 1 } from by simp [Ym, h]]
  obtain ⟨kk, sh, bd⟩ := s
  simp only at h ⊢
  have e1 : decide ((L.length : Int) ≤ kk) = false := by simp; omega
  have e2 : decide (L.length ≤ kk) = false := by simp; omega
  obtain ⟨z, hz⟩ : ∃ z : Int, ((kk + 1 : Nat) : Int) = z := ⟨_, rfl⟩
  have e3 : wrap64 ((kk : Int) + 1) = z := by unfold wrap64; omega
  have HZ := Yh_ hz
  have HD := Yh_ hD
  have HN := Yh_ h
  have hcell := fun (W : World) (j : Nat) (hj : j < L.length) (hb : Ybz W (.slice (some ⟨g, o, none⟩) L.length sc) L g) => Ybs W hj hb
  have HC := Yh_ hcell
  clear hD h hz hl hsc hcell
  go_enter Tryz.func53, Tryz.ntmps53
  go_wp2_with fail
  refine Ybc 10 (RdB w d (.slice (some ⟨g, o, none⟩) L.length sc) L g ⟨kk, sh, bd⟩) (fun _ _ => False) (by kernel_rfl) (by kernel_rfl) ⟨HD.out.step (Upd.refl [] w).drew, (Upd.refl [] w).drew⟩ (fun _ _ _ h => h.elim) ?_
  simp only [List.take_succ_cons, List.take_zero, List.drop_succ_cons, List.drop_zero]
  repeat
   apply Yao rfl rfl
   ·intro K hK w1 hB1
    obtain ⟨c0, c1, c2, c3⟩ := hB1.d.cells
    have HB := Yh_ hB1
    clear hB1
    go_wp2_with fail
    first
    |exact hK _ HB.out
    |exact HB.out
   ·exact ⟨_, rfl⟩
  refine Yaw (fun _ w2 hB2 => ?_)
  have HB := Yh_ hB2
  clear hB2
  go_wp2_with fail
  refine Ybc 11 (RdB w d (.slice (some ⟨g, o, none⟩) L.length sc) L g ⟨kk, sh, bd⟩) (fun _ _ => False) (by kernel_rfl) (by kernel_rfl) ⟨HB.out.d.step (Upd.refl [] w2).drew, HB.out.u.drew⟩ (fun _ _ _ h => h.elim) ?_
  simp only [List.take_succ_cons, List.take_zero, List.drop_succ_cons, List.drop_zero]
  repeat
   apply Yao rfl rfl
   ·intro K hK w1 hB1
    obtain ⟨c0, c1, c2, c3⟩ := hB1.d.cells
    have cb := HC.out _ _ HN.out hB1.d.b
    have HB := Yh_ hB1
    clear hB1
    go_wp2_with fail
    first
    |exact hK _ HB.out
    |exact HB.out
   ·exact ⟨_, rfl⟩
  refine Yaw (fun _ w2 hB2 => ?_)
  obtain ⟨c0, c1, c2, c3⟩ := hB2.d.cells
  have f1 := Yh hB2.d.h
  have HB2 := Yh_ hB2
  clear hB2
  go_wp2_with fail
  go_ret
  have hS := HB2.out.d.setK (kk + 1) HN.out
  rw [HZ.out] at hS
  exact ⟨rfl, hS, (HB2.out.u.mono (by simp)).setCell (by simp) _⟩
 ·rw [show reB L s = 0 from by simp [reB, h], show Ym L s = s.short from by simp [Ym, h]]
  obtain ⟨kk, sh, bd⟩ := s
  simp only at h ⊢
  obtain ⟨sb, sc, rfl⟩ := hD.b.form
  have e1 : decide ((L.length : Int) ≤ kk) = true := by simp; omega
  have e2 : decide (L.length ≤ kk) = true := by simp; omega
  have HD := Yh_ hD
  clear hD h hl
  go_enter Tryz.func53, Tryz.ntmps53
  go_wp2_with fail
  refine Ybc 10 (RdB w d (.slice sb L.length sc) L g ⟨kk, sh, bd⟩) (fun _ _ => False) (by kernel_rfl) (by kernel_rfl) ⟨HD.out.step (Upd.refl [] w).drew, (Upd.refl [] w).drew⟩ (fun _ _ _ h => h.elim) ?_
  simp only [List.take_succ_cons, List.take_zero, List.drop_succ_cons, List.drop_zero]
  repeat
   apply Yao rfl rfl
   ·intro K hK w1 hB1
    obtain ⟨c0, c1, c2, c3⟩ := hB1.d.cells
    have HB := Yh_ hB1
    clear hB1
    go_wp2_with fail
    first
    |exact hK _ HB.out
    |exact HB.out
   ·exact ⟨_, rfl⟩
  refine Yaw (fun _ w2 hB2 => ?_)
  obtain ⟨c0, c1, c2, c3⟩ := hB2.d.cells
  have f2 := Yh hB2.d.h
  have HB2 := Yh_ hB2
  clear hB2
  go_wp2_with fail
  go_ret
  exact ⟨rfl, HB2.out.d.setS true, (HB2.out.u.mono (by simp)).setCell (by simp) _⟩
def stW (L : List Int) (s : Rd) : Nat → Rd
 |0 => s
 |k + 1 => Ym L (stW L s k)
def vW (L : List Int) (s : Rd) : Nat → Int
 |0 => 0
 |k + 1 => vW L s k + reB L (stW L s k) * 2 ^ (8 * k)
theorem Yae {L : List Int} (hL : BOk L) (s : Rd) : 0 ≤ reB L s ∧ reB L s ≤ 255 := by
 unfold reB
 split
 ·exact hL _
 ·decide
theorem Ykg {L : List Int} (hL : BOk L) (s : Rd) (k : Nat) : 0 ≤ vW L s k ∧ vW L s k < 2 ^ (8 * k) := by
 induction k with
 |zero => simp [vW]
 |succ k ih =>
  have h := Yae hL (stW L s k)
  rw [vW]
  have e : (2 : Int) ^ (8 * (k + 1)) = 256 * 2 ^ (8 * k) := by rw [Nat.mul_add, Int.pow_add]; simp [Int.mul_comm]
  have hp : (0 : Int) < 2 ^ (8 * k) := Int.pow_pos (by decide)
  rw [e]
  generalize (2 : Int) ^ (8 * k) = p at *
  obtain ⟨b, hb⟩ : ∃ b, reB L (stW L s k) = b := ⟨_, rfl⟩
  rw [hb] at h ⊢
  have h1 : 0 ≤ b * p := Int.mul_nonneg h.1 (by omega)
  have h2 : b * p ≤ 255 * p := Int.mul_le_mul_of_nonneg_right h.2 (by omega)
  omega
theorem Yrd (L : List Int) (s : Rd) : vW L s 4 = reW L s := by
 simp [vW, reW, stW]
theorem vW_or {L : List Int} (hL : BOk L) (s : Rd) (k : Nat) (hk : k < 4) : bits .or .u32 (vW L s k) (reB L (stW L s k) * 2 ^ (8 * k) % 4294967296) = vW L s (k + 1) := by
 have h := Yae hL (stW L s k)
 have h1 := Ykg hL s k
 have h2 := Ykg hL s (k + 1)
 have h3 : (2 : Int) ^ (8 * (k + 1)) ≤ 4294967296 := by
  have : k = 0 ∨ k = 1 ∨ k = 2 ∨ k = 3 := by omega
  rcases this with rfl | rfl | rfl | rfl <;> decide
 rw [vW] at h2
 rw [or_add _ _ _ h1.1 h1.2 h.1 (by omega), vW]
theorem Yci (d g : Nat) (s : Rd) (v : Value) (L : List Int) (w : World) (hD : Yl w d v L g s) :
  Calls Tryz.prog 59 #[.pointer (some ⟨d, 0, none⟩)] w fun e w' => e = .returned (.int .u32 (reW L s)) ∧ Yl w' d v L g (Yb1 L s) ∧ Upd [d] w w' := by
 have HD := Yh_ hD
 have HO := Yh_ (fun k => vW_or hD.r s k)
 have HR := Yh_ (fun s' => Yae hD.r s')
 clear hD
 go_enter Tryz.func59, Tryz.ntmps59
 go_wp2_with fail
 go_loopw [3, 4] (fun t i wr => ∃ k : Nat, k ≤ 4 ∧ t = .int .u32 (vW L s k) ∧ i = .int .i64 k ∧ Yl wr d v L g (stW L s k) ∧ Upd [d] w wr) (fun _ i _ => 4 - (intOf i).toNat)
 case atStart => exact ⟨0, by decide, rfl, rfl, HD.out, Upd.refl _ _⟩
 case round =>
  obtain ⟨k, hk, rfl, rfl, hI, hU⟩ := hrel
  have HI := Yh_ (And.intro hI hU)
  clear hI hU
  by_cases hlt : k < 4
  ·have hb := HR.out (stW L s k)
   have ho := HO.out k hlt
   obtain ⟨b, hbe⟩ : ∃ b, reB L (stW L s k) = b := ⟨_, rfl⟩
   rw [hbe] at hb ho
   have HBE := Yh_ hbe
   have q0 : b % 4294967296 = b := by omega
   have d1 : decide ((k : Int) < 4) = true := by simp; omega
   clear hbe
   go_wp2_with (go_at_call 53; refine (Yy d g _ v L _ HI.out.1).mono ?_; rintro e w4 ⟨rfl, h, hu⟩; rw [HBE.out]; have H4 := Yh_ (And.intro h (HI.out.2.also hu (by simp))); clear h hu)
   exact ⟨⟨k + 1, by omega, rfl, by go_num, H4.out.1, H4.out.2⟩, by simp [intOf]; omega⟩
  ·obtain rfl : k = 4 := by omega
   have d1 : decide (((4 : Nat) : Int) < 4) = false := by decide
   rw [Yrd]
   go_wp2_with fail
   go_ret
   exact ⟨rfl, HI.out.1, HI.out.2⟩
theorem i8_sx8 (b : Int) (hb : 0 ≤ b ∧ b ≤ 255) : wrap32 (IntKind.i8.wrap b) % 4294967296 = sx8 b := by
 have h : ∀ k : Fin 256, wrap32 (IntKind.i8.wrap (k.val : Int)) % 4294967296 = sx8 (k.val : Int) := by decide +kernel
 have := h ⟨b.toNat, by omega⟩
 simpa only [show ((b.toNat : Nat) : Int) = b by omega] using this
theorem Yez (d g : Nat) (s : Rd) (v : Value) (L : List Int) (w : World) (hD : Yl w d v L g s) :
  Calls Tryz.prog 58 #[.pointer (some ⟨d, 0, none⟩)] w fun e w' => e = .returned (.int .u32 (sx8 (reB L s))) ∧ Yl w' d v L g (Ym L s) ∧ Upd [d] w w' := by
 have HD := Yh_ hD
 have hb := Yae hD.r s
 obtain ⟨b, hbe⟩ : ∃ b, reB L s = b := ⟨_, rfl⟩
 rw [hbe] at hb ⊢
 have HBE := Yh_ hbe
 clear hD hbe
 go_enter Tryz.func58, Tryz.ntmps58
 go_wp2_with (go_at_call 53; refine (Yy d g _ v L _ HD.out).mono ?_; rintro e w4 ⟨rfl, h, hu⟩; rw [HBE.out]; have H4 := Yh_ (And.intro h hu); clear h hu)
 go_ret
 refine ⟨?_, H4.out.1, H4.out.2⟩
 show Ending.returned (.int .u32 (wrap32 (IntKind.i8.wrap b) % 4294967296)) = _
 rw [i8_sx8 b hb]
theorem Yba (r : Int) (w : World) : Calls Tryz.prog 56 #[.int .i64 r] w fun e w' => e = .returned (Yn r).val ∧ Upd [] w w' := by
 go_enter Tryz.func56, Tryz.ntmps56
 go_wp2
 exact bodyPost_ret (Yj rfl (Ybm 2 w.heap.size (Yn r) rfl (heap_alloc_new _ _))) rfl ⟨rfl, (Upd.refl _ _).alloc _⟩
theorem Ycb (r : Int) (w : World) : Calls Tryz.prog 57 #[.int .u32 r] w fun e w' => e = .returned (Yac r).val ∧ Upd [] w w' := by
 go_enter Tryz.func57, Tryz.ntmps57
 go_wp2
 exact bodyPost_ret (Yj rfl (Ybm 2 w.heap.size (Yac r) rfl (heap_alloc_new _ _))) rfl ⟨rfl, (Upd.refl _ _).alloc _⟩
end
end Go.Proofs.YteiplidhkelkbaaGreat
