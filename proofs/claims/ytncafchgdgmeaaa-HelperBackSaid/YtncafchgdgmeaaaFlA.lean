/-
  Package float: the bits of a number and back; differences; how two numbers compare. No condition.
-/
import Derived.Test.YtncafchgdgmeaaaMem
import Derived.Test.YtncafchgdgmeaaaDraw2
import Derived.Test.YtncafchgdgmeaaaProg
import Derived.Laws.FloatArith
import Derived.Laws.Externs
namespace Go.Proofs.Ytncafchgdgmeaaa
open Go Go.RowKit
set_option linter.unusedVariables false
set_option linter.unusedSimpArgs false

/-- Is it a number? -/
def isNum (n : Nat) : Bool := FloatKind.f64.format.order n n == some .eq

/-- A number's bits, one for all that are none. -/
def flCanon (n : Nat) : Int := if isNum n then n else 9221120237041090560

/-- What one of the four reckonings makes. -/
def flDo (op : BinOp) (x y : Nat) : Int :=
  match floatBits op .f64 x y with | some r => flCanon r | none => 9221120237041090560

theorem fl_drawn (t : Nat) : isNum ((t % 2) * 2 ^ 63 + 0x7ff0000000000000 + 1 + (t / 2) % (2 ^ 52 - 1)) = false := by
  have hs : (t / 2) % (2 ^ 52 - 1) < 2 ^ 52 - 1 := Nat.mod_lt _ (by decide)
  generalize hq : (t / 2) % (2 ^ 52 - 1) = s at hs
  have hr : ((t % 2) * 2 ^ 63 + 0x7ff0000000000000 + 1 + s) % 9223372036854775808 = 0x7ff0000000000000 + 1 + s := by omega
  unfold isNum Ieee.Format.order Ieee.Format.read
  have e1 : FloatKind.f64.format.signWeight = 9223372036854775808 := by decide
  have e2 : FloatKind.f64.format.binade = 4503599627370496 := by decide
  have e3 : FloatKind.f64.format.infRung = 9218868437227405312 := by decide
  rw [e1, e2, e3]
  dsimp only
  rw [hr, if_neg (by omega), if_neg (by omega), if_neg (by omega)]
  rfl

theorem fl_run (op : BinOp) (hop : op = .add ∨ op = .sub ∨ op = .mul ∨ op = .quo) (t : TypeId) (x y : Nat) (w : World) :
    ∃ v w', (binOp op t (.float .f64 x) (.float .f64 y)).run Try.prog w = .ok (.float .f64 v) w' ∧ Upd [] w w' ∧ flCanon v = flDo op x y := by
  unfold flDo
  cases h : floatBits op .f64 x y with
  | some r => exact ⟨r, w, run_float_arith w op t .f64 x y r h, Upd.refl _ _, rfl⟩
  | none =>
    have hd := fl_drawn (w.tape w.drawn (.nanBits .f64 x y))
    generalize hv : (w.tape w.drawn (.nanBits .f64 x y) % 2) * 2 ^ 63 + 0x7ff0000000000000 + 1 + (w.tape w.drawn (.nanBits .f64 x y) / 2) % (2 ^ 52 - 1) = v at hd
    refine ⟨v, w.drew, ?_, (Upd.refl _ _).drew, ?_⟩
    · unfold floatBits at h
      rcases hop with rfl | rfl | rfl | rfl <;> simp only at h <;> simp [binOp, Op.floatArith, h, run_choose_drew, Question.forced, Question.cut, ← hv]
    · unfold flCanon
      rw [hd]
      rfl

theorem fl_of_run (n : Int) (w : World) : (callFunc 120 #[.int .u64 n]).run Try.prog w = .ok (.value (.float .f64 n.toNat)) w := by
  rw [run_callFunc_extern Try.func120 (by kernel_rfl) (by kernel_rfl) (by kernel_rfl) (e := Extern.MathFloatBits.float64frombits) (by kernel_rfl)]
  rfl
theorem fl_bits_run (n : Nat) (w : World) : (callFunc 121 #[.float .f64 n]).run Try.prog w = .ok (.value (.int .u64 n)) w := by
  rw [run_callFunc_extern Try.func121 (by kernel_rfl) (by kernel_rfl) (by kernel_rfl) (e := Extern.MathFloatBits.float64bits) (by kernel_rfl)]
  rfl

set_option maxRecDepth 100000 in
set_option maxHeartbeats 400000 in
theorem fl_of (n : Int) (w : World) : Calls Try.prog 118 #[.int .u64 n] w fun e w' => e = .returned (.float .f64 n.toNat) ∧ w = w' := by
  have h := fun w => fl_of_run n w
  go_enter Try.func118, Try.ntmps118
  go_wp2
  go_ret
  exact ⟨rfl, rfl⟩

set_option maxRecDepth 100000 in
set_option maxHeartbeats 400000 in
theorem fl_bits (n : Nat) (w : World) : Calls Try.prog 117 #[.float .f64 n] w fun e w' => e = .returned (.int .u64 (flCanon n)) ∧ w = w' := by
  have h := fun w => fl_bits_run n w
  unfold flCanon
  cases hn : isNum n
  · have h1 : (FloatKind.f64.format.order n n != some .eq) = true := by simpa [isNum, bne] using hn
    clear hn
    go_enter Try.func117, Try.ntmps117
    go_wp2
    go_ret
    exact ⟨rfl, rfl⟩
  · have h1 : (FloatKind.f64.format.order n n != some .eq) = false := by simpa [isNum, bne] using hn
    clear hn
    go_enter Try.func117, Try.ntmps117
    go_wp2
    go_ret
    exact ⟨rfl, rfl⟩
end Go.Proofs.Ytncafchgdgmeaaa
