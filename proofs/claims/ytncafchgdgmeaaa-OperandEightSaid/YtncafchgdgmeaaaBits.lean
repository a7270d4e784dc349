/-
  Package bits: Field, by its contract.
-/
import Derived.Test.YtncafchgdgmeaaaRows
import Derived.Test.YtncafchgdgmeaaaRow
import Derived.Laws.BitsAllLaws
import Derived.WalkLawsBesides
import Derived.Lib.Hide
import Derived.Laws.IdiomCopy
namespace Go.Proofs.Ytncafchgdgmeaaa
open Go Go.RowKit
set_option linter.unusedVariables false
set_option linter.unusedSimpArgs false

theorem and_mask (x n : Nat) (hx : x < 18446744073709551616) (hn : n ≤ 32) : bits .and .u64 (x : Int) (IntKind.u64.wrap (IntKind.u64.wrap (2 ^ n) - 1)) = ((x % 2 ^ n : Nat) : Int) := by
  have h1 : (2 : Nat) ^ n ≤ 2 ^ 32 := Nat.pow_le_pow_right (by decide) hn
  have h2 : 0 < (2 : Nat) ^ n := Nat.pow_pos (by decide)
  have e : IntKind.u64.wrap (IntKind.u64.wrap (2 ^ n) - 1) = ((2 ^ n - 1 : Nat) : Int) := by
    have : ((2 : Int) ^ n) = ((2 ^ n : Nat) : Int) := by push_cast; rfl
    rw [this]
    generalize (2 : Nat) ^ n = m at *
    simp [IntKind.wrap, IntKind.signed, IntKind.bits]
    omega
  rw [e, u64_and_nat _ _ hx (by omega), Nat.and_two_pow_sub_one_eq_mod]

set_option maxRecDepth 100000 in
set_option maxHeartbeats 400000 in
theorem Field_any (x : Int) (a n : Nat) (w : World) (h0 : 0 ≤ x) (h1 : x < 4294967296) (ha : a < 32) (hn : n ≤ 32) :
    Calls Try.prog 77 #[.int .u32 x, .int .i64 a, .int .i64 n] w fun e w' => e = .returned (.int .u32 (x / 2 ^ a % 2 ^ n)) ∧ w = w' := by
  go_enter Try.func77, Try.ntmps77
  go_wp2
  go_ret
  refine ⟨ret_of (congrArg (Value.int .u32) ?_), rfl⟩
  obtain ⟨x, rfl⟩ := Int.eq_ofNat_of_zero_le h0
  have e : (x : Int) / 2 ^ a = ((x / 2 ^ a : Nat) : Int) := by push_cast; rfl
  have h3 : x / 2 ^ a ≤ x := Nat.div_le_self _ _
  rw [e, and_mask _ _ (by omega) hn]
  have h4 : x / 2 ^ a % 2 ^ n ≤ x / 2 ^ a := Nat.mod_le _ _
  have h5 : (((x / 2 ^ a % 2 ^ n : Nat) : Int)) % 4294967296 = ((x / 2 ^ a % 2 ^ n : Nat) : Int) := by omega
  rw [h5]
  push_cast
  rfl

end Go.Proofs.Ytncafchgdgmeaaa
