/-
  Package float: differences; how two numbers compare. No condition.
-/
import Derived.Test.YtncafchgdgmeaaaFlA
import Derived.Test.YtncafchgdgmeaaaHpA
namespace Go.Proofs.Ytncafchgdgmeaaa
open Go Go.RowKit
set_option linter.unusedVariables false
set_option linter.unusedSimpArgs false

set_option maxRecDepth 100000 in
set_option maxHeartbeats 400000 in
theorem fl_Sub (x y : Int) (w : World) : Calls Try.prog 103 #[.int .u64 x, .int .u64 y] w fun e w' => e = .returned (.int .u64 (flDo .sub x.toNat y.toNat)) ∧ Upd [] w w' := by
  have hr := fun t => fl_run .sub (.inr (.inl rfl)) t x.toNat y.toNat w
  have tok1 : True := trivial
  obtain ⟨v, w1, h1, h2, h3⟩ := hr 162
  have H2 := Lib.hid (And.intro h2 h3)
  clear h2 h3 hr
  go_enter Try.func103, Try.ntmps103
  go_wp2_with (first | (have _t := tok1; clear _t; go_at_call 118; refine (fl_of x _).mono ?_; rintro e w' ⟨rfl, rfl⟩; clear tok1) | (go_at_call 118; refine (fl_of y _).mono ?_; rintro e w' ⟨rfl, rfl⟩) | (go_at_call 117; refine (fl_bits v _).mono ?_; rintro e w' ⟨rfl, rfl⟩; rw [H2.out.2]))
  go_ret
  exact ⟨rfl, H2.out.1⟩

def cmpZ (x y : Nat) : Bool := !isNum x || !isNum y || FloatKind.f64.format.order x y == some .eq
def cmpP (x y : Nat) : Bool := !isNum x || !isNum y
def cmpC (x y : Nat) : Bool := !isNum x || !isNum y || FloatKind.f64.format.order x y == some .lt

set_option maxRecDepth 100000 in
set_option maxHeartbeats 400000 in
theorem fl_Compare (x y : Int) (w : World) : Calls Try.prog 108 #[.int .u64 x, .int .u64 y] w fun e w' => e = .returned (.tuple #[.bool (cmpZ x.toNat y.toNat), .bool (cmpP x.toNat y.toNat), .bool (cmpC x.toNat y.toNat)]) ∧ Upd [] w w' := by
  unfold cmpZ cmpP cmpC
  have tok1 : True := trivial
  have hn1 : ∀ n, isNum n = true → (FloatKind.f64.format.order n n != some .eq) = false := fun n h => by simpa [isNum, bne] using h
  have hn0 : ∀ n, isNum n = false → (FloatKind.f64.format.order n n != some .eq) = true := fun n h => by simpa [isNum, bne] using h
  cases hx : isNum x.toNat
  · have h1 := hn0 _ hx
    clear hx hn0 hn1
    go_enter Try.func108, Try.ntmps108
    go_wp2_with (first | (have _t := tok1; clear _t; go_at_call 118; refine (fl_of x _).mono ?_; rintro e w' ⟨rfl, rfl⟩; clear tok1) | (go_at_call 118; refine (fl_of y _).mono ?_; rintro e w' ⟨rfl, rfl⟩))
    exact bodyPost_ret (results_three' rfl (res_tmp 4 rfl) (res_tmp 5 rfl) (res_tmp 6 rfl)) rfl ⟨rfl, Upd.refl _ _⟩
  · have h1 := hn1 _ hx
    cases hy : isNum y.toNat
    · have h2 := hn0 _ hy
      clear hx hn0 hn1 hy
      go_enter Try.func108, Try.ntmps108
      go_wp2_with (first | (have _t := tok1; clear _t; go_at_call 118; refine (fl_of x _).mono ?_; rintro e w' ⟨rfl, rfl⟩; clear tok1) | (go_at_call 118; refine (fl_of y _).mono ?_; rintro e w' ⟨rfl, rfl⟩))
      exact bodyPost_ret (results_three' rfl (res_tmp 4 rfl) (res_tmp 5 rfl) (res_tmp 6 rfl)) rfl ⟨rfl, Upd.refl _ _⟩
    · have h2 := hn1 _ hy
      clear hx hn0 hn1 hy
      go_enter Try.func108, Try.ntmps108
      go_wp2_with (first | (have _t := tok1; clear _t; go_at_call 118; refine (fl_of x _).mono ?_; rintro e w' ⟨rfl, rfl⟩; clear tok1) | (go_at_call 118; refine (fl_of y _).mono ?_; rintro e w' ⟨rfl, rfl⟩))
      exact bodyPost_ret (results_three' rfl (res_tmp 4 rfl) (res_tmp 5 rfl) (res_tmp 6 rfl)) rfl ⟨rfl, Upd.refl _ _⟩
end Go.Proofs.Ytncafchgdgmeaaa
