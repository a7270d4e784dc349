/-
  The reference's division (ferrymanref8.Div), by its contract. No condition.
-/
import Derived.Test.YtoplekfnghkkdaaMg07
import Derived.Test.YtoplekfnghkkdaaMg01
import Derived.Test.YtoplekfnghkkdaaMg06
import Derived.Test.YtoplekfnghkkdaaProg
import Derived.Laws.FloatArith
import Derived.Laws.Externs
import Derived.Test.YtoplekfnghkkdaaMg03
import Derived.Test.YtoplekfnghkkdaaMg04
import Derived.Test.YtoplekfnghkkdaaMg05
import Derived.ChangeKeysEq
import Derived.Lib.SliceRun
namespace Go.Proofs.Ytoplekfnghkkdaa
open Go Go.RowKit
set_option linter.unusedVariables false
set_option linter.unusedSimpArgs false

set_option maxRecDepth 100000 in
set_option maxHeartbeats 1000000 in
theorem RDiv_any (lo hi d : Int) (hl : 0 ≤ lo ∧ lo < 4294967296) (hh : 0 ≤ hi ∧ hi < 4294967296) (hd : 0 ≤ d ∧ d < 4294967296) (w : World) :
    Calls Try.prog 64 #[.int .i64 19, .int .u32 lo, .int .u32 hi, .int .u32 d] w fun e w' => e = .returned (.tuple #[.int .u32 (divQ lo hi d), .int .u32 (divR lo hi d), .bool (divK lo hi d)]) ∧ Upd [] w w' := by
  have hmo : Try.prog.follows .mixedOrders = true := by kernel_rfl
  have hj := or_join lo hi hl hh
  have q1 : hi * 4294967296 % 18446744073709551616 = hi * 4294967296 := by omega
  by_cases h0 : d = 0
  · have HV := Lib.hid (show divQ lo hi d = 0 ∧ divR lo hi d = 0 ∧ divK lo hi d = false by
      unfold divQ divR divK
      exact ⟨if_neg (by omega), if_neg (by omega), by rw [decide_eq_false_iff_not]; omega⟩)
    subst h0
    obtain ⟨hl0, hl1⟩ := hl
    obtain ⟨hh0, hh1⟩ := hh
    go_enter Try.func64, Try.ntmps64
    go_wp2
    refine bodyPost_ret (results_three' rfl (res_tmp 8 rfl) (res_tmp 9 rfl) (res_tmp 10 rfl)) rfl ⟨?_, Upd.refl _ _⟩
    rw [HV.out.1, HV.out.2.1, HV.out.2.2]
    rfl
  · have hs := div_small (lo := lo) (hi := hi) (d := d) hl hh (by omega)
    have hd0 : (d == 0) = false := by simpa using h0
    have hn0 : 0 ≤ (hi * 4294967296 + lo) / d := Int.ediv_nonneg (by omega) (by omega)
    have q2 : (hi * 4294967296 + lo).tdiv d = (hi * 4294967296 + lo) / d := Int.tdiv_eq_ediv_of_nonneg (by omega)
    have q3 : (hi * 4294967296 + lo).tmod d = (hi * 4294967296 + lo) % d := Int.tmod_eq_emod_of_nonneg (by omega)
    have hm0 := Int.emod_nonneg (hi * 4294967296 + lo) h0
    have hm1 := Int.emod_lt_of_pos (hi * 4294967296 + lo) (show 0 < d by omega)
    have hle : (hi * 4294967296 + lo) / d ≤ hi * 4294967296 + lo := Int.ediv_le_self _ (by omega)
    have q4 : (hi * 4294967296 + lo) / d % 18446744073709551616 = (hi * 4294967296 + lo) / d := by omega
    have q5 : (hi * 4294967296 + lo) % d % 18446744073709551616 = (hi * 4294967296 + lo) % d := by omega
    have q6 : (hi * 4294967296 + lo) % d % 4294967296 = (hi * 4294967296 + lo) % d := by omega
    by_cases h1 : hi < d
    · have HV := Lib.hid (show divQ lo hi d = (hi * 4294967296 + lo) / d ∧ divR lo hi d = (hi * 4294967296 + lo) % d ∧ divK lo hi d = true by
        unfold divQ divR divK
        exact ⟨if_pos h1, if_pos h1, by simpa using h1⟩)
      have hq := hs.2 h1
      have q7 : (hi * 4294967296 + lo) / d % 4294967296 = (hi * 4294967296 + lo) / d := by omega
      have q8 : (hi * 4294967296 + lo) / d / 4294967296 = 0 := by omega
      obtain ⟨hl0, hl1⟩ := hl
      obtain ⟨hh0, hh1⟩ := hh
      obtain ⟨hd0, hd1⟩ := hd
      clear hs hle h1
      generalize (hi * 4294967296 + lo) / d = q at *
      generalize (hi * 4294967296 + lo) % d = r at *
      go_enter Try.func64, Try.ntmps64
      go_wp2
      refine wp_draw 10 (fun w1 => Upd [] w w1) (fun _ _ => False) (by kernel_rfl) (by kernel_rfl) (Upd.refl [] w).drew (fun _ _ _ h => h.elim) ?_
      simp only [List.take_succ_cons, List.take_zero, List.drop_succ_cons, List.drop_zero]
      iterate 10
        apply headW_val rfl rfl
        · intro K hK w1 hB1
          have HB := Lib.hid hB1
          clear hB1
          go_wp2_with fail
          first
          | exact hK _ HB.out
          | exact HB.out
        · exact ⟨_, rfl⟩
      refine headW_nil (fun _ w7 hB1 => ?_)
      go_wp2_with fail
      refine bodyPost_ret (results_three' rfl (res_tmp 8 rfl) (res_tmp 9 rfl) (res_tmp 10 rfl)) rfl ⟨?_, hB1⟩
      rw [HV.out.1, HV.out.2.1, HV.out.2.2]
      rfl
    · have HV := Lib.hid (show divQ lo hi d = 0 ∧ divR lo hi d = 0 ∧ divK lo hi d = false by
        unfold divQ divR divK
        exact ⟨if_neg h1, if_neg h1, by rw [decide_eq_false_iff_not]; exact h1⟩)
      have hq : ¬ (hi * 4294967296 + lo) / d ≤ 4294967295 := fun h => h1 (hs.1 h)
      have q8 : ((hi * 4294967296 + lo) / d / 4294967296 == 0) = false := by simp; omega
      have q9 : ((hi * 4294967296 + lo) / d / 4294967296 != 0) = true := by simp; omega
      obtain ⟨hl0, hl1⟩ := hl
      obtain ⟨hh0, hh1⟩ := hh
      obtain ⟨hd0, hd1⟩ := hd
      clear hs hle h1 hq
      generalize (hi * 4294967296 + lo) / d = q at *
      generalize (hi * 4294967296 + lo) % d = r at *
      go_enter Try.func64, Try.ntmps64
      go_wp2
      refine bodyPost_ret (results_three' rfl (res_tmp 8 rfl) (res_tmp 9 rfl) (res_tmp 10 rfl)) rfl ⟨?_, Upd.refl _ _⟩
      rw [HV.out.1, HV.out.2.1, HV.out.2.2]
      rfl

set_option maxRecDepth 100000 in
set_option maxHeartbeats 1000000 in
theorem RSDiv_any (lo hi d : Int) (hl : 0 ≤ lo ∧ lo < 4294967296) (hh : 0 ≤ hi ∧ hi < 4294967296) (hd : 0 ≤ d ∧ d < 4294967296) (w : World) :
    Calls Try.prog 64 #[.int .i64 20, .int .u32 lo, .int .u32 hi, .int .u32 d] w fun e w' => e = .returned (.tuple #[.int .u32 (sgQ lo hi d), .int .u32 (sgR lo hi d), .bool (sgK lo hi d)]) ∧ Upd [] w w' := by
  have hmo : Try.prog.follows .mixedOrders = true := by kernel_rfl
  have hj := or_join lo hi hl hh
  have q1 : hi * 4294967296 % 18446744073709551616 = hi * 4294967296 := by omega
  by_cases h0 : d = 0
  · have HV := Lib.hid (show sgQ lo hi d = 0 ∧ sgR lo hi d = 0 ∧ sgK lo hi d = false by
      rw [h0]
      exact ⟨rfl, rfl, rfl⟩)
    subst h0
    obtain ⟨hl0, hl1⟩ := hl
    obtain ⟨hh0, hh1⟩ := hh
    go_enter Try.func64, Try.ntmps64
    go_wp2
    refine bodyPost_ret (results_three' rfl (res_tmp 8 rfl) (res_tmp 9 rfl) (res_tmp 10 rfl)) rfl ⟨?_, Upd.refl _ _⟩
    rw [HV.out.1, HV.out.2.1, HV.out.2.2]
    rfl
  · have hd0 : (d == 0) = false := by simpa using h0
    have hz : wrap32 d ≠ 0 := by unfold wrap32; omega
    obtain ⟨n, hn⟩ : ∃ n, wrap64 (hi * 4294967296 + lo) = n := ⟨_, rfl⟩
    obtain ⟨e, he⟩ : ∃ e, wrap32 d = e := ⟨_, rfl⟩
    have hnr := w64_range (hi * 4294967296 + lo)
    have her := w32_range d
    rw [hn] at hnr
    rw [he] at her hz
    have w1 := w64_id e (by omega) (by omega)
    have HV := Lib.hid (show sgQ lo hi d = sdivQ n e ∧ sgR lo hi d = sdivR n e ∧ sgK lo hi d = sdivK n e by
      unfold sgQ sgR sgK
      rw [hd0, hn, he]
      exact ⟨rfl, rfl, rfl⟩)
    have hez : (e == 0) = false := by simpa using hz
    by_cases h1 : n = -9223372036854775808 ∧ e = -1
    · obtain ⟨rfl, rfl⟩ := h1
      have HW := Lib.hid (show sdivQ (-9223372036854775808) (-1) = 0 ∧ sdivR (-9223372036854775808) (-1) = 0 ∧ sdivK (-9223372036854775808) (-1) = false by decide +kernel)
      obtain ⟨hl0, hl1⟩ := hl
      obtain ⟨hh0, hh1⟩ := hh
      obtain ⟨hd1, hd2⟩ := hd
      clear hnr her hz
      go_enter Try.func64, Try.ntmps64
      go_wp2
      refine bodyPost_ret (results_three' rfl (res_tmp 8 rfl) (res_tmp 9 rfl) (res_tmp 10 rfl)) rfl ⟨?_, Upd.refl _ _⟩
      rw [HV.out.1, HV.out.2.1, HV.out.2.2, HW.out.1, HW.out.2.1, HW.out.2.2]
      rfl
    · obtain ⟨q, hq⟩ : ∃ q, n.tdiv e = q := ⟨_, rfl⟩
      obtain ⟨r, hr⟩ : ∃ r, n.tmod e = r := ⟨_, rfl⟩
      have hqr := tdiv_range n e hnr hz h1
      have hrr := tmod_range n e her hz
      have hK := sdivK_yes hq h1
      rw [hq] at hqr
      rw [hr] at hrr
      have v1 := w64_id q hqr.1 hqr.2
      have v2 := w64_id r (by omega) (by omega)
      by_cases hk : -2147483648 ≤ q ∧ q < 2147483648
      · have hK2 : sdivK n e = true := by rw [hK]; simp; omega
        have HW := Lib.hid (show sdivQ n e = q % 4294967296 ∧ sdivR n e = r % 4294967296 ∧ sdivK n e = true from ⟨by rw [sdivQ, hK2, if_pos rfl, hq], by rw [sdivR, hK2, if_pos rfl, hr], hK2⟩)
        have w3 := w32_id q hk.1 (by omega)
        obtain ⟨hl0, hl1⟩ := hl
        obtain ⟨hh0, hh1⟩ := hh
        obtain ⟨hd1, hd2⟩ := hd
        clear hqr hrr hK hK2 hk hnr her
        cases hm : (e == -1)
        case' true =>
          have hm2 : (n == -9223372036854775808) = false := by
            rw [← Bool.not_eq_true, beq_iff_eq]
            exact fun h => h1 ⟨h, by simpa using hm⟩
        all_goals
          clear h1
          go_enter Try.func64, Try.ntmps64
          go_wp2
          refine wp_draw 9 (fun w1 => Upd [] w w1) (fun _ _ => False) (by kernel_rfl) (by kernel_rfl) (Upd.refl [] w).drew (fun _ _ _ h => h.elim) ?_
          simp only [List.take_succ_cons, List.take_zero, List.drop_succ_cons, List.drop_zero]
          repeat
            apply headW_val rfl rfl
            · intro K hK w1 hB1
              have HB := Lib.hid hB1
              clear hB1
              go_wp2_with fail
              first
              | exact hK _ HB.out
              | exact HB.out
            · exact ⟨_, rfl⟩
          refine headW_nil (fun _ w7 hB1 => ?_)
          go_wp2_with fail
          refine bodyPost_ret (results_three' rfl (res_tmp 8 rfl) (res_tmp 9 rfl) (res_tmp 10 rfl)) rfl ⟨?_, hB1⟩
          rw [HV.out.1, HV.out.2.1, HV.out.2.2, HW.out.1, HW.out.2.1, HW.out.2.2]
          rfl
      · have hK2 : sdivK n e = false := by rw [hK, ← Bool.not_eq_true]; simp; omega
        have HW := Lib.hid (show sdivQ n e = 0 ∧ sdivR n e = 0 ∧ sdivK n e = false from ⟨by rw [sdivQ, hK2]; rfl, by rw [sdivR, hK2]; rfl, hK2⟩)
        obtain ⟨z, hz2⟩ : ∃ z, wrap32 q = z := ⟨_, rfl⟩
        have hzr := w32_range q
        rw [hz2] at hzr
        have w3 := w64_id z (by omega) (by omega)
        have hne : (q != z) = true := by simp; omega
        obtain ⟨hl0, hl1⟩ := hl
        obtain ⟨hh0, hh1⟩ := hh
        obtain ⟨hd1, hd2⟩ := hd
        clear hqr hrr hK hK2 hk hnr her hzr
        cases hm : (e == -1)
        case' true =>
          have hm2 : (n == -9223372036854775808) = false := by
            rw [← Bool.not_eq_true, beq_iff_eq]
            exact fun h => h1 ⟨h, by simpa using hm⟩
        all_goals
          clear h1
          go_enter Try.func64, Try.ntmps64
          go_wp2
          refine bodyPost_ret (results_three' rfl (res_tmp 8 rfl) (res_tmp 9 rfl) (res_tmp 10 rfl)) rfl ⟨?_, Upd.refl _ _⟩
          rw [HV.out.1, HV.out.2.1, HV.out.2.2, HW.out.1, HW.out.2.1, HW.out.2.2]
          rfl

end Go.Proofs.Ytoplekfnghkkdaa

/-
  Package float: the bits of a number and back; differences; how two numbers compare. No condition.
-/
namespace Go.Proofs.Ytoplekfnghkkdaa
open Go Go.RowKit
set_option linter.unusedVariables false
set_option linter.unusedSimpArgs false

/-- Is it a number? -/
def isNum (n : Nat) : Bool := FloatKind.f64.format.order n n == some .eq

/-- A number's bits, one for all that are none. -/
def flCanon (n : Nat) : Int := if isNum n then n else 9221120237041090560

/-- What one of the four reckonings makes. -/
def flDo (op : BinOp) (x y : Nat) : Int :=
  match floatBits op .f64 x y with | some r => flCanon r | none => 9221120237041090560

theorem fl_drawn (t : Nat) : isNum ((t % 2) * 2 ^ 63 + 0x7ff0000000000000 + 1 + (t / 2) % (2 ^ 52 - 1)) = false := by
  have hs : (t / 2) % (2 ^ 52 - 1) < 2 ^ 52 - 1 := Nat.mod_lt _ (by decide)
  generalize hq : (t / 2) % (2 ^ 52 - 1) = s at hs
  have hr : ((t % 2) * 2 ^ 63 + 0x7ff0000000000000 + 1 + s) % 9223372036854775808 = 0x7ff0000000000000 + 1 + s := by omega
  unfold isNum Ieee.Format.order Ieee.Format.read
  have e1 : FloatKind.f64.format.signWeight = 9223372036854775808 := by decide
  have e2 : FloatKind.f64.format.binade = 4503599627370496 := by decide
  have e3 : FloatKind.f64.format.infRung = 9218868437227405312 := by decide
  rw [e1, e2, e3]
  dsimp only
  rw [hr, if_neg (by omega), if_neg (by omega), if_neg (by omega)]
  rfl

theorem fl_run (op : BinOp) (hop : op = .add ∨ op = .sub ∨ op = .mul ∨ op = .quo) (t : TypeId) (x y : Nat) (w : World) :
    ∃ v w', (binOp op t (.float .f64 x) (.float .f64 y)).run Try.prog w = .ok (.float .f64 v) w' ∧ Upd [] w w' ∧ flCanon v = flDo op x y := by
  unfold flDo
  cases h : floatBits op .f64 x y with
  | some r => exact ⟨r, w, run_float_arith w op t .f64 x y r h, Upd.refl _ _, rfl⟩
  | none =>
    have hd := fl_drawn (w.tape w.drawn (.nanBits .f64 x y))
    generalize hv : (w.tape w.drawn (.nanBits .f64 x y) % 2) * 2 ^ 63 + 0x7ff0000000000000 + 1 + (w.tape w.drawn (.nanBits .f64 x y) / 2) % (2 ^ 52 - 1) = v at hd
    refine ⟨v, w.drew, ?_, (Upd.refl _ _).drew, ?_⟩
    · unfold floatBits at h
      rcases hop with rfl | rfl | rfl | rfl <;> simp only at h <;> simp [binOp, Op.floatArith, h, run_choose_drew, Question.forced, Question.cut, ← hv]
    · unfold flCanon
      rw [hd]
      rfl

theorem fl_of_run (n : Int) (w : World) : (callFunc 194 #[.int .u64 n]).run Try.prog w = .ok (.value (.float .f64 n.toNat)) w := by
  rw [run_callFunc_extern Try.func194 (by kernel_rfl) (by kernel_rfl) (by kernel_rfl) (e := Extern.MathFloatBits.float64frombits) (by kernel_rfl)]
  rfl
theorem fl_bits_run (n : Nat) (w : World) : (callFunc 195 #[.float .f64 n]).run Try.prog w = .ok (.value (.int .u64 n)) w := by
  rw [run_callFunc_extern Try.func195 (by kernel_rfl) (by kernel_rfl) (by kernel_rfl) (e := Extern.MathFloatBits.float64bits) (by kernel_rfl)]
  rfl

set_option maxRecDepth 100000 in
set_option maxHeartbeats 400000 in
theorem fl_of (n : Int) (w : World) : Calls Try.prog 184 #[.int .u64 n] w fun e w' => e = .returned (.float .f64 n.toNat) ∧ w = w' := by
  have h := fun w => fl_of_run n w
  go_enter Try.func184, Try.ntmps184
  go_wp2
  go_ret
  exact ⟨rfl, rfl⟩

set_option maxRecDepth 100000 in
set_option maxHeartbeats 400000 in
theorem fl_bits (n : Nat) (w : World) : Calls Try.prog 183 #[.float .f64 n] w fun e w' => e = .returned (.int .u64 (flCanon n)) ∧ w = w' := by
  have h := fun w => fl_bits_run n w
  unfold flCanon
  cases hn : isNum n
  · have h1 : (FloatKind.f64.format.order n n != some .eq) = true := by simpa [isNum, bne] using hn
    clear hn
    go_enter Try.func183, Try.ntmps183
    go_wp2
    go_ret
    exact ⟨rfl, rfl⟩
  · have h1 : (FloatKind.f64.format.order n n != some .eq) = false := by simpa [isNum, bne] using hn
    clear hn
    go_enter Try.func183, Try.ntmps183
    go_wp2
    go_ret
    exact ⟨rfl, rfl⟩
end Go.Proofs.Ytoplekfnghkkdaa

/-
  Package float: differences; how two numbers compare. No condition.
-/
namespace Go.Proofs.Ytoplekfnghkkdaa
open Go Go.RowKit
set_option linter.unusedVariables false
set_option linter.unusedSimpArgs false

set_option maxRecDepth 100000 in
set_option maxHeartbeats 400000 in
theorem fl_Sub (x y : Int) (w : World) : Calls Try.prog 120 #[.int .u64 x, .int .u64 y] w fun e w' => e = .returned (.int .u64 (flDo .sub x.toNat y.toNat)) ∧ Upd [] w w' := by
  have hr := fun t => fl_run .sub (.inr (.inl rfl)) t x.toNat y.toNat w
  have tok1 : True := trivial
  obtain ⟨v, w1, h1, h2, h3⟩ := hr 207
  have H2 := Lib.hid (And.intro h2 h3)
  clear h2 h3 hr
  go_enter Try.func120, Try.ntmps120
  go_wp2_with (first | (have _t := tok1; clear _t; go_at_call 184; refine (fl_of x _).mono ?_; rintro e w' ⟨rfl, rfl⟩; clear tok1) | (go_at_call 184; refine (fl_of y _).mono ?_; rintro e w' ⟨rfl, rfl⟩) | (go_at_call 183; refine (fl_bits v _).mono ?_; rintro e w' ⟨rfl, rfl⟩; rw [H2.out.2]))
  go_ret
  exact ⟨rfl, H2.out.1⟩

def cmpZ (x y : Nat) : Bool := !isNum x || !isNum y || FloatKind.f64.format.order x y == some .eq
def cmpP (x y : Nat) : Bool := !isNum x || !isNum y
def cmpC (x y : Nat) : Bool := !isNum x || !isNum y || FloatKind.f64.format.order x y == some .lt

set_option maxRecDepth 100000 in
set_option maxHeartbeats 400000 in
theorem fl_Compare (x y : Int) (w : World) : Calls Try.prog 125 #[.int .u64 x, .int .u64 y] w fun e w' => e = .returned (.tuple #[.bool (cmpZ x.toNat y.toNat), .bool (cmpP x.toNat y.toNat), .bool (cmpC x.toNat y.toNat)]) ∧ Upd [] w w' := by
  unfold cmpZ cmpP cmpC
  have tok1 : True := trivial
  have hn1 : ∀ n, isNum n = true → (FloatKind.f64.format.order n n != some .eq) = false := fun n h => by simpa [isNum, bne] using h
  have hn0 : ∀ n, isNum n = false → (FloatKind.f64.format.order n n != some .eq) = true := fun n h => by simpa [isNum, bne] using h
  cases hx : isNum x.toNat
  · have h1 := hn0 _ hx
    clear hx hn0 hn1
    go_enter Try.func125, Try.ntmps125
    go_wp2_with (first | (have _t := tok1; clear _t; go_at_call 184; refine (fl_of x _).mono ?_; rintro e w' ⟨rfl, rfl⟩; clear tok1) | (go_at_call 184; refine (fl_of y _).mono ?_; rintro e w' ⟨rfl, rfl⟩))
    exact bodyPost_ret (results_three' rfl (res_tmp 4 rfl) (res_tmp 5 rfl) (res_tmp 6 rfl)) rfl ⟨rfl, Upd.refl _ _⟩
  · have h1 := hn1 _ hx
    cases hy : isNum y.toNat
    · have h2 := hn0 _ hy
      clear hx hn0 hn1 hy
      go_enter Try.func125, Try.ntmps125
      go_wp2_with (first | (have _t := tok1; clear _t; go_at_call 184; refine (fl_of x _).mono ?_; rintro e w' ⟨rfl, rfl⟩; clear tok1) | (go_at_call 184; refine (fl_of y _).mono ?_; rintro e w' ⟨rfl, rfl⟩))
      exact bodyPost_ret (results_three' rfl (res_tmp 4 rfl) (res_tmp 5 rfl) (res_tmp 6 rfl)) rfl ⟨rfl, Upd.refl _ _⟩
    · have h2 := hn1 _ hy
      clear hx hn0 hn1 hy
      go_enter Try.func125, Try.ntmps125
      go_wp2_with (first | (have _t := tok1; clear _t; go_at_call 184; refine (fl_of x _).mono ?_; rintro e w' ⟨rfl, rfl⟩; clear tok1) | (go_at_call 184; refine (fl_of y _).mono ?_; rintro e w' ⟨rfl, rfl⟩))
      exact bodyPost_ret (results_three' rfl (res_tmp 4 rfl) (res_tmp 5 rfl) (res_tmp 6 rfl)) rfl ⟨rfl, Upd.refl _ _⟩
end Go.Proofs.Ytoplekfnghkkdaa

/-
  Package float: sums, products, quotients. No condition.
-/
namespace Go.Proofs.Ytoplekfnghkkdaa
open Go Go.RowKit
set_option linter.unusedVariables false
set_option linter.unusedSimpArgs false

set_option maxRecDepth 100000 in
set_option maxHeartbeats 1000000 in
theorem fl_Add (x y : Int) (w : World) : Calls Try.prog 119 #[.int .u64 x, .int .u64 y] w fun e w' => e = .returned (.int .u64 (flDo .add x.toNat y.toNat)) ∧ Upd [] w w' := by
  have hr := fun t => fl_run .add (.inl rfl) t x.toNat y.toNat w
  have tok1 : True := trivial
  obtain ⟨v, w1, h1, h2, h3⟩ := hr 207
  have H2 := Lib.hid (And.intro h2 h3)
  clear h2 h3 hr
  go_enter Try.func119, Try.ntmps119
  go_wp2_with (first | (have _t := tok1; clear _t; go_at_call 184; refine (fl_of x _).mono ?_; rintro e w' ⟨rfl, rfl⟩; clear tok1) | (go_at_call 184; refine (fl_of y _).mono ?_; rintro e w' ⟨rfl, rfl⟩) | (go_at_call 183; refine (fl_bits v _).mono ?_; rintro e w' ⟨rfl, rfl⟩; rw [H2.out.2]))
  go_ret
  exact ⟨rfl, H2.out.1⟩

set_option maxRecDepth 100000 in
set_option maxHeartbeats 1000000 in
theorem fl_Mul (x y : Int) (w : World) : Calls Try.prog 121 #[.int .u64 x, .int .u64 y] w fun e w' => e = .returned (.int .u64 (flDo .mul x.toNat y.toNat)) ∧ Upd [] w w' := by
  have hr := fun t => fl_run .mul (.inr (.inr (.inl rfl))) t x.toNat y.toNat w
  have tok1 : True := trivial
  obtain ⟨v, w1, h1, h2, h3⟩ := hr 207
  have H2 := Lib.hid (And.intro h2 h3)
  clear h2 h3 hr
  go_enter Try.func121, Try.ntmps121
  go_wp2_with (first | (have _t := tok1; clear _t; go_at_call 184; refine (fl_of x _).mono ?_; rintro e w' ⟨rfl, rfl⟩; clear tok1) | (go_at_call 184; refine (fl_of y _).mono ?_; rintro e w' ⟨rfl, rfl⟩) | (go_at_call 183; refine (fl_bits v _).mono ?_; rintro e w' ⟨rfl, rfl⟩; rw [H2.out.2]))
  go_ret
  exact ⟨rfl, H2.out.1⟩

set_option maxRecDepth 100000 in
set_option maxHeartbeats 1000000 in
theorem fl_Div (x y : Int) (w : World) : Calls Try.prog 122 #[.int .u64 x, .int .u64 y] w fun e w' => e = .returned (.int .u64 (flDo .quo x.toNat y.toNat)) ∧ Upd [] w w' := by
  have hr := fun t => fl_run .quo (.inr (.inr (.inr rfl))) t x.toNat y.toNat w
  have tok1 : True := trivial
  obtain ⟨v, w1, h1, h2, h3⟩ := hr 207
  have H2 := Lib.hid (And.intro h2 h3)
  clear h2 h3 hr
  go_enter Try.func122, Try.ntmps122
  go_wp2_with (first | (have _t := tok1; clear _t; go_at_call 184; refine (fl_of x _).mono ?_; rintro e w' ⟨rfl, rfl⟩; clear tok1) | (go_at_call 184; refine (fl_of y _).mono ?_; rintro e w' ⟨rfl, rfl⟩) | (go_at_call 183; refine (fl_bits v _).mono ?_; rintro e w' ⟨rfl, rfl⟩; rw [H2.out.2]))
  go_ret
  exact ⟨rfl, H2.out.1⟩

end Go.Proofs.Ytoplekfnghkkdaa

/-
  The reference's numbers (ferrymanref2): Do, Compare, each by its contract. No condition.
-/
namespace Go.Proofs.Ytoplekfnghkkdaa
open Go Go.RowKit
set_option linter.unusedVariables false
set_option linter.unusedSimpArgs false

theorem datum_order_self (d : Ieee.Datum) : (d.order d == some .eq) = match d with | .nan .. => false | _ => true := by
  cases d with
  | nan => rfl
  | infinity s => cases s <;> rfl
  | number s m i => simp [Ieee.Datum.order]

theorem isNum_iff (n : Nat) : isNum n = decide (n % 9223372036854775808 ≤ 9218868437227405312) := by
  unfold isNum Ieee.Format.order
  rw [datum_order_self]
  unfold Ieee.Format.read
  have e1 : FloatKind.f64.format.signWeight = 9223372036854775808 := by decide
  have e2 : FloatKind.f64.format.binade = 4503599627370496 := by decide
  have e3 : FloatKind.f64.format.infRung = 9218868437227405312 := by decide
  rw [e1, e2, e3]
  dsimp only
  generalize n % 9223372036854775808 = r
  by_cases h1 : r < 4503599627370496
  · rw [if_pos h1, decide_eq_true (by omega)]
  · rw [if_neg h1]
    by_cases h2 : r < 9218868437227405312
    · rw [if_pos h2, decide_eq_true (by omega)]
    · rw [if_neg h2]
      by_cases h3 : r = 9218868437227405312
      · rw [if_pos h3, decide_eq_true (by omega)]
      · rw [if_neg h3, decide_eq_false (by omega)]

set_option maxRecDepth 100000 in
set_option maxHeartbeats 400000 in
theorem rf_num (n : Int) (w : World) : Calls Try.prog 137 #[.int .u64 n] w fun e w' => e = .returned (.float .f64 n.toNat) ∧ w = w' := by
  have h := fun w => fl_of_run n w
  go_enter Try.func137, Try.ntmps137
  go_wp2
  go_ret
  exact ⟨rfl, rfl⟩

set_option maxRecDepth 100000 in
set_option maxHeartbeats 400000 in
theorem rf_bits (n : Nat) (w : World) : Calls Try.prog 138 #[.float .f64 n] w fun e w' => e = .returned (.int .u64 (flCanon n)) ∧ w = w' := by
  have h := fun w => fl_bits_run n w
  unfold flCanon
  cases hn : isNum n
  · have h1 : (FloatKind.f64.format.order n n != some .eq) = true := by simpa [isNum, bne] using hn
    clear hn
    go_enter Try.func138, Try.ntmps138
    go_wp2
    go_ret
    exact ⟨rfl, rfl⟩
  · have h1 : (FloatKind.f64.format.order n n != some .eq) = false := by simpa [isNum, bne] using hn
    clear hn
    go_enter Try.func138, Try.ntmps138
    go_wp2
    go_ret
    exact ⟨rfl, rfl⟩

set_option maxRecDepth 100000 in
set_option maxHeartbeats 400000 in
theorem rf_None (a : Int) (h0 : 0 ≤ a) (h1 : a < 18446744073709551616) (w : World) : Calls Try.prog 139 #[.int .u64 a] w fun e w' => e = .returned (.bool (!isNum a.toNat)) ∧ w = w' := by
  have HV := Lib.hid (show (!isNum a.toNat) = decide (18437736874454810624 < a * 2 % 18446744073709551616) by
    rw [isNum_iff, ← decide_not, decide_eq_decide]
    omega)
  clear h1
  go_enter Try.func139, Try.ntmps139
  go_wp2
  go_ret
  rw [HV.out]
  exact ⟨rfl, rfl⟩

def opName (n : Int) : BinOp := if n = 0 then .add else if n = 1 then .sub else if n = 2 then .mul else .quo

set_option maxRecDepth 100000 in
set_option maxHeartbeats 1000000 in
theorem rf_Do0 (x y : Int) (w : World) : Calls Try.prog 68 #[.int .i64 0, .int .u64 x, .int .u64 y] w fun e w' => e = .returned (.int .u64 (flDo .add x.toNat y.toNat)) ∧ Upd [] w w' := by
  have hr := fun t => fl_run .add (.inl rfl) t x.toNat y.toNat w
  have tok1 : True := trivial
  obtain ⟨v, w1, h1, h2, h3⟩ := hr 207
  have H2 := Lib.hid (And.intro h2 h3)
  clear h2 h3 hr
  go_enter Try.func68, Try.ntmps68
  go_wp2_with (first | (have _t := tok1; clear _t; go_at_call 137; refine (rf_num x _).mono ?_; rintro e w' ⟨rfl, rfl⟩; clear tok1) | (go_at_call 137; refine (rf_num y _).mono ?_; rintro e w' ⟨rfl, rfl⟩) | (go_at_call 138; refine (rf_bits v _).mono ?_; rintro e w' ⟨rfl, rfl⟩; rw [H2.out.2]))
  go_ret
  exact ⟨rfl, H2.out.1⟩

set_option maxRecDepth 100000 in
set_option maxHeartbeats 1000000 in
theorem rf_Do1 (x y : Int) (w : World) : Calls Try.prog 68 #[.int .i64 1, .int .u64 x, .int .u64 y] w fun e w' => e = .returned (.int .u64 (flDo .sub x.toNat y.toNat)) ∧ Upd [] w w' := by
  have hr := fun t => fl_run .sub (.inr (.inl rfl)) t x.toNat y.toNat w
  have tok1 : True := trivial
  obtain ⟨v, w1, h1, h2, h3⟩ := hr 207
  have H2 := Lib.hid (And.intro h2 h3)
  clear h2 h3 hr
  go_enter Try.func68, Try.ntmps68
  go_wp2_with (first | (have _t := tok1; clear _t; go_at_call 137; refine (rf_num x _).mono ?_; rintro e w' ⟨rfl, rfl⟩; clear tok1) | (go_at_call 137; refine (rf_num y _).mono ?_; rintro e w' ⟨rfl, rfl⟩) | (go_at_call 138; refine (rf_bits v _).mono ?_; rintro e w' ⟨rfl, rfl⟩; rw [H2.out.2]))
  go_ret
  exact ⟨rfl, H2.out.1⟩

set_option maxRecDepth 100000 in
set_option maxHeartbeats 1000000 in
theorem rf_Do2 (x y : Int) (w : World) : Calls Try.prog 68 #[.int .i64 2, .int .u64 x, .int .u64 y] w fun e w' => e = .returned (.int .u64 (flDo .mul x.toNat y.toNat)) ∧ Upd [] w w' := by
  have hr := fun t => fl_run .mul (.inr (.inr (.inl rfl))) t x.toNat y.toNat w
  have tok1 : True := trivial
  obtain ⟨v, w1, h1, h2, h3⟩ := hr 207
  have H2 := Lib.hid (And.intro h2 h3)
  clear h2 h3 hr
  go_enter Try.func68, Try.ntmps68
  go_wp2_with (first | (have _t := tok1; clear _t; go_at_call 137; refine (rf_num x _).mono ?_; rintro e w' ⟨rfl, rfl⟩; clear tok1) | (go_at_call 137; refine (rf_num y _).mono ?_; rintro e w' ⟨rfl, rfl⟩) | (go_at_call 138; refine (rf_bits v _).mono ?_; rintro e w' ⟨rfl, rfl⟩; rw [H2.out.2]))
  go_ret
  exact ⟨rfl, H2.out.1⟩

set_option maxRecDepth 100000 in
set_option maxHeartbeats 1000000 in
theorem rf_Do3 (x y : Int) (w : World) : Calls Try.prog 68 #[.int .i64 3, .int .u64 x, .int .u64 y] w fun e w' => e = .returned (.int .u64 (flDo .quo x.toNat y.toNat)) ∧ Upd [] w w' := by
  have hr := fun t => fl_run .quo (.inr (.inr (.inr rfl))) t x.toNat y.toNat w
  have tok1 : True := trivial
  obtain ⟨v, w1, h1, h2, h3⟩ := hr 207
  have H2 := Lib.hid (And.intro h2 h3)
  clear h2 h3 hr
  go_enter Try.func68, Try.ntmps68
  go_wp2_with (first | (have _t := tok1; clear _t; go_at_call 137; refine (rf_num x _).mono ?_; rintro e w' ⟨rfl, rfl⟩; clear tok1) | (go_at_call 137; refine (rf_num y _).mono ?_; rintro e w' ⟨rfl, rfl⟩) | (go_at_call 138; refine (rf_bits v _).mono ?_; rintro e w' ⟨rfl, rfl⟩; rw [H2.out.2]))
  go_ret
  exact ⟨rfl, H2.out.1⟩

set_option maxRecDepth 100000 in
set_option maxHeartbeats 1000000 in
theorem rf_Compare (x y : Int) (hx : 0 ≤ x ∧ x < 18446744073709551616) (hy : 0 ≤ y ∧ y < 18446744073709551616) (w : World) : Calls Try.prog 69 #[.int .u64 x, .int .u64 y] w fun e w' => e = .returned (.tuple #[.bool (cmpZ x.toNat y.toNat), .bool (cmpP x.toNat y.toNat), .bool (cmpC x.toNat y.toNat)]) ∧ Upd [] w w' := by
  unfold cmpZ cmpP cmpC
  have HX := Lib.hid hx
  have HY := Lib.hid hy
  have tok1 : True := trivial
  have tok2 : True := trivial
  have tok3 : True := trivial
  have tok4 : True := trivial
  clear hx hy
  cases h1 : isNum x.toNat
  · have H1 := Lib.hid h1
    clear h1
    go_enter Try.func69, Try.ntmps69
    go_wp2_with (go_at_call 139; refine (rf_None x HX.out.1 HX.out.2 _).mono ?_; rintro e w' ⟨rfl, rfl⟩; rw [H1.out])
    exact bodyPost_ret (results_three' rfl (res_tmp 4 rfl) (res_tmp 5 rfl) (res_tmp 6 rfl)) rfl ⟨rfl, Upd.refl _ _⟩
  · have H1 := Lib.hid h1
    clear h1
    cases h2 : isNum y.toNat
    · have H2 := Lib.hid h2
      clear h2
      go_enter Try.func69, Try.ntmps69
      go_wp2_with (first | (have _t := tok1; clear _t; go_at_call 139; refine (rf_None x HX.out.1 HX.out.2 _).mono ?_; rintro e w' ⟨rfl, rfl⟩; rw [H1.out]; clear tok1) | (go_at_call 139; refine (rf_None y HY.out.1 HY.out.2 _).mono ?_; rintro e w' ⟨rfl, rfl⟩; rw [H2.out]))
      exact bodyPost_ret (results_three' rfl (res_tmp 4 rfl) (res_tmp 5 rfl) (res_tmp 6 rfl)) rfl ⟨rfl, Upd.refl _ _⟩
    · have H2 := Lib.hid h2
      clear h2
      go_enter Try.func69, Try.ntmps69
      go_wp2_with (first | (have _t := tok1; clear _t; go_at_call 139; refine (rf_None x HX.out.1 HX.out.2 _).mono ?_; rintro e w' ⟨rfl, rfl⟩; rw [H1.out]; clear tok1) | (go_at_call 139; refine (rf_None y HY.out.1 HY.out.2 _).mono ?_; rintro e w' ⟨rfl, rfl⟩; rw [H2.out]) | (have _t := tok2; clear _t; go_at_call 137; refine (rf_num x _).mono ?_; rintro e w' ⟨rfl, rfl⟩; clear tok2) | (have _t := tok3; clear _t; go_at_call 137; refine (rf_num y _).mono ?_; rintro e w' ⟨rfl, rfl⟩; clear tok3) | (have _t := tok4; clear _t; go_at_call 137; refine (rf_num x _).mono ?_; rintro e w' ⟨rfl, rfl⟩; clear tok4) | (go_at_call 137; refine (rf_num y _).mono ?_; rintro e w' ⟨rfl, rfl⟩))
      exact bodyPost_ret (results_three' rfl (res_tmp 4 rfl) (res_tmp 5 rfl) (res_tmp 6 rfl)) rfl ⟨rfl, Upd.refl _ _⟩

end Go.Proofs.Ytoplekfnghkkdaa

/-
  The law's check of known answers, by its contract.
-/
namespace Go.Proofs.Ytoplekfnghkkdaa
open Go Go.RowKit
set_option linter.unusedVariables false
set_option linter.unusedSimpArgs false

theorem Mem.write_some {M : Mem} {x bytes : Int} {i : Nat} (h : M.bad x 2 (widthI bytes).toNat = some i) : M.writeF x bytes = pageFault (plus x i) 2 ∧ M.writeK x bytes = false ∧ ∀ v, M.writeM x bytes v = M := by
  refine ⟨?_, ?_, fun v => ?_⟩
  · rw [Mem.writeF, h]
  · rw [Mem.writeK, h]; rfl
  · rw [Mem.writeM, h]

theorem Mem.write_none {M : Mem} {x bytes : Int} (h : M.bad x 2 (widthI bytes).toNat = none) : M.writeF x bytes = .agg #[.int .i64 0, .int .u32 0, .int .u32 0, .int .i64 0] ∧ M.writeK x bytes = true ∧ ∀ v, M.writeM x bytes v = M.putN x v (widthI bytes).toNat := by
  refine ⟨?_, ?_, fun v => ?_⟩
  · rw [Mem.writeF, h]
  · rw [Mem.writeK, h]; rfl
  · rw [Mem.writeM, h]

theorem Mem.read_some {M : Mem} {x bytes right : Int} {i : Nat} (h : M.bad x (rightI right) (widthI bytes).toNat = some i) : M.readV x bytes right = 0 ∧ M.readF x bytes right = pageFault (plus x i) (rightI right) ∧ M.readK x bytes right = false := by
  refine ⟨?_, ?_, ?_⟩
  · rw [Mem.readV, h]
  · rw [Mem.readF, h]
  · rw [Mem.readK, h]; rfl

theorem Mem.read_none {M : Mem} {x bytes right : Int} (h : M.bad x (rightI right) (widthI bytes).toNat = none) : M.readV x bytes right = M.get x (widthI bytes).toNat ∧ M.readF x bytes right = .agg #[.int .i64 0, .int .u32 0, .int .u32 0, .int .i64 0] ∧ M.readK x bytes right = true := by
  refine ⟨?_, ?_, ?_⟩
  · rw [Mem.readV, h]
  · rw [Mem.readF, h]
  · rw [Mem.readK, h]; rfl

def k1 : Mem := Mem.zero.mapN (0 : Int).toNat (1 : Int).toNat 3
def k2 : Mem := k1.putN 0 16909060 (widthI 4).toNat

theorem kn_map1 : Mem.zero.mapB 0 1 3 = true := by decide
theorem kn_map2 : k1.mapB 0 1 3 = false := by decide
theorem kn_w1 : k1.bad 254 2 (widthI 4).toNat = some 2 := by decide +kernel
theorem kn_w2 : k1.bad 0 2 (widthI 4).toNat = none := by decide +kernel
theorem kn_r1 : k2.bad 1 (rightI 1) (widthI 2).toNat = none := by decide +kernel
theorem kn_r1v : k2.get 1 (widthI 2).toNat = 515 := by decide +kernel
theorem kn_w3 : k2.bad 16384 2 (widthI 1).toNat = some 0 := by decide +kernel
theorem kn_r0 : k2.rights 0 = 3 := by decide +kernel
theorem kn_r64 : k2.rights 64 = 0 := by decide +kernel
theorem kn_pk : (k2.peek 250 100).length = 6 := by decide +kernel

end Go.Proofs.Ytoplekfnghkkdaa

/-
  The law PageBytes: the walk.
-/
namespace Go.Proofs.Ytoplekfnghkkdaa
open Go Go.RowKit
set_option linter.unusedVariables false
set_option linter.unusedSimpArgs false

/-! ### What was written is read. -/
theorem Mem.putN_lt (M : Mem) (x v : Int) (n : Nat) (h : x + n ≤ 4294967296) (h0 : 0 ≤ x) (k : Nat) : (M.putN x v n).B k = if x ≤ k ∧ (k : Int) < x + n then v / 2 ^ (8 * (k - x.toNat)) % 256 else M.B k := by
  induction n with
  | zero => rw [Mem.putN, if_neg (by omega)]
  | succ n ih =>
    simp only [Mem.putN, Mem.setB]
    have e : (plus x n).toNat = x.toNat + n := by unfold plus; omega
    rw [e]
    by_cases hk : k = x.toNat + n
    · rw [if_pos hk, if_pos (by omega), hk, Nat.add_sub_cancel_left]
    · rw [if_neg hk, ih (by omega)]
      by_cases hl : x ≤ k ∧ (k : Int) < x + n
      · rw [if_pos hl, if_pos (by omega)]
      · rw [if_neg hl, if_neg (by omega)]

theorem can_page {M : Mem} {x r : Int} (h0 : 0 ≤ x) (h1 : x < 16384) (hr : bits .and .i64 (M.R (x / 256).toNat) r ≠ 0) : M.can x r = true := by
  simp only [Mem.can, Bool.and_eq_true, decide_eq_true_eq, Bool.not_eq_true', beq_eq_false_iff_ne]
  exact ⟨h1, hr⟩

def p8 : Mem := Mem.zero.mapN (0 : Int).toNat (8 : Int).toNat 3

theorem p8_map : Mem.zero.mapB 0 8 3 = true := by decide +kernel
theorem p8_R (p : Nat) (h : p < 8) : p8.R p = 3 := by
  simp only [p8, Mem.mapN]
  rw [if_pos (by simp; omega)]

theorem plus_small {x : Int} {i : Nat} (h0 : 0 ≤ x) (h : x + i < 4294967296) : plus x i = x + i := by unfold plus; omega

theorem p8_can {M : Mem} (hR : M.R = p8.R) (x r : Int) (hr : bits .and .i64 3 r ≠ 0) (h0 : 0 ≤ x) (h1 : x < 2048) : M.can x r = true := by
  refine can_page h0 (by omega) ?_
  rw [hR, p8_R _ (by omega)]
  exact hr

theorem p8_bad {M : Mem} (hR : M.R = p8.R) (x r : Int) (n : Nat) (hr : bits .and .i64 3 r ≠ 0) (h0 : 0 ≤ x) (h1 : x + n ≤ 2048) : M.bad x r n = none :=
  bad_none M x r n fun t ht => p8_can hR _ r hr (plus_nn _ _) (by rw [plus_small h0 (by omega)]; omega)

/-- The number that the law wants. -/
def wantI (v w : Int) : Int := bits .or .u32 (bits .and .u32 v 4278190335) (bits .and .u32 w 65535 * 256 % 4294967296)

theorem and_ends (v : Nat) (h : v < 4294967296) : v &&& 4278190335 = v / 16777216 * 16777216 + v % 256 := by
  have e : (4278190335 : Nat) = 4278190080 ||| 255 := by decide
  rw [e, Nat.and_or_distrib_left]
  have e1 : v &&& 255 = v % 256 := nat_mask8 v
  have e2 : v &&& 4278190080 = v / 16777216 * 16777216 := by
    have e3 : (4278190080 : Nat) = 255 <<< 24 := by decide
    have e4 : v / 16777216 * 16777216 = (v >>> 24) <<< 24 := by rw [Nat.shiftLeft_eq, Nat.shiftRight_eq_div_pow]
    rw [e3, e4]
    apply Nat.eq_of_testBit_eq
    intro i
    simp only [Nat.testBit_and, Nat.testBit_shiftLeft, Nat.testBit_shiftRight]
    by_cases hi : 24 ≤ i
    · have : 24 + (i - 24) = i := by omega
      simp only [hi, decide_true, Bool.true_and, this]
      by_cases h32 : i < 32
      · have : Nat.testBit 255 (i - 24) = true := by
          have : i - 24 < 8 := by omega
          rw [show (255 : Nat) = 2 ^ 8 - 1 from rfl, Nat.testBit_two_pow_sub_one]; simpa using this
        rw [this, Bool.and_true]
      · have : v.testBit i = false := Nat.testBit_lt_two_pow (Nat.lt_of_lt_of_le h (by
          rw [show (4294967296 : Nat) = 2 ^ 32 from rfl]; exact Nat.pow_le_pow_right (by decide) (by omega)))
        simp [this]
    · simp [hi]
  rw [e1, e2, nat_join 24 _ _ (by omega) (by omega)]

theorem wantI_eq (v w : Int) (hv0 : 0 ≤ v) (hv1 : v < 4294967296) (hw0 : 0 ≤ w) (hw1 : w < 4294967296) : wantI v w = v % 256 + w % 65536 * 256 + v / 16777216 * 16777216 := by
  obtain ⟨v, rfl⟩ := Int.eq_ofNat_of_zero_le hv0
  obtain ⟨w, rfl⟩ := Int.eq_ofNat_of_zero_le hw0
  have e2 := and_ends v (by omega)
  have e3 : w &&& 65535 = w % 65536 := Nat.and_two_pow_sub_one_eq_mod w 16
  have e1 : bits .and .u32 (v : Int) 4278190335 = ((v &&& 4278190335 : Nat) : Int) := u32_and_nat v 4278190335 (by omega) (by decide)
  have e4 : bits .and .u32 (w : Int) 65535 = ((w &&& 65535 : Nat) : Int) := u32_and_nat w 65535 (by omega) (by decide)
  rw [wantI, e1, e4, e2, e3]
  have e5 : ((w % 65536 : Nat) : Int) * 256 % 4294967296 = ((w % 65536 * 256 : Nat) : Int) := by omega
  rw [e5, u32_or_nat _ _ (by omega) (by omega)]
  have e6 : v / 16777216 * 16777216 + v % 256 = v / 16777216 * 16777216 ||| v % 256 := (nat_join 24 _ _ (by omega) (by omega)).symm
  have e7 : v % 256 ||| w % 65536 * 256 = w % 65536 * 256 + v % 256 := by rw [Nat.or_comm]; exact nat_join 8 _ _ (by omega) (by omega)
  rw [e6, Nat.or_assoc, e7, nat_join 24 _ _ (by omega) (by omega)]
  omega

theorem wf_u32 {n : Int} (h : (Lit.int .u32 n).wf = true) : 0 ≤ n ∧ n < 4294967296 := by
  simp [Lit.wf, IntKind.min, IntKind.max, IntKind.signed, IntKind.bits] at h; omega
theorem wf_u16 {n : Int} (h : (Lit.int .u16 n).wf = true) : 0 ≤ n ∧ n < 65536 := by
  simp [Lit.wf, IntKind.min, IntKind.max, IntKind.signed, IntKind.bits] at h; omega
theorem wf_u8 {n : Int} (h : (Lit.int .u8 n).wf = true) : 0 ≤ n ∧ n < 256 := by
  simp [Lit.wf, IntKind.min, IntKind.max, IntKind.signed, IntKind.bits] at h; omega
theorem wf_int {n : Int} (h : (Lit.int .i64 n).wf = true) : -9223372036854775808 ≤ n ∧ n ≤ 9223372036854775807 := by
  simp [Lit.wf, IntKind.min, IntKind.max, IntKind.signed, IntKind.bits] at h; omega

/-- The memory of the law, behind both writes. -/
def lbM (z : Nat) (v w : Int) : Mem := (p8.putN (z + 8) v (widthI 4).toNat).putN (z + 9) w (widthI 2).toNat

theorem lbM_R (z : Nat) (v w : Int) : (lbM z v w).R = p8.R := by rw [lbM, Mem.putN_R, Mem.putN_R]

theorem lbM_B (z : Nat) (v w : Int) (hz : z < 1000) (k : Nat) : (lbM z v w).B k = if k = z + 9 then w % 256 else if k = z + 10 then w / 256 % 256 else if k = z + 8 then v % 256 else if k = z + 11 then v / 16777216 % 256 else 0 := by
  rw [lbM, Mem.putN_lt _ _ _ _ (by simp [widthI]; omega) (by omega), Mem.putN_lt _ _ _ _ (by simp [widthI]; omega) (by omega)]
  have e4 : ((widthI 4).toNat : Int) = 4 := by decide
  have e2 : ((widthI 2).toNat : Int) = 2 := by decide
  rw [e4, e2]
  have e0 : p8.B k = 0 := by simp only [p8, Mem.mapN]; split <;> rfl
  by_cases h1 : k = z + 9
  · subst h1
    rw [if_pos (by omega), if_pos rfl, show 8 * ((z + 9) - ((z : Int) + 9).toNat) = 0 from by omega]
    simp
  · rw [if_neg h1]
    by_cases h2 : k = z + 10
    · subst h2
      rw [if_pos (by omega), if_pos rfl, show 8 * ((z + 10) - ((z : Int) + 9).toNat) = 8 from by omega]
      rfl
    · rw [if_neg h2, if_neg (by omega)]
      by_cases h3 : k = z + 8
      · subst h3
        rw [if_pos (by omega), if_pos rfl, show 8 * ((z + 8) - ((z : Int) + 8).toNat) = 0 from by omega]
        simp
      · rw [if_neg h3]
        by_cases h4 : k = z + 11
        · subst h4
          rw [if_pos (by omega), if_pos rfl, show 8 * ((z + 11) - ((z : Int) + 8).toNat) = 24 from by omega]
          rfl
        · rw [if_neg h4, if_neg (by omega), e0]

theorem lb_get (z : Nat) (v w : Int) (hz : z < 1000) (hv0 : 0 ≤ v) (hv1 : v < 4294967296) (hw0 : 0 ≤ w) (hw1 : w < 4294967296) : (lbM z v w).get (z + 8) (widthI 4).toNat = wantI v w := by
  have e4 : (widthI 4).toNat = 4 := by decide
  rw [e4, wantI_eq v w hv0 hv1 hw0 hw1]
  simp only [Mem.get]
  have p0 : (plus ((z : Int) + 8) 0).toNat = z + 8 := by unfold plus; omega
  have p1 : (plus ((z : Int) + 8) 1).toNat = z + 9 := by unfold plus; omega
  have p2 : (plus ((z : Int) + 8) 2).toNat = z + 10 := by unfold plus; omega
  have p3 : (plus ((z : Int) + 8) 3).toNat = z + 11 := by unfold plus; omega
  rw [p0, p1, p2, p3, lbM_B _ _ _ hz, lbM_B _ _ _ hz, lbM_B _ _ _ hz, lbM_B _ _ _ hz]
  simp only [show ¬ z + 8 = z + 9 from by omega, show ¬ z + 8 = z + 10 from by omega, show ¬ z + 10 = z + 9 from by omega, show ¬ z + 11 = z + 9 from by omega, show ¬ z + 11 = z + 10 from by omega, show ¬ z + 11 = z + 8 from by omega, if_true, if_false]
  omega

theorem lb_peekN (z : Nat) (v w : Int) (hz : z < 1000) : (lbM z v w).peekN (z + 4) 12 = 12 := by
  refine peekN_all _ _ _ fun t ht => ?_
  have e : plus ((z : Int) + 4) t = z + 4 + t := plus_small (by omega) (by omega)
  rw [e]
  simp only [Mem.mappedB, lbM_R, Bool.and_eq_true, decide_eq_true_eq]
  refine ⟨by omega, ?_⟩
  rw [p8_R _ (by omega)]; rfl

theorem lb_peek (z : Nat) (v w : Int) (hz : z < 1000) : (lbM z v w).peek (z + 4) 12 = [0, 0, 0, 0, v % 256, w % 256, w / 256 % 256, v / 16777216 % 256, 0, 0, 0, 0] := by
  have e : (min (12 : Int) 16384).toNat = 12 := by decide
  rw [Mem.peek, e, lb_peekN z v w hz, Mem.peekL]
  have q : ∀ i, i < 12 → (lbM z v w).B (plus ((z : Int) + 4) i).toNat = (lbM z v w).B (z + 4 + i) := fun i hi => by
    rw [show (plus ((z : Int) + 4) i).toNat = z + 4 + i from by unfold plus; omega]
  simp only [List.range, List.range.loop, List.map_cons, List.map_nil]
  rw [q 0 (by decide), q 1 (by decide), q 2 (by decide), q 3 (by decide), q 4 (by decide), q 5 (by decide), q 6 (by decide), q 7 (by decide), q 8 (by decide), q 9 (by decide), q 10 (by decide), q 11 (by decide)]
  simp only [lbM_B _ _ _ hz, Nat.add_assoc, Nat.reduceAdd, Nat.add_left_cancel_iff, Nat.reduceEqDiff, if_true, if_false, Nat.add_zero]

end Go.Proofs.Ytoplekfnghkkdaa

/-
  The law PageForgets: the plain part (what is written is read; pages given back forget).
-/
namespace Go.Proofs.Ytoplekfnghkkdaa
open Go Go.RowKit
set_option linter.unusedVariables false
set_option linter.unusedSimpArgs false

/-- All bytes of a number of four are read as they were written. -/
theorem Mem.get_eq {M : Mem} {x : Int} {n : Nat} (f : Nat → Int) (h : ∀ i, i < n → M.B (plus x i).toNat = f i) : M.get x n = Nat.rec 0 (fun i g => g + f i * 2 ^ (8 * i)) n := by
  induction n with
  | zero => rfl
  | succ n ih =>
    rw [Mem.get, ih (fun i hi => h i (by omega)), h n (by omega)]

theorem Mem.get4 (M : Mem) (x : Nat) (hx : x < 4294967000) : M.get x (widthI 4).toNat = M.B x + M.B (x + 1) * 256 + M.B (x + 2) * 65536 + M.B (x + 3) * 16777216 := by
  have e : (widthI 4).toNat = 4 := by decide
  have q : ∀ i, i < 4 → (plus (x : Int) i).toNat = x + i := fun i hi => by unfold plus; omega
  rw [e]
  simp only [Mem.get]
  rw [q 0 (by decide), q 1 (by decide), q 2 (by decide), q 3 (by decide)]
  simp

theorem put4_get (M : Mem) (x : Nat) (v : Int) (hx : x < 4294967000) (h0 : 0 ≤ v) (h1 : v < 4294967296) : (M.putN x v (widthI 4).toNat).get x (widthI 4).toNat = v := by
  have e : ((widthI 4).toNat : Int) = 4 := by decide
  have en : (widthI 4).toNat = 4 := by decide
  rw [Mem.get4 _ _ hx, Mem.putN_lt _ _ _ _ (by rw [en]; omega) (by omega), Mem.putN_lt _ _ _ _ (by rw [en]; omega) (by omega), Mem.putN_lt _ _ _ _ (by rw [en]; omega) (by omega), Mem.putN_lt _ _ _ _ (by rw [en]; omega) (by omega), e]
  rw [if_pos (by omega), if_pos (by omega), if_pos (by omega), if_pos (by omega)]
  rw [show 8 * (x - (x : Int).toNat) = 0 from by omega, show 8 * (x + 1 - (x : Int).toNat) = 8 from by omega, show 8 * (x + 2 - (x : Int).toNat) = 16 from by omega, show 8 * (x + 3 - (x : Int).toNat) = 24 from by omega]
  simp only [Nat.mul_zero, Int.reducePow]
  omega

theorem put4_get_far (M : Mem) (x y : Nat) (v : Int) (hx : x < 4294967000) (hy : y < 4294967000) (h : y + 4 ≤ x ∨ x + 4 ≤ y) : (M.putN x v (widthI 4).toNat).get y (widthI 4).toNat = M.get y (widthI 4).toNat := by
  have e : ((widthI 4).toNat : Int) = 4 := by decide
  have en : (widthI 4).toNat = 4 := by decide
  rw [Mem.get4 _ _ hy, Mem.get4 _ _ hy, Mem.putN_lt _ _ _ _ (by rw [en]; omega) (by omega), Mem.putN_lt _ _ _ _ (by rw [en]; omega) (by omega), Mem.putN_lt _ _ _ _ (by rw [en]; omega) (by omega), Mem.putN_lt _ _ _ _ (by rw [en]; omega) (by omega), e]
  rw [if_neg (by omega), if_neg (by omega), if_neg (by omega), if_neg (by omega)]

theorem bad_none_page (M : Mem) (x : Nat) (n : Nat) (r : Int) (hx : x + n ≤ 16384) (hp : ∀ t, t < n → bits .and .i64 (M.R ((x + t) / 256)) r ≠ 0) : M.bad x r n = none := by
  refine bad_none M x r n fun t ht => ?_
  have e : plus (x : Int) t = ((x + t : Nat) : Int) := by unfold plus; omega
  rw [e]
  refine can_page (by omega) (by omega) ?_
  rw [show (((x + t : Nat) : Int) / 256).toNat = (x + t) / 256 from by omega]
  exact hp t ht

def q64 : Mem := Mem.zero.mapN (0 : Int).toNat (64 : Int).toNat 3
theorem q64_map : Mem.zero.mapB 0 64 3 = true := by decide +kernel
theorem q64_R (p : Nat) (h : p < 64) : q64.R p = 3 := by
  simp only [q64, Mem.mapN]
  rw [if_pos (by simp; omega)]

theorem Mem.all_of {M : Mem} {p k : Nat} {b : Bool} (h1 : 1 ≤ k) (h2 : p + k ≤ 64) (h : ∀ q, p ≤ q → q < p + k → (M.R q != 0) = b) : M.all p k b = true := by
  rw [Mem.all, Bool.and_eq_true, rowB_iff]
  refine ⟨⟨by omega, by omega, by omega, by omega⟩, ?_⟩
  rw [Bool.not_eq_true', List.any_eq_false]
  intro i hi
  rw [List.mem_range] at hi
  rw [Mem.odd, h _ (by omega) (by omega)]
  simp

theorem Mem.all_not {M : Mem} {p k : Nat} {b : Bool} (q : Nat) (hp : p ≤ q) (hk : q < p + k) (h : (M.R q != 0) = !b) : M.all p k b = false := by
  rw [Mem.all, Bool.and_eq_false_iff]
  right
  rw [Bool.not_eq_false', List.any_eq_true]
  refine ⟨q - p, by rw [List.mem_range]; omega, ?_⟩
  rw [Mem.odd, show (p : Int).toNat + (q - p) = q from by omega, h]
  cases b <;> rfl

/-- The memory behind all of the first loop's rounds: every page holds the number. -/
structure Fg (v : Int) (i : Nat) (M : Mem) : Prop where
  R : M.R = q64.R
  get : ∀ j, j < i → M.get ((256 * j + 8 : Nat) : Int) (widthI 4).toNat = v

theorem fg_step {v : Int} {i : Nat} {M : Mem} (h : Fg v i M) (hi : i < 64) (h0 : 0 ≤ v) (h1 : v < 4294967296) :
    Fg v (i + 1) (M.writeM ((256 * i + 8 : Nat) : Int) 4 v) := by
  have en : (widthI 4).toNat = 4 := by decide
  have hw := (Mem.write_none (M := M) (x := ((256 * i + 8 : Nat) : Int)) (bytes := 4) (bad_none_page M _ _ 2 (by rw [en]; omega) (fun t ht => by rw [en] at ht; rw [h.R, q64_R _ (by omega)]; decide))).2.2 v
  rw [hw]
  refine ⟨by rw [Mem.putN_R, h.R], fun j hj => ?_⟩
  by_cases e : j = i
  · subst e; exact put4_get _ _ _ (by omega) h0 h1
  · rw [put4_get_far _ _ _ _ (by omega) (by omega) (by omega)]; exact h.get j (by omega)

/-- What Go reads of page i behind the pages p .. p+k were given back and asked for again. -/
theorem fg_back {v : Int} {M : Mem} (h : Fg v 64 M) (p k i : Nat) (hi : i < 64) :
    ((M.mapN p k 0).mapN p k 5).readV ((256 * i + 8 : Nat) : Int) 4 1 = (if p ≤ i ∧ i < p + k then 0 else v) ∧
    ((M.mapN p k 0).mapN p k 5).readF ((256 * i + 8 : Nat) : Int) 4 1 = .agg #[.int .i64 0, .int .u32 0, .int .u32 0, .int .i64 0] ∧
    ((M.mapN p k 0).mapN p k 5).readK ((256 * i + 8 : Nat) : Int) 4 1 = true ∧
    ((M.mapN p k 0).mapN p k 5).rights i = (if p ≤ i ∧ i < p + k then 5 else 3) := by
  have en : (widthI 4).toNat = 4 := by decide
  have hR : ∀ q, q < 64 → ((M.mapN p k 0).mapN p k 5).R q = if p ≤ q ∧ q < p + k then 5 else 3 := fun q hq => by
    simp only [Mem.mapN]
    by_cases e : p ≤ q ∧ q < p + k
    · rw [if_pos e, if_pos e]
    · rw [if_neg e, if_neg e, if_neg e, h.R, q64_R _ hq]
  have hr := Mem.read_none (M := (M.mapN p k 0).mapN p k 5) (x := ((256 * i + 8 : Nat) : Int)) (bytes := 4) (right := 1) (bad_none_page _ _ _ _ (by rw [en]; omega) (fun t ht => by
    rw [en] at ht; rw [hR _ (by omega)]; split <;> decide))
  refine ⟨?_, hr.2.1, hr.2.2, ?_⟩
  · rw [hr.1, Mem.get4 _ _ (by omega)]
    have hg := h.get i hi
    rw [Mem.get4 _ _ (by omega)] at hg
    have hB : ∀ t, t < 4 → ((M.mapN p k 0).mapN p k 5).B (256 * i + 8 + t) = if p ≤ i ∧ i < p + k then 0 else M.B (256 * i + 8 + t) := fun t ht => by
      simp only [Mem.mapN]
      rw [show (256 * i + 8 + t) / 256 = i from by omega]
      by_cases e : p ≤ i ∧ i < p + k
      · rw [if_pos e, if_pos e]
      · rw [if_neg e, if_neg e]
    rw [show 256 * i + 8 = 256 * i + 8 + 0 from rfl, hB 0 (by decide), hB 1 (by decide), hB 2 (by decide), hB 3 (by decide)]
    by_cases e : p ≤ i ∧ i < p + k
    · simp [e]
    · simpa [e] using hg
  · rw [Mem.rights, if_neg (by omega)]
    exact hR i hi

end Go.Proofs.Ytoplekfnghkkdaa

/-
  Eight bytes written and read: plain facts. No condition; no program in sight.
-/
namespace Go.Proofs.Ytoplekfnghkkdaa
open Go Go.RowKit
set_option linter.unusedVariables false
set_option linter.unusedSimpArgs false

theorem lack_R {M N : Mem} (h : N.R = M.R) (y r : Int) : N.lack y r = M.lack y r := by simp only [Mem.lack, Mem.rightAt, h]
theorem canBad_R {M N : Mem} (h : N.R = M.R) (x : Int) (n : Nat) (r : Int) : N.canBad x n r = M.canBad x n r := by
  simp only [Mem.canBad, lack_R h]
theorem canK_R {M N : Mem} (h : N.R = M.R) (x : Int) (n : Nat) (r : Int) : N.canK x n r = M.canK x n r := by rw [Mem.canK, Mem.canK, canBad_R h]
theorem canF_R {M N : Mem} (h : N.R = M.R) (x : Int) (n : Nat) (r : Int) : N.canF x n r = M.canF x n r := by
  rw [Mem.canF, Mem.canF, canBad_R h]; simp only [lack_R h]

theorem wr8M_R (M : Mem) (x v : Int) : (M.wr8M x v).R = M.R := by
  rw [Mem.wr8M]; split
  · rw [Mem.putN_R, Mem.putN_R]
  · rfl

theorem canK_split (M : Mem) (x r : Int) : M.canK x 8 r = (M.canK x 4 r && M.canK (plus x 4) 4 r) := by
  rw [Bool.eq_iff_iff, Bool.and_eq_true, canK_iff, canK_iff, canK_iff]
  constructor
  · intro h
    exact ⟨fun t ht => h t (by omega), fun t ht => by rw [plus_plus]; exact h (4 + t) (by omega)⟩
  · intro ⟨h, k⟩ t ht
    by_cases h4 : t < 4
    · exact h t h4
    · have := k (t - 4) (by omega)
      rw [plus_plus, show 4 + (t - 4) = t from by omega] at this
      exact this

theorem canF_fst (M : Mem) (x r : Int) (h : M.canK x 4 r = false) : M.canF x 8 r = M.canF x 4 r := by
  rw [Mem.canK] at h
  cases hb : M.canBad x 4 r with
  | none => rw [hb] at h; cases h
  | some i =>
    have hb' := hb
    rw [Mem.canBad, List.find?_range_eq_some] at hb'
    obtain ⟨h1, h2, h3⟩ := hb'
    have hi : i < 4 := by simpa using h2
    have h8 : M.canBad x 8 r = some i := by
      rw [Mem.canBad, List.find?_range_eq_some]
      exact ⟨h1, by simp; omega, h3⟩
    rw [Mem.canF, Mem.canF, hb, h8]

theorem canF_snd (M : Mem) (x r : Int) (h : M.canK x 4 r = true) : M.canF x 8 r = M.canF (plus x 4) 4 r := by
  have h0 := (canK_iff M x 4 r).1 h
  cases hb : M.canBad (plus x 4) 4 r with
  | none =>
    have h8 : M.canBad x 8 r = none := by
      have hk : M.canK x 8 r = true := by rw [canK_split, h, Mem.canK, hb]; rfl
      rw [Mem.canK] at hk
      exact Option.isNone_iff_eq_none.1 hk
    rw [Mem.canF, Mem.canF, hb, h8]
  | some i =>
    have hb' := hb
    rw [Mem.canBad, List.find?_range_eq_some] at hb'
    obtain ⟨h1, h2, h3⟩ := hb'
    have hi : i < 4 := by simpa using h2
    rw [plus_plus] at h1
    have h8 : M.canBad x 8 r = some (4 + i) := by
      rw [Mem.canBad, List.find?_range_eq_some]
      refine ⟨h1, by simp; omega, fun t ht => ?_⟩
      by_cases h4 : t < 4
      · simp [h0 t h4]
      · have := h3 (t - 4) (by omega)
        rw [plus_plus, show 4 + (t - 4) = t from by omega] at this
        exact this
    rw [Mem.canF, Mem.canF, hb, h8]
    simp only [plus_plus]

theorem rd8K_can {M : Mem} (hM : M.Ok) (x : Int) : M.rd8K x = M.canK x 8 1 := by
  have h := canK_readK hM x 4 1
  have k := canK_readK hM (plus x 4) 4 1
  have e : rightI 1 = 1 := rfl
  have e4 : (widthI 4).toNat = 4 := by decide
  rw [e, e4] at h k
  rw [Mem.rd8K, canK_split, h, k]

theorem rd8F_can {M : Mem} (hM : M.Ok) (x : Int) : M.rd8F x = M.canF x 8 1 := by
  have hK := canK_readK hM x 4 1
  have h := canF_rdF hM x 4 1
  have k := canF_rdF hM (plus x 4) 4 1
  have e : rightI 1 = 1 := rfl
  have e4 : (widthI 4).toNat = 4 := by decide
  rw [e, e4] at h k hK
  rw [Mem.rd8F]
  cases hb : M.readK x 4 1
  · rw [if_neg (by simp), canF_fst _ _ _ (by rw [hK, hb]), h]
  · rw [if_pos rfl, canF_snd _ _ _ (by rw [hK, hb]), k]

theorem rd8V_no {M : Mem} (x : Int) (h : M.rd8K x = false) : M.rd8V x = 0 := by rw [Mem.rd8V, if_neg (by rw [h]; simp)]

theorem can8_lt {M : Mem} (hM : M.Ok) (x r : Int) (hr : r = 1 ∨ r = 2 ∨ r = 4) (h0 : 0 ≤ x) (h1 : x < 4294967296) (h : M.canK x 8 r = true) : x + 8 ≤ 16384 := by
  have hc : ∀ t, t < 8 → plus x t < 16384 := fun t ht => can_lt (plus_nn _ _) ((lack_can hM _ (plus_nn _ _) r hr).1 ((canK_iff M x 8 r).1 h t ht))
  have a := hc 0 (by decide)
  have b := hc 7 (by decide)
  unfold plus at a b
  omega

theorem put_get4 (M : Mem) (x : Nat) (v : Int) (hx : x < 4294967000) (h0 : 0 ≤ v) (h1 : v < 4294967296) : (M.putN x v 4).get x 4 = v := by
  have h := put4_get M x v hx h0 h1
  have e4 : (widthI 4).toNat = 4 := by decide
  rwa [e4] at h
theorem put_far4 (M : Mem) (x y : Nat) (v : Int) (hx : x < 4294967000) (hy : y < 4294967000) (h : y + 4 ≤ x ∨ x + 4 ≤ y) : (M.putN x v 4).get y 4 = M.get y 4 := by
  have h := put4_get_far M x y v hx hy h
  have e4 : (widthI 4).toNat = 4 := by decide
  rwa [e4] at h

theorem rd8_wr8 {M : Mem} (hM : M.Ok) (x v : Int) (h0 : 0 ≤ x) (h1 : x < 4294967296) (hv0 : 0 ≤ v) (hv1 : v < 18446744073709551616) (hw : M.canK x 8 2 = true) (hr : M.canK x 8 1 = true) : (M.wr8M x v).rd8V x = v := by
  have hx := can8_lt hM x 2 (by simp) h0 h1 hw
  obtain ⟨y, rfl⟩ := Int.eq_ofNat_of_zero_le h0
  have ep : plus (y : Int) 4 = ((y + 4 : Nat) : Int) := by unfold plus; omega
  have e4 : (widthI 4).toNat = 4 := by decide
  obtain ⟨N, hN⟩ : ∃ N, M.wr8M y v = N := ⟨_, rfl⟩
  have hNe : N = (M.putN y (v % 4294967296) 4).putN ((y + 4 : Nat) : Int) (v / 4294967296) 4 := by rw [← hN, Mem.wr8M, if_pos hw, ep]
  have hNok : N.Ok := by rw [hNe]; exact Mem.putN_ok (Mem.putN_ok hM _ _ _) _ _ _
  have hNR : N.R = M.R := by rw [← hN]; exact wr8M_R _ _ _
  rw [hN]
  have hk : N.rd8K y = true := by rw [rd8K_can hNok, canK_R hNR, hr]
  rw [Mem.rd8V, if_pos hk]
  simp only [Mem.rd8K, Bool.and_eq_true] at hk
  have g1 : N.readV y 4 1 = N.get y 4 := by
    have := hk.1
    rw [Mem.readK] at this
    rw [Mem.readV, Option.isNone_iff_eq_none.1 this, e4]
  have g2 : N.readV ((y + 4 : Nat) : Int) 4 1 = N.get ((y + 4 : Nat) : Int) 4 := by
    have := hk.2
    rw [ep, Mem.readK] at this
    rw [Mem.readV, Option.isNone_iff_eq_none.1 this, e4]
  rw [ep, g1, g2, hNe, put_get4 _ _ _ (by omega) (by omega) (by omega), put_far4 _ _ _ _ (by omega) (by omega) (by omega), put_get4 _ _ _ (by omega) (by omega) (by omega)]
  omega

end Go.Proofs.Ytoplekfnghkkdaa

/-
  Structs held against one another, field by field. No condition.
-/
namespace Go.Proofs.Ytoplekfnghkkdaa
open Go Go.RowKit
set_option linter.unusedVariables false
set_option linter.unusedSimpArgs false

theorem part_range {P : Program} {t : TypeId} {xs : Array Value} {off n : Nat} {i : TypeInfo} (w : World) (ht : (isAgg t).run P w = .ok true w) (hi : P.info? t = some i) (hn : i.size = n) : (part t xs off).run P w = .ok (.agg (xs.extract off (off + n))) w := by
  subst hn
  simp [part, ht, sizeOf, typeInfo, hi]

theorem eqFields_cons {P : Program} {w : World} {d : Nat} {xs ys : Array Value} {f : Field} {fs : List Field} {u v : Value} {b c : Bool} (hne : (f.name ≠ "_") = True)
    (hx : (part f.type xs f.offset).run P w = .ok u w) (hy : (part f.type ys f.offset).run P w = .ok v w) (he : (Op.equalIn d f.type u v).run P w = .ok b w) (hr : (Op.eqFields d xs ys fs).run P w = .ok c w) :
    (Op.eqFields d xs ys (f :: fs)).run P w = .ok (b && c) w := by
  simp only [Op.eqFields, hne, if_true]
  rw [Sem.run_bind, hx, Result.andThen_ok, Sem.run_bind, hy, Result.andThen_ok, Sem.run_bind, he, Result.andThen_ok]
  cases b
  · rfl
  · simp only [Bool.not_true, Bool.false_eq_true, if_false]
    rw [hr]; rfl

theorem eqFields_nil {P : Program} {w : World} {d : Nat} {xs ys : Array Value} : (Op.eqFields d xs ys []).run P w = .ok true w := rfl

theorem eqItems_int {P : Program} (w : World) (d : Nat) {e : TypeId} {k : IntKind} (he : P.underlying e = some (.int k)) (xs ys : Array Value) (f g : Nat → Int) :
    ∀ is : List Nat, (∀ i, i ∈ is → xs[i]? = some (.int k (f i)) ∧ ys[i]? = some (.int k (g i))) → (Op.eqItems (d + 1) e 1 xs ys is).run P w = .ok (is.all fun i => f i == g i) w
  | [], _ => by simp [Op.eqItems]
  | i :: is, h => by
    have h1 := h i (by simp)
    have ih := eqItems_int w d he xs ys f g is (fun j hj => h j (by simp [hj]))
    have hp : P.plainKey e = true := by simp [Program.plainKey, he]
    simp only [Op.eqItems, Nat.mul_one, Sem.run_bind, run_part_plain w hp h1.1, run_part_plain w hp h1.2, Result.andThen_ok, run_equalIn_int w d e k k _ _ he, List.all_cons]
    cases hb : f i == g i
    · simp
    · simpa using ih

end Go.Proofs.Ytoplekfnghkkdaa
