/-
  Package alu: Div without signs; package helper: divides: by their contracts. No condition.
-/
import Derived.Test.YtncafchgdgmeaaaHpA
import Derived.Test.YtncafchgdgmeaaaDraw2
namespace Go.Proofs.Ytncafchgdgmeaaa
open Go Go.RowKit
set_option linter.unusedVariables false
set_option linter.unusedSimpArgs false

def divK (lo hi d : Int) : Bool := decide (hi < d)
def divQ (lo hi d : Int) : Int := if hi < d then (hi * 4294967296 + lo) / d else 0
def divR (lo hi d : Int) : Int := if hi < d then (hi * 4294967296 + lo) % d else 0

theorem div_small {lo hi d : Int} (hl : 0 ≤ lo ∧ lo < 4294967296) (hh : 0 ≤ hi ∧ hi < 4294967296) (hd : 0 < d) : (hi * 4294967296 + lo) / d ≤ 4294967295 ↔ hi < d := by
  constructor
  · intro h
    have h1 := Int.lt_ediv_add_one_mul_self (hi * 4294967296 + lo) hd
    have h2 : ((hi * 4294967296 + lo) / d + 1) * d ≤ 4294967296 * d := Int.mul_le_mul_of_nonneg_right (by omega) (by omega)
    have h3 : hi * 4294967296 < 4294967296 * d := by omega
    omega
  · intro h
    have h4 : hi * 4294967296 + lo < 4294967296 * d := by omega
    have := Int.ediv_lt_of_lt_mul hd h4
    omega

set_option maxRecDepth 100000 in
set_option maxHeartbeats 1000000 in
theorem Div_any (lo hi d : Int) (hl : 0 ≤ lo ∧ lo < 4294967296) (hh : 0 ≤ hi ∧ hi < 4294967296) (hd : 0 ≤ d ∧ d < 4294967296) (w : World) :
    Calls Try.prog 109 #[.int .i64 19, .int .u32 lo, .int .u32 hi, .int .u32 d] w fun e w' => e = .returned (.tuple #[.int .u32 (divQ lo hi d), .int .u32 (divR lo hi d), .bool (divK lo hi d)]) ∧ Upd [] w w' := by
  have hmo : Try.prog.follows .mixedOrders = true := by kernel_rfl
  have hj : bits .or .u64 (hi * 4294967296) lo = hi * 4294967296 + lo := by
    obtain ⟨a, rfl⟩ := Int.eq_ofNat_of_zero_le hl.1
    obtain ⟨b, rfl⟩ := Int.eq_ofNat_of_zero_le hh.1
    have h := u64_or_nat (b * 4294967296) a (by omega) (by omega)
    rw [nat_join 32 _ _ (by omega) (by omega)] at h
    have e : ((b : Int)) * 4294967296 = ((b * 4294967296 : Nat) : Int) := by omega
    rw [e, h]
    omega
  have q1 : hi * 4294967296 % 18446744073709551616 = hi * 4294967296 := by omega
  by_cases h0 : d = 0
  · have HV := Lib.hid (show divQ lo hi d = 0 ∧ divR lo hi d = 0 ∧ divK lo hi d = false by
      unfold divQ divR divK
      exact ⟨if_neg (by omega), if_neg (by omega), by rw [decide_eq_false_iff_not]; omega⟩)
    subst h0
    obtain ⟨hl0, hl1⟩ := hl
    obtain ⟨hh0, hh1⟩ := hh
    go_enter Try.func109, Try.ntmps109
    go_wp2
    refine bodyPost_ret (results_three' rfl (res_tmp 8 rfl) (res_tmp 9 rfl) (res_tmp 10 rfl)) rfl ⟨?_, Upd.refl _ _⟩
    rw [HV.out.1, HV.out.2.1, HV.out.2.2]
    rfl
  · have hs := div_small (lo := lo) (hi := hi) (d := d) hl hh (by omega)
    have hd0 : (d == 0) = false := by simpa using h0
    have hn0 : 0 ≤ (hi * 4294967296 + lo) / d := Int.ediv_nonneg (by omega) (by omega)
    have q2 : (hi * 4294967296 + lo).tdiv d = (hi * 4294967296 + lo) / d := Int.tdiv_eq_ediv_of_nonneg (by omega)
    have q3 : (hi * 4294967296 + lo).tmod d = (hi * 4294967296 + lo) % d := Int.tmod_eq_emod_of_nonneg (by omega)
    have hm0 := Int.emod_nonneg (hi * 4294967296 + lo) h0
    have hm1 := Int.emod_lt_of_pos (hi * 4294967296 + lo) (show 0 < d by omega)
    have hle : (hi * 4294967296 + lo) / d ≤ hi * 4294967296 + lo := Int.ediv_le_self _ (by omega)
    have q4 : (hi * 4294967296 + lo) / d % 18446744073709551616 = (hi * 4294967296 + lo) / d := by omega
    have q5 : (hi * 4294967296 + lo) % d % 18446744073709551616 = (hi * 4294967296 + lo) % d := by omega
    have q6 : (hi * 4294967296 + lo) % d % 4294967296 = (hi * 4294967296 + lo) % d := by omega
    by_cases h1 : hi < d
    · have HV := Lib.hid (show divQ lo hi d = (hi * 4294967296 + lo) / d ∧ divR lo hi d = (hi * 4294967296 + lo) % d ∧ divK lo hi d = true by
        unfold divQ divR divK
        exact ⟨if_pos h1, if_pos h1, by simpa using h1⟩)
      have hq := hs.2 h1
      have q7 : (hi * 4294967296 + lo) / d % 4294967296 = (hi * 4294967296 + lo) / d := by omega
      have q8 : decide (4294967295 < (hi * 4294967296 + lo) / d) = false := by rw [decide_eq_false_iff_not]; omega
      obtain ⟨hl0, hl1⟩ := hl
      obtain ⟨hh0, hh1⟩ := hh
      obtain ⟨hd0, hd1⟩ := hd
      clear hs hle h1
      generalize (hi * 4294967296 + lo) / d = q at *
      generalize (hi * 4294967296 + lo) % d = r at *
      go_enter Try.func109, Try.ntmps109
      go_wp2
      refine wp_draw 10 (fun w1 => Upd [] w w1) (fun _ _ => False) (by kernel_rfl) (by kernel_rfl) (Upd.refl [] w).drew (fun _ _ _ h => h.elim) ?_
      simp only [List.take_succ_cons, List.take_zero, List.drop_succ_cons, List.drop_zero]
      iterate 10
        apply headW_val rfl rfl
        · intro K hK w1 hB1
          have HB := Lib.hid hB1
          clear hB1
          go_wp2_with fail
          first
          | exact hK _ HB.out
          | exact HB.out
        · exact ⟨_, rfl⟩
      refine headW_nil (fun _ w7 hB1 => ?_)
      go_wp2_with fail
      refine bodyPost_ret (results_three' rfl (res_tmp 8 rfl) (res_tmp 9 rfl) (res_tmp 10 rfl)) rfl ⟨?_, hB1⟩
      rw [HV.out.1, HV.out.2.1, HV.out.2.2]
      rfl
    · have HV := Lib.hid (show divQ lo hi d = 0 ∧ divR lo hi d = 0 ∧ divK lo hi d = false by
        unfold divQ divR divK
        exact ⟨if_neg h1, if_neg h1, by rw [decide_eq_false_iff_not]; exact h1⟩)
      have hq : ¬ (hi * 4294967296 + lo) / d ≤ 4294967295 := fun h => h1 (hs.1 h)
      have q8 : decide (4294967295 < (hi * 4294967296 + lo) / d) = true := by rw [decide_eq_true_eq]; omega
      obtain ⟨hl0, hl1⟩ := hl
      obtain ⟨hh0, hh1⟩ := hh
      obtain ⟨hd0, hd1⟩ := hd
      clear hs hle h1 hm0 hm1 q5 q6 q3
      generalize (hi * 4294967296 + lo) / d = q at *
      go_enter Try.func109, Try.ntmps109
      go_wp2
      refine bodyPost_ret (results_three' rfl (res_tmp 8 rfl) (res_tmp 9 rfl) (res_tmp 10 rfl)) rfl ⟨?_, Upd.refl _ _⟩
      rw [HV.out.1, HV.out.2.1, HV.out.2.2]
      rfl

theorem divQ_range (lo hi d : Int) (hl : 0 ≤ lo ∧ lo < 4294967296) (hh : 0 ≤ hi ∧ hi < 4294967296) (hd : 0 ≤ d ∧ d < 4294967296) : (0 ≤ divQ lo hi d ∧ divQ lo hi d < 4294967296) ∧ (0 ≤ divR lo hi d ∧ divR lo hi d < 4294967296) := by
  unfold divQ divR
  by_cases h : hi < d
  · rw [if_pos h, if_pos h]
    have h1 := (div_small (lo := lo) (hi := hi) (d := d) hl hh (by omega)).2 h
    have h2 : 0 ≤ (hi * 4294967296 + lo) / d := Int.ediv_nonneg (by omega) (by omega)
    have h3 := Int.emod_nonneg (hi * 4294967296 + lo) (show d ≠ 0 by omega)
    have h4 := Int.emod_lt_of_pos (hi * 4294967296 + lo) (show 0 < d by omega)
    omega
  · rw [if_neg h, if_neg h]; omega

/-- A fault of a division. -/
def Flt.div : Flt := ⟨2, 0, 0, 0⟩

set_option maxRecDepth 100000 in
set_option maxHeartbeats 1000000 in
theorem divides_ok (H : Hs) (ab hb a : Nat) (w : World) (h : IsHost w hb H) (hA : IsAsk w ab hb a) (hne : ab ≠ hb) (hk : divK (H.get 10) (H.get 11) (H.get 12) = true) :
    Calls Try.prog 84 #[.pointer (some ⟨ab, 0, none⟩), .int .u32 5] w fun e w' => e = .returned (.tuple #[]) ∧ IsHost w' hb ((H.put 10 (divQ (H.get 10) (H.get 11) (H.get 12))).put 11 (divR (H.get 10) (H.get 11) (H.get 12))) ∧ Upd [hb] w w' := by
  have HH := Lib.hid (And.intro h (And.intro hA hne))
  have g0 := Lib.hid (Hs.get_range h 10)
  have g1 := Lib.hid (Hs.get_range h 11)
  have g2 := Lib.hid (Hs.get_range h 12)
  have gq := Lib.hid (divQ_range _ _ _ (Hs.get_range h 10) (Hs.get_range h 11) (Hs.get_range h 12))
  have HK := Lib.hid hk
  clear h hA hne hk
  have tok0 : True := trivial
  have tok1 : True := trivial
  have tok2 : True := trivial
  go_enter Try.func84, Try.ntmps84
  go_wp2_with (first | (have _t := tok0; clear _t; go_at_call 110; refine (arg_any H ab hb a 0 (by decide) _ HH.out.1 HH.out.2.1).mono ?_; rintro e w' ⟨rfl, rfl⟩; clear tok0) | (have _t := tok1; clear _t; go_at_call 110; refine (arg_any H ab hb a 1 (by decide) _ HH.out.1 HH.out.2.1).mono ?_; rintro e w' ⟨rfl, rfl⟩; clear tok1) | (have _t := tok2; clear _t; go_at_call 110; refine (arg_any H ab hb a 2 (by decide) _ HH.out.1 HH.out.2.1).mono ?_; rintro e w' ⟨rfl, rfl⟩; clear tok2) | (go_at_call 109; refine (Div_any (H.get 10) (H.get 11) (H.get 12) g0.out g1.out g2.out _).mono ?_; rintro e w1 ⟨rfl, hu⟩; rw [HK.out]; have U1 := Lib.hid hu; clear hu) | (go_at_call 111; refine (hmust_ok Flt.div _).mono ?_; rintro e w2 ⟨rfl, hu⟩; have U2 := Lib.hid (U1.out.also hu (by simp)); clear hu U1) | (have _t := U2; clear _t; go_at_call 106; refine (answers_any H ab hb a _ gq.out.1 _ (HH.out.1.keep U2.out (by simp)) (HH.out.2.1.keep U2.out (by simp))).mono ?_; rintro e w3 ⟨rfl, h3, hu⟩; have H3 := Lib.hid (And.intro h3 ((U2.out.mono (T := [hb]) (by simp)).also hu (by simp))); clear h3 hu U2; have c := cells_of (HH.out.2.1.keep H3.out.2 (by simpa using HH.out.2.2)).h) | (have _t := H3; clear _t; go_at_call 47; refine (SetX_any _ hb 11 _ _ H3.out.1 gq.out.2).mono ?_; rintro e w4 ⟨rfl, h4, hu⟩; have H4 := Lib.hid (And.intro h4 (H3.out.2.also hu (by simp))); clear h4 hu H3))
  go_end0
  exact ⟨rfl, H4.out.1, H4.out.2⟩

set_option maxRecDepth 100000 in
set_option maxHeartbeats 1000000 in
theorem divides_bad (H : Hs) (ab hb a : Nat) (w : World) (h : IsHost w hb H) (hA : IsAsk w ab hb a) (hk : divK (H.get 10) (H.get 11) (H.get 12) = false) :
    Calls Try.prog 84 #[.pointer (some ⟨ab, 0, none⟩), .int .u32 5] w fun e w' => e = .panicked [{ v := .iface 32 Flt.div.val, recovered := false }] ∧ Upd [] w w' := by
  have HH := Lib.hid (And.intro h hA)
  have g0 := Lib.hid (Hs.get_range h 10)
  have g1 := Lib.hid (Hs.get_range h 11)
  have g2 := Lib.hid (Hs.get_range h 12)
  have HK := Lib.hid hk
  clear h hA hk
  have tok0 : True := trivial
  have tok1 : True := trivial
  have tok2 : True := trivial
  go_enter Try.func84, Try.ntmps84
  go_wp2_with (first | (have _t := tok0; clear _t; go_at_call 110; refine (arg_any H ab hb a 0 (by decide) _ HH.out.1 HH.out.2).mono ?_; rintro e w' ⟨rfl, rfl⟩; clear tok0) | (have _t := tok1; clear _t; go_at_call 110; refine (arg_any H ab hb a 1 (by decide) _ HH.out.1 HH.out.2).mono ?_; rintro e w' ⟨rfl, rfl⟩; clear tok1) | (have _t := tok2; clear _t; go_at_call 110; refine (arg_any H ab hb a 2 (by decide) _ HH.out.1 HH.out.2).mono ?_; rintro e w' ⟨rfl, rfl⟩; clear tok2) | (go_at_call 109; refine (Div_any (H.get 10) (H.get 11) (H.get 12) g0.out g1.out g2.out _).mono ?_; rintro e w1 ⟨rfl, hu⟩; rw [HK.out]; have U1 := Lib.hid hu; clear hu) | (go_at_call 111; refine (hmust_bad Flt.div _).mono ?_; rintro e w2 ⟨rfl, hu⟩; have U2 := Lib.hid (U1.out.also hu (by simp)); clear hu U1))
  exact ⟨rfl, rfl, U2.out⟩
end Go.Proofs.Ytncafchgdgmeaaa
