/-
  The law HelperDivides: the walk. No condition.
-/
import Derived.Test.YtncafchgdgmeaaaHpK
namespace Go.Proofs.Ytncafchgdgmeaaa
open Go Go.RowKit
set_option linter.unusedVariables false
set_option linter.unusedSimpArgs false

def R5 (n x y z t : Int) : Prop := (0 ≤ n ∧ n < 4294967296) ∧ (0 ≤ x ∧ x < 4294967296) ∧ (0 ≤ y ∧ y < 4294967296) ∧ (0 ≤ z ∧ z < 4294967296) ∧ (0 ≤ t ∧ t < 4294967296)

theorem askDiv_ok (H : Hs) (M : Mem) (hb a pb : Nat) (lo hi d : Int) (hr : R5 5 lo hi d 0) (w : World) (h : IsHost w hb H) (hm : IsMem w a pb M) (hne : hb ≠ a ∧ hb ≠ pb) (hk : divK lo hi d = true) :
    Calls Try.prog 43 #[.agg #[.pointer (some ⟨hb, 0, none⟩), .pointer (some ⟨a, 0, none⟩)], .int .u32 5, .int .u32 lo, .int .u32 hi, .int .u32 d, .int .u32 0] w fun e w' => e = .returned (.bool true) ∧ IsHost w' hb (((H.ask 5 lo hi d 0).put 10 (divQ lo hi d)).put 11 (divR lo hi d)) ∧ Upd [hb, pb] w w' := by
  have g := H.ask_get 5 lo hi d 0
  refine ask_any true H M (fun w' => IsHost w' hb (((H.ask 5 lo hi d 0).put 10 (divQ lo hi d)).put 11 (divR lo hi d))) hb a pb 5 lo hi d 0 hr w h hm hne (fun _ _ u h => h.keep u (by simp)) (fun w2 h2 m2 => ?_)
  refine (Do_divs _ _ hb a pb w2 h2 m2 hne g.1 (by rw [g.2.1, g.2.2.1, g.2.2.2.1]; exact hk)).mono ?_
  rintro e w3 ⟨rfl, h3, h4, h5⟩
  rw [g.2.1, g.2.2.1, g.2.2.2.1] at h3
  exact ⟨⟨_, rfl⟩, h3, h5⟩

theorem askDiv_bad (H : Hs) (M : Mem) (hb a pb : Nat) (lo hi d : Int) (hr : R5 5 lo hi d 0) (w : World) (h : IsHost w hb H) (hm : IsMem w a pb M) (hne : hb ≠ a ∧ hb ≠ pb) (hk : divK lo hi d = false) :
    Calls Try.prog 43 #[.agg #[.pointer (some ⟨hb, 0, none⟩), .pointer (some ⟨a, 0, none⟩)], .int .u32 5, .int .u32 lo, .int .u32 hi, .int .u32 d, .int .u32 0] w fun e w' => e = .returned (.bool false) ∧ IsHost w' hb (H.ask 5 lo hi d 0) ∧ Upd [hb, pb] w w' := by
  have g := H.ask_get 5 lo hi d 0
  refine ask_any false H M (fun w' => IsHost w' hb (H.ask 5 lo hi d 0)) hb a pb 5 lo hi d 0 hr w h hm hne (fun _ _ u h => h.keep u (by simp)) (fun w2 h2 m2 => ?_)
  refine (Do_divs_bad _ _ hb a pb w2 h2 m2 hne g.1 (by rw [g.2.1, g.2.2.1, g.2.2.2.1]; exact hk)).mono ?_
  rintro e w3 ⟨⟨F, _, rfl⟩, h5⟩
  exact ⟨⟨_, rfl⟩, h2.keep h5 (by simp), h5.mono (by simp)⟩

set_option maxRecDepth 100000 in
set_option maxHeartbeats 4000000 in
theorem HelperDivides_ok (lo hi d : Int) (hl : 0 ≤ lo ∧ lo < 4294967296) (hh : 0 ≤ hi ∧ hi < 4294967296) (hd : 0 ≤ d ∧ d < 4294967296) (hlt : hi < d) (w : World) :
    Calls Try.prog 11 #[.int .u32 lo, .int .u32 hi, .int .u32 d] w fun e w' => e = .returned (.bool true) ∧ Upd [] w w' := by
  have tok1 : True := trivial
  have HR := Lib.hid (show ((0 : Int) ≤ 5 ∧ (5 : Int) < 4294967296) ∧ (0 ≤ lo ∧ lo < 4294967296) ∧ (0 ≤ hi ∧ hi < 4294967296) ∧ (0 ≤ d ∧ d < 4294967296) ∧ ((0 : Int) ≤ 0 ∧ (0 : Int) < 4294967296) from ⟨by decide, hl, hh, hd, by decide⟩)
  have hk : divK lo hi d = true := by simpa [divK] using hlt
  have hge : decide (d ≤ hi) = false := by rw [decide_eq_false_iff_not]; omega
  have hqr := divQ_range lo hi d hl hh hd
  have hj : bits .or .u64 (hi * 4294967296) lo = hi * 4294967296 + lo := by
    obtain ⟨a, rfl⟩ := Int.eq_ofNat_of_zero_le hl.1
    obtain ⟨b, rfl⟩ := Int.eq_ofNat_of_zero_le hh.1
    have h := u64_or_nat (b * 4294967296) a (by omega) (by omega)
    rw [nat_join 32 _ _ (by omega) (by omega)] at h
    have e : ((b : Int)) * 4294967296 = ((b * 4294967296 : Nat) : Int) := by omega
    rw [e, h]
    omega
  have he : divQ lo hi d * d + divR lo hi d = hi * 4294967296 + lo := by
    unfold divQ divR
    rw [if_pos hlt, if_pos hlt]
    have := Int.mul_ediv_add_emod (hi * 4294967296 + lo) d
    rw [Int.mul_comm] at this
    exact this
  have hr2 : divR lo hi d < d := by
    unfold divR
    rw [if_pos hlt]
    exact Int.emod_lt_of_pos _ (by omega)
  have hr3 : decide (divR lo hi d < d) = true := by simpa using hr2
  have q1 : hi * 4294967296 % 18446744073709551616 = hi * 4294967296 := by omega
  have q2 : divQ lo hi d * d % 18446744073709551616 = divQ lo hi d * d := by
    have h1 : 0 ≤ divQ lo hi d * d := Int.mul_nonneg hqr.1.1 hd.1
    omega
  have q3 : (hi * 4294967296 + lo) % 18446744073709551616 = hi * 4294967296 + lo := by omega
  obtain ⟨hl0, hl1⟩ := hl
  obtain ⟨hh0, hh1⟩ := hh
  obtain ⟨hd0, hd1⟩ := hd
  obtain ⟨⟨hq0, hq1⟩, hr0, hr1⟩ := hqr
  clear hr2 hlt
  have HK := Lib.hid hk
  clear hk
  generalize hQ : divQ lo hi d = q at *
  generalize hRr : divR lo hi d = r at *
  have HQ := Lib.hid (And.intro hQ hRr)
  clear hQ hRr
  go_enter Try.func11, Try.ntmps11
  go_wp2_with (first | (have _t := tok1; clear _t; go_at_call 41; refine (known20_any _).mono ?_; rintro e wk ⟨rfl, hu⟩; have UK := Lib.hid hu; clear hu tok1) | (have _t := UK; clear _t; go_at_call 42; refine (HNew_any _).mono ?_; rintro e w0 ⟨hb, m, rfl, h1, h2, h3⟩; have N0 := Lib.hid (And.intro h1 (And.intro h2 (UK.out.also h3 (by simp)))); have NK := Lib.hid UK.out.size; clear h1 h2 h3 UK) | (have _t := N0; clear _t; go_at_call 15; refine (New_any _).mono ?_; rintro e w1 ⟨a, pb, rfl, ha, hp, hM0, hU0⟩; have K0 := Lib.hid (show Kh w hb a pb (Hs.zero m) Mem.zero w1 from ⟨N0.out.2.1.keep hU0 (by simp), hM0, ⟨by have := N0.out.2.1.lt; omega, by have := N0.out.2.1.lt; omega⟩, ⟨by have := NK.out; have := N0.out.1; omega, by have := N0.out.2.2.size; omega⟩, N0.out.2.2.also hU0 (by simp)⟩); clear ha hp hM0 hU0 N0) | (have _t := K0; clear _t; go_at_call 43; have K1 := Lib.hid (K0.out.step ((Upd.refl [] w1).alloc (.cells #[.pointer (some ⟨hb, 0, none⟩), .pointer (some ⟨a, 0, none⟩)] 89))); refine (askDiv_ok (Hs.zero m) Mem.zero hb a pb lo hi d HR.out _ K1.out.h K1.out.m K1.out.ne HK.out).mono ?_; rintro e w4 ⟨rfl, h1, hu⟩; rw [HQ.out.1, HQ.out.2] at h1; have K2 := Lib.hid (And.intro h1 (K1.out.u.also hu (by have := K1.out.n; simp; omega))); clear h1 hu K0 K1; have g10 : ((((Hs.zero m).ask 5 lo hi d 0).put 10 q).put 11 r).get 10 = q := rfl; have g11 : ((((Hs.zero m).ask 5 lo hi d 0).put 10 q).put 11 r).get 11 = r := rfl; have g12 : ((((Hs.zero m).ask 5 lo hi d 0).put 10 q).put 11 r).get 12 = d := rfl) | (have _t := K2; clear _t; go_at_call 44; refine (X_any _ hb _ _ K2.out.1).mono ?_; rintro e w7 ⟨rfl, rfl⟩))
  go_ret
  exact ⟨rfl, K2.out.2⟩

set_option maxRecDepth 100000 in
set_option maxHeartbeats 4000000 in
theorem HelperDivides_bad (lo hi d : Int) (hl : 0 ≤ lo ∧ lo < 4294967296) (hh : 0 ≤ hi ∧ hi < 4294967296) (hd : 0 ≤ d ∧ d < 4294967296) (hlt : ¬ hi < d) (w : World) :
    Calls Try.prog 11 #[.int .u32 lo, .int .u32 hi, .int .u32 d] w fun e w' => e = .returned (.bool true) ∧ Upd [] w w' := by
  have tok1 : True := trivial
  have HR := Lib.hid (show ((0 : Int) ≤ 5 ∧ (5 : Int) < 4294967296) ∧ (0 ≤ lo ∧ lo < 4294967296) ∧ (0 ≤ hi ∧ hi < 4294967296) ∧ (0 ≤ d ∧ d < 4294967296) ∧ ((0 : Int) ≤ 0 ∧ (0 : Int) < 4294967296) from ⟨by decide, hl, hh, hd, by decide⟩)
  have HK := Lib.hid (show divK lo hi d = false by simpa [divK] using hlt)
  have hge : decide (d ≤ hi) = true := by rw [decide_eq_true_eq]; omega
  clear hl hh hd hlt
  go_enter Try.func11, Try.ntmps11
  go_wp2_with (first | (have _t := tok1; clear _t; go_at_call 41; refine (known20_any _).mono ?_; rintro e wk ⟨rfl, hu⟩; have UK := Lib.hid hu; clear hu tok1) | (have _t := UK; clear _t; go_at_call 42; refine (HNew_any _).mono ?_; rintro e w0 ⟨hb, m, rfl, h1, h2, h3⟩; have N0 := Lib.hid (And.intro h1 (And.intro h2 (UK.out.also h3 (by simp)))); have NK := Lib.hid UK.out.size; clear h1 h2 h3 UK) | (have _t := N0; clear _t; go_at_call 15; refine (New_any _).mono ?_; rintro e w1 ⟨a, pb, rfl, ha, hp, hM0, hU0⟩; have K0 := Lib.hid (show Kh w hb a pb (Hs.zero m) Mem.zero w1 from ⟨N0.out.2.1.keep hU0 (by simp), hM0, ⟨by have := N0.out.2.1.lt; omega, by have := N0.out.2.1.lt; omega⟩, ⟨by have := NK.out; have := N0.out.1; omega, by have := N0.out.2.2.size; omega⟩, N0.out.2.2.also hU0 (by simp)⟩); clear ha hp hM0 hU0 N0) | (have _t := K0; clear _t; go_at_call 43; have K1 := Lib.hid (K0.out.step ((Upd.refl [] w1).alloc (.cells #[.pointer (some ⟨hb, 0, none⟩), .pointer (some ⟨a, 0, none⟩)] 89))); refine (askDiv_bad (Hs.zero m) Mem.zero hb a pb lo hi d HR.out _ K1.out.h K1.out.m K1.out.ne HK.out).mono ?_; rintro e w4 ⟨rfl, h1, hu⟩; have K2 := Lib.hid (And.intro h1 (K1.out.u.also hu (by have := K1.out.n; simp; omega))); clear h1 hu K0 K1; have g10 : ((Hs.zero m).ask 5 lo hi d 0).get 10 = lo := rfl; have g11 : ((Hs.zero m).ask 5 lo hi d 0).get 11 = hi := rfl; have g12 : ((Hs.zero m).ask 5 lo hi d 0).get 12 = d := rfl) | (have _t := K2; clear _t; go_at_call 44; refine (X_any _ hb _ _ K2.out.1).mono ?_; rintro e w7 ⟨rfl, rfl⟩))
  go_ret
  exact ⟨rfl, K2.out.2⟩

theorem HelperDivides_any (lo hi d : Int) (hl : 0 ≤ lo ∧ lo < 4294967296) (hh : 0 ≤ hi ∧ hi < 4294967296) (hd : 0 ≤ d ∧ d < 4294967296) (w : World) :
    Calls Try.prog 11 #[.int .u32 lo, .int .u32 hi, .int .u32 d] w fun e w' => e = .returned (.bool true) ∧ Upd [] w w' := by
  by_cases h : hi < d
  · exact HelperDivides_ok lo hi d hl hh hd h w
  · exact HelperDivides_bad lo hi d hl hh hd h w
end Go.Proofs.Ytncafchgdgmeaaa
