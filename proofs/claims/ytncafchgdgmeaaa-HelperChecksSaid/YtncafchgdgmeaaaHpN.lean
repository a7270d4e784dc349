/-
  The law HelperChecks: the walk. No condition.
-/
import Derived.Test.YtncafchgdgmeaaaHpM
namespace Go.Proofs.Ytncafchgdgmeaaa
open Go Go.RowKit
set_option linter.unusedVariables false
set_option linter.unusedSimpArgs false

set_option maxRecDepth 100000 in
set_option maxHeartbeats 4000000 in
theorem HC_z (x n g0 p q : Int) (hp : p.tmod 700 = x) (hq : q.tmod 7 = g0) (hx : 0 ≤ x ∧ x < 700) (hn : 0 ≤ n ∧ n < 4294967296) (hg : 0 ≤ g0 ∧ g0 < 7) (h0 : n = 0) (w : World) :
    Calls Try.prog 12 #[.int .u16 p, .int .u32 n, .int .u8 q] w fun e w' => e = .returned (.bool true) ∧ Upd [] w w' := by
  have tok1 : True := trivial
  subst h0
  have HC := Lib.hid (show (hcM (g0 + 1)).canRow x (min 0 16 : Int).toNat = true by rw [show (min 0 16 : Int).toNat = 0 from rfl]; simp [Mem.canRow])
  have HR := Lib.hid (show R5 14 x 0 0 0 from ⟨by decide, by omega, hn, by decide, by decide⟩)
  have HM := Lib.hid (hc_map (g0 + 1) (by omega))
  have w1 : wrap64 (g0 + 1) = g0 + 1 := by unfold wrap64; omega
  have w2 : wrap64 g0 = g0 := by unfold wrap64; omega
  clear hn
  obtain ⟨hx0, hx1⟩ := hx
  obtain ⟨hg0, hg1⟩ := hg
  go_enter Try.func12, Try.ntmps12
  go_wp2_with (first | (have _t := tok1; clear _t; go_at_call 41; refine (known20_any _).mono ?_; rintro e wk ⟨rfl, hu⟩; have UK := Lib.hid hu; clear hu tok1) | (have _t := UK; clear _t; go_at_call 42; refine (HNew_any _).mono ?_; rintro e w0 ⟨hb, m, rfl, h1, h2, h3⟩; have N0 := Lib.hid (And.intro h1 (And.intro h2 (UK.out.also h3 (by simp)))); have NK := Lib.hid UK.out.size; clear h1 h2 h3 UK) | (have _t := N0; clear _t; go_at_call 15; refine (New_any _).mono ?_; rintro e w1 ⟨a, pb, rfl, ha, hp, hM0, hU0⟩; have K0 := Lib.hid (show Kh w hb a pb (Hs.zero m) Mem.zero w1 from ⟨N0.out.2.1.keep hU0 (by simp), hM0, ⟨by have := N0.out.2.1.lt; omega, by have := N0.out.2.1.lt; omega⟩, ⟨by have := NK.out; have := N0.out.1; omega, by have := N0.out.2.2.size; omega⟩, N0.out.2.2.also hU0 (by simp)⟩); clear ha hp hM0 hU0 N0) | (have _t := K0; clear _t; go_at_call 16; refine (Map_yes Mem.zero a pb 1 1 (g0 + 1) _ K0.out.m (by decide) HM.out).mono ?_; rintro e w2 ⟨rfl, h1, h2⟩; have K1 := Lib.hid (show Kh w hb a pb (Hs.zero m) (hcM (g0 + 1)) w2 from K0.out.mem h2 h1); clear h1 h2 K0) | (have _t := K1; clear _t; go_at_call 17; refine (Copy_any _ a pb _ K1.out.m).mono ?_; rintro e w3 ⟨c, qb, rfl, h1, h2, h3, h4⟩; have K2 := Lib.hid (K1.out.step h4); have C2 := Lib.hid (show IsMem w3 c qb (hcM (g0 + 1)) ∧ hb ≠ c ∧ hb ≠ qb ∧ pb ≠ c ∧ pb ≠ qb from ⟨h3, by have := K1.out.h.lt; omega, by have := K1.out.h.lt; omega, by have := K1.out.m.pl; omega, by have := K1.out.m.pl; omega⟩); clear h1 h2 h3 h4 K1) | (have _t := K2; clear _t; go_at_call 43; refine (askCan_ok (Hs.zero m) _ hb a pb x 0 HR.out _ K2.out.h K2.out.m K2.out.ne HC.out).mono ?_; rintro e w4 ⟨rfl, ⟨h1, h2⟩, hu⟩; have K3 := Lib.hid (K2.out.both hu h1 h2); have C3 := Lib.hid (C2.out.1.keep hu (by have := C2.out.2; simp; omega) (by have := C2.out.2; simp; omega)); clear h1 h2 hu K2 C2; have g10 : (((Hs.zero m).ask 14 x 0 0 0).put 10 0).get 10 = 0 := rfl; have g11 : (((Hs.zero m).ask 14 x 0 0 0).put 10 0).get 11 = 0 := rfl) | (have _t := K3; clear _t; go_at_call 19; refine (Same_any _ _ a c pb qb _ K3.out.m C3.out).mono ?_; rintro e w5 ⟨rfl, hu⟩; rw [hc_same]; have K4 := Lib.hid (K3.out.step hu); clear hu K3 C3) | (have _t := K4; clear _t; go_at_call 44; refine (X_any _ hb _ _ K4.out.h).mono ?_; rintro e w7 ⟨rfl, rfl⟩))
  go_ret
  exact ⟨rfl, K4.out.u⟩

set_option maxRecDepth 100000 in
set_option maxHeartbeats 4000000 in
theorem HC_an (x n g0 p q : Int) (hp : p.tmod 700 = x) (hq : q.tmod 7 = g0) (hx : 0 ≤ x ∧ x < 700) (hn : 0 ≤ n ∧ n < 4294967296) (hg : 0 ≤ g0 ∧ g0 < 7) (hk : 0 < n ∧ n ≤ 16) (h1 : x < 256) (w : World) :
    Calls Try.prog 12 #[.int .u16 p, .int .u32 n, .int .u8 q] w fun e w' => e = .returned (.bool true) ∧ Upd [] w w' := by
  have tok1 : True := trivial
  have z0 : (n == 0) = false := by rw [beq_eq_false_iff_ne]; omega
  have z1 : (x + n) % 4294967296 = x + n := by omega
  have z3 : decide (256 ≤ x) = false := by rw [decide_eq_false_iff_not]; omega
  have HC := Lib.hid (show (hcM (g0 + 1)).canRow x (min n 16).toNat = false by rw [show (min n 16).toNat = n.toNat by omega]; exact hc_no (g0 + 1) x n.toNat (by omega) hx (by omega) (by omega) (.inl h1))
  have HR := Lib.hid (show R5 14 x n 0 0 from ⟨by decide, by omega, hn, by decide, by decide⟩)
  have HM := Lib.hid (hc_map (g0 + 1) (by omega))
  have w1 : wrap64 (g0 + 1) = g0 + 1 := by unfold wrap64; omega
  have w2 : wrap64 g0 = g0 := by unfold wrap64; omega
  obtain ⟨hn0, hn1⟩ := hn
  obtain ⟨hx0, hx1⟩ := hx
  obtain ⟨hg0, hg1⟩ := hg
  go_enter Try.func12, Try.ntmps12
  go_wp2_with (first | (have _t := tok1; clear _t; go_at_call 41; refine (known20_any _).mono ?_; rintro e wk ⟨rfl, hu⟩; have UK := Lib.hid hu; clear hu tok1) | (have _t := UK; clear _t; go_at_call 42; refine (HNew_any _).mono ?_; rintro e w0 ⟨hb, m, rfl, h1, h2, h3⟩; have N0 := Lib.hid (And.intro h1 (And.intro h2 (UK.out.also h3 (by simp)))); have NK := Lib.hid UK.out.size; clear h1 h2 h3 UK) | (have _t := N0; clear _t; go_at_call 15; refine (New_any _).mono ?_; rintro e w1 ⟨a, pb, rfl, ha, hp, hM0, hU0⟩; have K0 := Lib.hid (show Kh w hb a pb (Hs.zero m) Mem.zero w1 from ⟨N0.out.2.1.keep hU0 (by simp), hM0, ⟨by have := N0.out.2.1.lt; omega, by have := N0.out.2.1.lt; omega⟩, ⟨by have := NK.out; have := N0.out.1; omega, by have := N0.out.2.2.size; omega⟩, N0.out.2.2.also hU0 (by simp)⟩); clear ha hp hM0 hU0 N0) | (have _t := K0; clear _t; go_at_call 16; refine (Map_yes Mem.zero a pb 1 1 (g0 + 1) _ K0.out.m (by decide) HM.out).mono ?_; rintro e w2 ⟨rfl, h1, h2⟩; have K1 := Lib.hid (show Kh w hb a pb (Hs.zero m) (hcM (g0 + 1)) w2 from K0.out.mem h2 h1); clear h1 h2 K0) | (have _t := K1; clear _t; go_at_call 17; refine (Copy_any _ a pb _ K1.out.m).mono ?_; rintro e w3 ⟨c, qb, rfl, h1, h2, h3, h4⟩; have K2 := Lib.hid (K1.out.step h4); have C2 := Lib.hid (show IsMem w3 c qb (hcM (g0 + 1)) ∧ hb ≠ c ∧ hb ≠ qb ∧ pb ≠ c ∧ pb ≠ qb from ⟨h3, by have := K1.out.h.lt; omega, by have := K1.out.h.lt; omega, by have := K1.out.m.pl; omega, by have := K1.out.m.pl; omega⟩); clear h1 h2 h3 h4 K1) | (have _t := K2; clear _t; go_at_call 43; refine (askCan_bad (Hs.zero m) _ hb a pb x n HR.out _ K2.out.h K2.out.m K2.out.ne HC.out).mono ?_; rintro e w4 ⟨rfl, ⟨h1, h2⟩, hu⟩; have K3 := Lib.hid (K2.out.both hu h1 h2); have C3 := Lib.hid (C2.out.1.keep hu (by have := C2.out.2; simp; omega) (by have := C2.out.2; simp; omega)); clear h1 h2 hu K2 C2; have g10 : ((Hs.zero m).ask 14 x n 0 0).get 10 = x := rfl; have g11 : ((Hs.zero m).ask 14 x n 0 0).get 11 = n := rfl) | (have _t := K3; clear _t; go_at_call 19; refine (Same_any _ _ a c pb qb _ K3.out.m C3.out).mono ?_; rintro e w5 ⟨rfl, hu⟩; rw [hc_same]; have K4 := Lib.hid (K3.out.step hu); clear hu K3 C3) | (have _t := K4; clear _t; go_at_call 44; refine (X_any _ hb _ _ K4.out.h).mono ?_; rintro e w7 ⟨rfl, rfl⟩))
  go_ret
  exact ⟨rfl, K4.out.u⟩

set_option maxRecDepth 100000 in
set_option maxHeartbeats 4000000 in
theorem HC_bn (x n g0 p q : Int) (hp : p.tmod 700 = x) (hq : q.tmod 7 = g0) (hx : 0 ≤ x ∧ x < 700) (hn : 0 ≤ n ∧ n < 4294967296) (hg : 0 ≤ g0 ∧ g0 < 7) (hk : 0 < n ∧ n ≤ 16) (h1 : 256 ≤ x) (h2 : 512 < x + n) (w : World) :
    Calls Try.prog 12 #[.int .u16 p, .int .u32 n, .int .u8 q] w fun e w' => e = .returned (.bool true) ∧ Upd [] w w' := by
  have tok1 : True := trivial
  have z0 : (n == 0) = false := by rw [beq_eq_false_iff_ne]; omega
  have z1 : (x + n) % 4294967296 = x + n := by omega
  have z3 : decide (256 ≤ x) = true := by rw [decide_eq_true_eq]; omega
  have z4 : decide (x + n ≤ 512) = false := by rw [decide_eq_false_iff_not]; omega
  have HC := Lib.hid (show (hcM (g0 + 1)).canRow x (min n 16).toNat = false by rw [show (min n 16).toNat = n.toNat by omega]; exact hc_no (g0 + 1) x n.toNat (by omega) hx (by omega) (by omega) (.inr (.inl (by omega))))
  have HR := Lib.hid (show R5 14 x n 0 0 from ⟨by decide, by omega, hn, by decide, by decide⟩)
  have HM := Lib.hid (hc_map (g0 + 1) (by omega))
  have w1 : wrap64 (g0 + 1) = g0 + 1 := by unfold wrap64; omega
  have w2 : wrap64 g0 = g0 := by unfold wrap64; omega
  obtain ⟨hn0, hn1⟩ := hn
  obtain ⟨hx0, hx1⟩ := hx
  obtain ⟨hg0, hg1⟩ := hg
  go_enter Try.func12, Try.ntmps12
  go_wp2_with (first | (have _t := tok1; clear _t; go_at_call 41; refine (known20_any _).mono ?_; rintro e wk ⟨rfl, hu⟩; have UK := Lib.hid hu; clear hu tok1) | (have _t := UK; clear _t; go_at_call 42; refine (HNew_any _).mono ?_; rintro e w0 ⟨hb, m, rfl, h1, h2, h3⟩; have N0 := Lib.hid (And.intro h1 (And.intro h2 (UK.out.also h3 (by simp)))); have NK := Lib.hid UK.out.size; clear h1 h2 h3 UK) | (have _t := N0; clear _t; go_at_call 15; refine (New_any _).mono ?_; rintro e w1 ⟨a, pb, rfl, ha, hp, hM0, hU0⟩; have K0 := Lib.hid (show Kh w hb a pb (Hs.zero m) Mem.zero w1 from ⟨N0.out.2.1.keep hU0 (by simp), hM0, ⟨by have := N0.out.2.1.lt; omega, by have := N0.out.2.1.lt; omega⟩, ⟨by have := NK.out; have := N0.out.1; omega, by have := N0.out.2.2.size; omega⟩, N0.out.2.2.also hU0 (by simp)⟩); clear ha hp hM0 hU0 N0) | (have _t := K0; clear _t; go_at_call 16; refine (Map_yes Mem.zero a pb 1 1 (g0 + 1) _ K0.out.m (by decide) HM.out).mono ?_; rintro e w2 ⟨rfl, h1, h2⟩; have K1 := Lib.hid (show Kh w hb a pb (Hs.zero m) (hcM (g0 + 1)) w2 from K0.out.mem h2 h1); clear h1 h2 K0) | (have _t := K1; clear _t; go_at_call 17; refine (Copy_any _ a pb _ K1.out.m).mono ?_; rintro e w3 ⟨c, qb, rfl, h1, h2, h3, h4⟩; have K2 := Lib.hid (K1.out.step h4); have C2 := Lib.hid (show IsMem w3 c qb (hcM (g0 + 1)) ∧ hb ≠ c ∧ hb ≠ qb ∧ pb ≠ c ∧ pb ≠ qb from ⟨h3, by have := K1.out.h.lt; omega, by have := K1.out.h.lt; omega, by have := K1.out.m.pl; omega, by have := K1.out.m.pl; omega⟩); clear h1 h2 h3 h4 K1) | (have _t := K2; clear _t; go_at_call 43; refine (askCan_bad (Hs.zero m) _ hb a pb x n HR.out _ K2.out.h K2.out.m K2.out.ne HC.out).mono ?_; rintro e w4 ⟨rfl, ⟨h1, h2⟩, hu⟩; have K3 := Lib.hid (K2.out.both hu h1 h2); have C3 := Lib.hid (C2.out.1.keep hu (by have := C2.out.2; simp; omega) (by have := C2.out.2; simp; omega)); clear h1 h2 hu K2 C2; have g10 : ((Hs.zero m).ask 14 x n 0 0).get 10 = x := rfl; have g11 : ((Hs.zero m).ask 14 x n 0 0).get 11 = n := rfl) | (have _t := K3; clear _t; go_at_call 19; refine (Same_any _ _ a c pb qb _ K3.out.m C3.out).mono ?_; rintro e w5 ⟨rfl, hu⟩; rw [hc_same]; have K4 := Lib.hid (K3.out.step hu); clear hu K3 C3) | (have _t := K4; clear _t; go_at_call 44; refine (X_any _ hb _ _ K4.out.h).mono ?_; rintro e w7 ⟨rfl, rfl⟩))
  go_ret
  exact ⟨rfl, K4.out.u⟩

set_option maxRecDepth 100000 in
set_option maxHeartbeats 4000000 in
theorem HC_cn (x n g0 p q : Int) (hp : p.tmod 700 = x) (hq : q.tmod 7 = g0) (hx : 0 ≤ x ∧ x < 700) (hn : 0 ≤ n ∧ n < 4294967296) (hg : 0 ≤ g0 ∧ g0 < 7) (hk : 0 < n ∧ n ≤ 16) (h1 : 256 ≤ x) (h2 : x + n ≤ 512) (h3 : (bits .and .i64 (g0 + 1) 3 == 3) = false) (w : World) :
    Calls Try.prog 12 #[.int .u16 p, .int .u32 n, .int .u8 q] w fun e w' => e = .returned (.bool true) ∧ Upd [] w w' := by
  have tok1 : True := trivial
  have z0 : (n == 0) = false := by rw [beq_eq_false_iff_ne]; omega
  have z1 : (x + n) % 4294967296 = x + n := by omega
  have z3 : decide (256 ≤ x) = true := by rw [decide_eq_true_eq]; omega
  have z4 : decide (x + n ≤ 512) = true := by rw [decide_eq_true_eq]; omega
  have HC := Lib.hid (show (hcM (g0 + 1)).canRow x (min n 16).toNat = false by rw [show (min n 16).toNat = n.toNat by omega]; exact hc_no (g0 + 1) x n.toNat (by omega) hx (by omega) (by omega) (.inr (.inr h3)))
  have HR := Lib.hid (show R5 14 x n 0 0 from ⟨by decide, by omega, hn, by decide, by decide⟩)
  have HM := Lib.hid (hc_map (g0 + 1) (by omega))
  have w1 : wrap64 (g0 + 1) = g0 + 1 := by unfold wrap64; omega
  have w2 : wrap64 g0 = g0 := by unfold wrap64; omega
  obtain ⟨hn0, hn1⟩ := hn
  obtain ⟨hx0, hx1⟩ := hx
  obtain ⟨hg0, hg1⟩ := hg
  go_enter Try.func12, Try.ntmps12
  go_wp2_with (first | (have _t := tok1; clear _t; go_at_call 41; refine (known20_any _).mono ?_; rintro e wk ⟨rfl, hu⟩; have UK := Lib.hid hu; clear hu tok1) | (have _t := UK; clear _t; go_at_call 42; refine (HNew_any _).mono ?_; rintro e w0 ⟨hb, m, rfl, h1, h2, h3⟩; have N0 := Lib.hid (And.intro h1 (And.intro h2 (UK.out.also h3 (by simp)))); have NK := Lib.hid UK.out.size; clear h1 h2 h3 UK) | (have _t := N0; clear _t; go_at_call 15; refine (New_any _).mono ?_; rintro e w1 ⟨a, pb, rfl, ha, hp, hM0, hU0⟩; have K0 := Lib.hid (show Kh w hb a pb (Hs.zero m) Mem.zero w1 from ⟨N0.out.2.1.keep hU0 (by simp), hM0, ⟨by have := N0.out.2.1.lt; omega, by have := N0.out.2.1.lt; omega⟩, ⟨by have := NK.out; have := N0.out.1; omega, by have := N0.out.2.2.size; omega⟩, N0.out.2.2.also hU0 (by simp)⟩); clear ha hp hM0 hU0 N0) | (have _t := K0; clear _t; go_at_call 16; refine (Map_yes Mem.zero a pb 1 1 (g0 + 1) _ K0.out.m (by decide) HM.out).mono ?_; rintro e w2 ⟨rfl, h1, h2⟩; have K1 := Lib.hid (show Kh w hb a pb (Hs.zero m) (hcM (g0 + 1)) w2 from K0.out.mem h2 h1); clear h1 h2 K0) | (have _t := K1; clear _t; go_at_call 17; refine (Copy_any _ a pb _ K1.out.m).mono ?_; rintro e w3 ⟨c, qb, rfl, h1, h2, h3, h4⟩; have K2 := Lib.hid (K1.out.step h4); have C2 := Lib.hid (show IsMem w3 c qb (hcM (g0 + 1)) ∧ hb ≠ c ∧ hb ≠ qb ∧ pb ≠ c ∧ pb ≠ qb from ⟨h3, by have := K1.out.h.lt; omega, by have := K1.out.h.lt; omega, by have := K1.out.m.pl; omega, by have := K1.out.m.pl; omega⟩); clear h1 h2 h3 h4 K1) | (have _t := K2; clear _t; go_at_call 43; refine (askCan_bad (Hs.zero m) _ hb a pb x n HR.out _ K2.out.h K2.out.m K2.out.ne HC.out).mono ?_; rintro e w4 ⟨rfl, ⟨h1, h2⟩, hu⟩; have K3 := Lib.hid (K2.out.both hu h1 h2); have C3 := Lib.hid (C2.out.1.keep hu (by have := C2.out.2; simp; omega) (by have := C2.out.2; simp; omega)); clear h1 h2 hu K2 C2; have g10 : ((Hs.zero m).ask 14 x n 0 0).get 10 = x := rfl; have g11 : ((Hs.zero m).ask 14 x n 0 0).get 11 = n := rfl) | (have _t := K3; clear _t; go_at_call 19; refine (Same_any _ _ a c pb qb _ K3.out.m C3.out).mono ?_; rintro e w5 ⟨rfl, hu⟩; rw [hc_same]; have K4 := Lib.hid (K3.out.step hu); clear hu K3 C3) | (have _t := K4; clear _t; go_at_call 44; refine (X_any _ hb _ _ K4.out.h).mono ?_; rintro e w7 ⟨rfl, rfl⟩))
  go_ret
  exact ⟨rfl, K4.out.u⟩

set_option maxRecDepth 100000 in
set_option maxHeartbeats 4000000 in
theorem HC_dn (x n g0 p q : Int) (hp : p.tmod 700 = x) (hq : q.tmod 7 = g0) (hx : 0 ≤ x ∧ x < 700) (hn : 0 ≤ n ∧ n < 4294967296) (hg : 0 ≤ g0 ∧ g0 < 7) (hk : 0 < n ∧ n ≤ 16) (h1 : 256 ≤ x) (h2 : x + n ≤ 512) (h3 : (bits .and .i64 (g0 + 1) 3 == 3) = true) (w : World) :
    Calls Try.prog 12 #[.int .u16 p, .int .u32 n, .int .u8 q] w fun e w' => e = .returned (.bool true) ∧ Upd [] w w' := by
  have tok1 : True := trivial
  have z0 : (n == 0) = false := by rw [beq_eq_false_iff_ne]; omega
  have z1 : (x + n) % 4294967296 = x + n := by omega
  have z3 : decide (256 ≤ x) = true := by rw [decide_eq_true_eq]; omega
  have z4 : decide (x + n ≤ 512) = true := by rw [decide_eq_true_eq]; omega
  have HC := Lib.hid (show (hcM (g0 + 1)).canRow x (min n 16).toNat = true by rw [show (min n 16).toNat = n.toNat by omega]; exact hc_yes (g0 + 1) x n.toNat (by omega) hx (by omega) h1 (by omega) h3)
  have HR := Lib.hid (show R5 14 x n 0 0 from ⟨by decide, by omega, hn, by decide, by decide⟩)
  have HM := Lib.hid (hc_map (g0 + 1) (by omega))
  have w1 : wrap64 (g0 + 1) = g0 + 1 := by unfold wrap64; omega
  have w2 : wrap64 g0 = g0 := by unfold wrap64; omega
  obtain ⟨hn0, hn1⟩ := hn
  obtain ⟨hx0, hx1⟩ := hx
  obtain ⟨hg0, hg1⟩ := hg
  go_enter Try.func12, Try.ntmps12
  go_wp2_with (first | (have _t := tok1; clear _t; go_at_call 41; refine (known20_any _).mono ?_; rintro e wk ⟨rfl, hu⟩; have UK := Lib.hid hu; clear hu tok1) | (have _t := UK; clear _t; go_at_call 42; refine (HNew_any _).mono ?_; rintro e w0 ⟨hb, m, rfl, h1, h2, h3⟩; have N0 := Lib.hid (And.intro h1 (And.intro h2 (UK.out.also h3 (by simp)))); have NK := Lib.hid UK.out.size; clear h1 h2 h3 UK) | (have _t := N0; clear _t; go_at_call 15; refine (New_any _).mono ?_; rintro e w1 ⟨a, pb, rfl, ha, hp, hM0, hU0⟩; have K0 := Lib.hid (show Kh w hb a pb (Hs.zero m) Mem.zero w1 from ⟨N0.out.2.1.keep hU0 (by simp), hM0, ⟨by have := N0.out.2.1.lt; omega, by have := N0.out.2.1.lt; omega⟩, ⟨by have := NK.out; have := N0.out.1; omega, by have := N0.out.2.2.size; omega⟩, N0.out.2.2.also hU0 (by simp)⟩); clear ha hp hM0 hU0 N0) | (have _t := K0; clear _t; go_at_call 16; refine (Map_yes Mem.zero a pb 1 1 (g0 + 1) _ K0.out.m (by decide) HM.out).mono ?_; rintro e w2 ⟨rfl, h1, h2⟩; have K1 := Lib.hid (show Kh w hb a pb (Hs.zero m) (hcM (g0 + 1)) w2 from K0.out.mem h2 h1); clear h1 h2 K0) | (have _t := K1; clear _t; go_at_call 17; refine (Copy_any _ a pb _ K1.out.m).mono ?_; rintro e w3 ⟨c, qb, rfl, h1, h2, h3, h4⟩; have K2 := Lib.hid (K1.out.step h4); have C2 := Lib.hid (show IsMem w3 c qb (hcM (g0 + 1)) ∧ hb ≠ c ∧ hb ≠ qb ∧ pb ≠ c ∧ pb ≠ qb from ⟨h3, by have := K1.out.h.lt; omega, by have := K1.out.h.lt; omega, by have := K1.out.m.pl; omega, by have := K1.out.m.pl; omega⟩); clear h1 h2 h3 h4 K1) | (have _t := K2; clear _t; go_at_call 43; refine (askCan_ok (Hs.zero m) _ hb a pb x n HR.out _ K2.out.h K2.out.m K2.out.ne HC.out).mono ?_; rintro e w4 ⟨rfl, ⟨h1, h2⟩, hu⟩; have K3 := Lib.hid (K2.out.both hu h1 h2); have C3 := Lib.hid (C2.out.1.keep hu (by have := C2.out.2; simp; omega) (by have := C2.out.2; simp; omega)); clear h1 h2 hu K2 C2; have g10 : (((Hs.zero m).ask 14 x n 0 0).put 10 0).get 10 = 0 := rfl; have g11 : (((Hs.zero m).ask 14 x n 0 0).put 10 0).get 11 = n := rfl) | (have _t := K3; clear _t; go_at_call 19; refine (Same_any _ _ a c pb qb _ K3.out.m C3.out).mono ?_; rintro e w5 ⟨rfl, hu⟩; rw [hc_same]; have K4 := Lib.hid (K3.out.step hu); clear hu K3 C3) | (have _t := K4; clear _t; go_at_call 44; refine (X_any _ hb _ _ K4.out.h).mono ?_; rintro e w7 ⟨rfl, rfl⟩))
  go_ret
  exact ⟨rfl, K4.out.u⟩

set_option maxRecDepth 100000 in
set_option maxHeartbeats 4000000 in
theorem HC_as (x n g0 p q : Int) (hp : p.tmod 700 = x) (hq : q.tmod 7 = g0) (hx : 0 ≤ x ∧ x < 700) (hn : 0 ≤ n ∧ n < 4294967296) (hg : 0 ≤ g0 ∧ g0 < 7) (hk : 16 < n) (h1 : x < 256) (w : World) :
    Calls Try.prog 12 #[.int .u16 p, .int .u32 n, .int .u8 q] w fun e w' => e = .returned (.bool true) ∧ Upd [] w w' := by
  have tok1 : True := trivial
  have z0 : (n == 0) = false := by rw [beq_eq_false_iff_ne]; omega
  have z1 : (x + 16) % 4294967296 = x + 16 := by omega
  have z3 : decide (256 ≤ x) = false := by rw [decide_eq_false_iff_not]; omega
  have HC := Lib.hid (show (hcM (g0 + 1)).canRow x (min n 16).toNat = false by rw [show (min n 16).toNat = 16 by omega]; exact hc_no (g0 + 1) x 16 (by omega) hx (by omega) (by omega) (.inl h1))
  have HR := Lib.hid (show R5 14 x n 0 0 from ⟨by decide, by omega, hn, by decide, by decide⟩)
  have HM := Lib.hid (hc_map (g0 + 1) (by omega))
  have w1 : wrap64 (g0 + 1) = g0 + 1 := by unfold wrap64; omega
  have w2 : wrap64 g0 = g0 := by unfold wrap64; omega
  obtain ⟨hn0, hn1⟩ := hn
  obtain ⟨hx0, hx1⟩ := hx
  obtain ⟨hg0, hg1⟩ := hg
  go_enter Try.func12, Try.ntmps12
  go_wp2_with (first | (have _t := tok1; clear _t; go_at_call 41; refine (known20_any _).mono ?_; rintro e wk ⟨rfl, hu⟩; have UK := Lib.hid hu; clear hu tok1) | (have _t := UK; clear _t; go_at_call 42; refine (HNew_any _).mono ?_; rintro e w0 ⟨hb, m, rfl, h1, h2, h3⟩; have N0 := Lib.hid (And.intro h1 (And.intro h2 (UK.out.also h3 (by simp)))); have NK := Lib.hid UK.out.size; clear h1 h2 h3 UK) | (have _t := N0; clear _t; go_at_call 15; refine (New_any _).mono ?_; rintro e w1 ⟨a, pb, rfl, ha, hp, hM0, hU0⟩; have K0 := Lib.hid (show Kh w hb a pb (Hs.zero m) Mem.zero w1 from ⟨N0.out.2.1.keep hU0 (by simp), hM0, ⟨by have := N0.out.2.1.lt; omega, by have := N0.out.2.1.lt; omega⟩, ⟨by have := NK.out; have := N0.out.1; omega, by have := N0.out.2.2.size; omega⟩, N0.out.2.2.also hU0 (by simp)⟩); clear ha hp hM0 hU0 N0) | (have _t := K0; clear _t; go_at_call 16; refine (Map_yes Mem.zero a pb 1 1 (g0 + 1) _ K0.out.m (by decide) HM.out).mono ?_; rintro e w2 ⟨rfl, h1, h2⟩; have K1 := Lib.hid (show Kh w hb a pb (Hs.zero m) (hcM (g0 + 1)) w2 from K0.out.mem h2 h1); clear h1 h2 K0) | (have _t := K1; clear _t; go_at_call 17; refine (Copy_any _ a pb _ K1.out.m).mono ?_; rintro e w3 ⟨c, qb, rfl, h1, h2, h3, h4⟩; have K2 := Lib.hid (K1.out.step h4); have C2 := Lib.hid (show IsMem w3 c qb (hcM (g0 + 1)) ∧ hb ≠ c ∧ hb ≠ qb ∧ pb ≠ c ∧ pb ≠ qb from ⟨h3, by have := K1.out.h.lt; omega, by have := K1.out.h.lt; omega, by have := K1.out.m.pl; omega, by have := K1.out.m.pl; omega⟩); clear h1 h2 h3 h4 K1) | (have _t := K2; clear _t; go_at_call 43; refine (askCan_bad (Hs.zero m) _ hb a pb x n HR.out _ K2.out.h K2.out.m K2.out.ne HC.out).mono ?_; rintro e w4 ⟨rfl, ⟨h1, h2⟩, hu⟩; have K3 := Lib.hid (K2.out.both hu h1 h2); have C3 := Lib.hid (C2.out.1.keep hu (by have := C2.out.2; simp; omega) (by have := C2.out.2; simp; omega)); clear h1 h2 hu K2 C2; have g10 : ((Hs.zero m).ask 14 x n 0 0).get 10 = x := rfl; have g11 : ((Hs.zero m).ask 14 x n 0 0).get 11 = n := rfl) | (have _t := K3; clear _t; go_at_call 19; refine (Same_any _ _ a c pb qb _ K3.out.m C3.out).mono ?_; rintro e w5 ⟨rfl, hu⟩; rw [hc_same]; have K4 := Lib.hid (K3.out.step hu); clear hu K3 C3) | (have _t := K4; clear _t; go_at_call 44; refine (X_any _ hb _ _ K4.out.h).mono ?_; rintro e w7 ⟨rfl, rfl⟩))
  go_ret
  exact ⟨rfl, K4.out.u⟩

set_option maxRecDepth 100000 in
set_option maxHeartbeats 4000000 in
theorem HC_bs (x n g0 p q : Int) (hp : p.tmod 700 = x) (hq : q.tmod 7 = g0) (hx : 0 ≤ x ∧ x < 700) (hn : 0 ≤ n ∧ n < 4294967296) (hg : 0 ≤ g0 ∧ g0 < 7) (hk : 16 < n) (h1 : 256 ≤ x) (h2 : 512 < x + 16) (w : World) :
    Calls Try.prog 12 #[.int .u16 p, .int .u32 n, .int .u8 q] w fun e w' => e = .returned (.bool true) ∧ Upd [] w w' := by
  have tok1 : True := trivial
  have z0 : (n == 0) = false := by rw [beq_eq_false_iff_ne]; omega
  have z1 : (x + 16) % 4294967296 = x + 16 := by omega
  have z3 : decide (256 ≤ x) = true := by rw [decide_eq_true_eq]; omega
  have z4 : decide (x + 16 ≤ 512) = false := by rw [decide_eq_false_iff_not]; omega
  have HC := Lib.hid (show (hcM (g0 + 1)).canRow x (min n 16).toNat = false by rw [show (min n 16).toNat = 16 by omega]; exact hc_no (g0 + 1) x 16 (by omega) hx (by omega) (by omega) (.inr (.inl (by omega))))
  have HR := Lib.hid (show R5 14 x n 0 0 from ⟨by decide, by omega, hn, by decide, by decide⟩)
  have HM := Lib.hid (hc_map (g0 + 1) (by omega))
  have w1 : wrap64 (g0 + 1) = g0 + 1 := by unfold wrap64; omega
  have w2 : wrap64 g0 = g0 := by unfold wrap64; omega
  obtain ⟨hn0, hn1⟩ := hn
  obtain ⟨hx0, hx1⟩ := hx
  obtain ⟨hg0, hg1⟩ := hg
  go_enter Try.func12, Try.ntmps12
  go_wp2_with (first | (have _t := tok1; clear _t; go_at_call 41; refine (known20_any _).mono ?_; rintro e wk ⟨rfl, hu⟩; have UK := Lib.hid hu; clear hu tok1) | (have _t := UK; clear _t; go_at_call 42; refine (HNew_any _).mono ?_; rintro e w0 ⟨hb, m, rfl, h1, h2, h3⟩; have N0 := Lib.hid (And.intro h1 (And.intro h2 (UK.out.also h3 (by simp)))); have NK := Lib.hid UK.out.size; clear h1 h2 h3 UK) | (have _t := N0; clear _t; go_at_call 15; refine (New_any _).mono ?_; rintro e w1 ⟨a, pb, rfl, ha, hp, hM0, hU0⟩; have K0 := Lib.hid (show Kh w hb a pb (Hs.zero m) Mem.zero w1 from ⟨N0.out.2.1.keep hU0 (by simp), hM0, ⟨by have := N0.out.2.1.lt; omega, by have := N0.out.2.1.lt; omega⟩, ⟨by have := NK.out; have := N0.out.1; omega, by have := N0.out.2.2.size; omega⟩, N0.out.2.2.also hU0 (by simp)⟩); clear ha hp hM0 hU0 N0) | (have _t := K0; clear _t; go_at_call 16; refine (Map_yes Mem.zero a pb 1 1 (g0 + 1) _ K0.out.m (by decide) HM.out).mono ?_; rintro e w2 ⟨rfl, h1, h2⟩; have K1 := Lib.hid (show Kh w hb a pb (Hs.zero m) (hcM (g0 + 1)) w2 from K0.out.mem h2 h1); clear h1 h2 K0) | (have _t := K1; clear _t; go_at_call 17; refine (Copy_any _ a pb _ K1.out.m).mono ?_; rintro e w3 ⟨c, qb, rfl, h1, h2, h3, h4⟩; have K2 := Lib.hid (K1.out.step h4); have C2 := Lib.hid (show IsMem w3 c qb (hcM (g0 + 1)) ∧ hb ≠ c ∧ hb ≠ qb ∧ pb ≠ c ∧ pb ≠ qb from ⟨h3, by have := K1.out.h.lt; omega, by have := K1.out.h.lt; omega, by have := K1.out.m.pl; omega, by have := K1.out.m.pl; omega⟩); clear h1 h2 h3 h4 K1) | (have _t := K2; clear _t; go_at_call 43; refine (askCan_bad (Hs.zero m) _ hb a pb x n HR.out _ K2.out.h K2.out.m K2.out.ne HC.out).mono ?_; rintro e w4 ⟨rfl, ⟨h1, h2⟩, hu⟩; have K3 := Lib.hid (K2.out.both hu h1 h2); have C3 := Lib.hid (C2.out.1.keep hu (by have := C2.out.2; simp; omega) (by have := C2.out.2; simp; omega)); clear h1 h2 hu K2 C2; have g10 : ((Hs.zero m).ask 14 x n 0 0).get 10 = x := rfl; have g11 : ((Hs.zero m).ask 14 x n 0 0).get 11 = n := rfl) | (have _t := K3; clear _t; go_at_call 19; refine (Same_any _ _ a c pb qb _ K3.out.m C3.out).mono ?_; rintro e w5 ⟨rfl, hu⟩; rw [hc_same]; have K4 := Lib.hid (K3.out.step hu); clear hu K3 C3) | (have _t := K4; clear _t; go_at_call 44; refine (X_any _ hb _ _ K4.out.h).mono ?_; rintro e w7 ⟨rfl, rfl⟩))
  go_ret
  exact ⟨rfl, K4.out.u⟩

set_option maxRecDepth 100000 in
set_option maxHeartbeats 4000000 in
theorem HC_cs (x n g0 p q : Int) (hp : p.tmod 700 = x) (hq : q.tmod 7 = g0) (hx : 0 ≤ x ∧ x < 700) (hn : 0 ≤ n ∧ n < 4294967296) (hg : 0 ≤ g0 ∧ g0 < 7) (hk : 16 < n) (h1 : 256 ≤ x) (h2 : x + 16 ≤ 512) (h3 : (bits .and .i64 (g0 + 1) 3 == 3) = false) (w : World) :
    Calls Try.prog 12 #[.int .u16 p, .int .u32 n, .int .u8 q] w fun e w' => e = .returned (.bool true) ∧ Upd [] w w' := by
  have tok1 : True := trivial
  have z0 : (n == 0) = false := by rw [beq_eq_false_iff_ne]; omega
  have z1 : (x + 16) % 4294967296 = x + 16 := by omega
  have z3 : decide (256 ≤ x) = true := by rw [decide_eq_true_eq]; omega
  have z4 : decide (x + 16 ≤ 512) = true := by rw [decide_eq_true_eq]; omega
  have HC := Lib.hid (show (hcM (g0 + 1)).canRow x (min n 16).toNat = false by rw [show (min n 16).toNat = 16 by omega]; exact hc_no (g0 + 1) x 16 (by omega) hx (by omega) (by omega) (.inr (.inr h3)))
  have HR := Lib.hid (show R5 14 x n 0 0 from ⟨by decide, by omega, hn, by decide, by decide⟩)
  have HM := Lib.hid (hc_map (g0 + 1) (by omega))
  have w1 : wrap64 (g0 + 1) = g0 + 1 := by unfold wrap64; omega
  have w2 : wrap64 g0 = g0 := by unfold wrap64; omega
  obtain ⟨hn0, hn1⟩ := hn
  obtain ⟨hx0, hx1⟩ := hx
  obtain ⟨hg0, hg1⟩ := hg
  go_enter Try.func12, Try.ntmps12
  go_wp2_with (first | (have _t := tok1; clear _t; go_at_call 41; refine (known20_any _).mono ?_; rintro e wk ⟨rfl, hu⟩; have UK := Lib.hid hu; clear hu tok1) | (have _t := UK; clear _t; go_at_call 42; refine (HNew_any _).mono ?_; rintro e w0 ⟨hb, m, rfl, h1, h2, h3⟩; have N0 := Lib.hid (And.intro h1 (And.intro h2 (UK.out.also h3 (by simp)))); have NK := Lib.hid UK.out.size; clear h1 h2 h3 UK) | (have _t := N0; clear _t; go_at_call 15; refine (New_any _).mono ?_; rintro e w1 ⟨a, pb, rfl, ha, hp, hM0, hU0⟩; have K0 := Lib.hid (show Kh w hb a pb (Hs.zero m) Mem.zero w1 from ⟨N0.out.2.1.keep hU0 (by simp), hM0, ⟨by have := N0.out.2.1.lt; omega, by have := N0.out.2.1.lt; omega⟩, ⟨by have := NK.out; have := N0.out.1; omega, by have := N0.out.2.2.size; omega⟩, N0.out.2.2.also hU0 (by simp)⟩); clear ha hp hM0 hU0 N0) | (have _t := K0; clear _t; go_at_call 16; refine (Map_yes Mem.zero a pb 1 1 (g0 + 1) _ K0.out.m (by decide) HM.out).mono ?_; rintro e w2 ⟨rfl, h1, h2⟩; have K1 := Lib.hid (show Kh w hb a pb (Hs.zero m) (hcM (g0 + 1)) w2 from K0.out.mem h2 h1); clear h1 h2 K0) | (have _t := K1; clear _t; go_at_call 17; refine (Copy_any _ a pb _ K1.out.m).mono ?_; rintro e w3 ⟨c, qb, rfl, h1, h2, h3, h4⟩; have K2 := Lib.hid (K1.out.step h4); have C2 := Lib.hid (show IsMem w3 c qb (hcM (g0 + 1)) ∧ hb ≠ c ∧ hb ≠ qb ∧ pb ≠ c ∧ pb ≠ qb from ⟨h3, by have := K1.out.h.lt; omega, by have := K1.out.h.lt; omega, by have := K1.out.m.pl; omega, by have := K1.out.m.pl; omega⟩); clear h1 h2 h3 h4 K1) | (have _t := K2; clear _t; go_at_call 43; refine (askCan_bad (Hs.zero m) _ hb a pb x n HR.out _ K2.out.h K2.out.m K2.out.ne HC.out).mono ?_; rintro e w4 ⟨rfl, ⟨h1, h2⟩, hu⟩; have K3 := Lib.hid (K2.out.both hu h1 h2); have C3 := Lib.hid (C2.out.1.keep hu (by have := C2.out.2; simp; omega) (by have := C2.out.2; simp; omega)); clear h1 h2 hu K2 C2; have g10 : ((Hs.zero m).ask 14 x n 0 0).get 10 = x := rfl; have g11 : ((Hs.zero m).ask 14 x n 0 0).get 11 = n := rfl) | (have _t := K3; clear _t; go_at_call 19; refine (Same_any _ _ a c pb qb _ K3.out.m C3.out).mono ?_; rintro e w5 ⟨rfl, hu⟩; rw [hc_same]; have K4 := Lib.hid (K3.out.step hu); clear hu K3 C3) | (have _t := K4; clear _t; go_at_call 44; refine (X_any _ hb _ _ K4.out.h).mono ?_; rintro e w7 ⟨rfl, rfl⟩))
  go_ret
  exact ⟨rfl, K4.out.u⟩

set_option maxRecDepth 100000 in
set_option maxHeartbeats 4000000 in
theorem HC_ds (x n g0 p q : Int) (hp : p.tmod 700 = x) (hq : q.tmod 7 = g0) (hx : 0 ≤ x ∧ x < 700) (hn : 0 ≤ n ∧ n < 4294967296) (hg : 0 ≤ g0 ∧ g0 < 7) (hk : 16 < n) (h1 : 256 ≤ x) (h2 : x + 16 ≤ 512) (h3 : (bits .and .i64 (g0 + 1) 3 == 3) = true) (w : World) :
    Calls Try.prog 12 #[.int .u16 p, .int .u32 n, .int .u8 q] w fun e w' => e = .returned (.bool true) ∧ Upd [] w w' := by
  have tok1 : True := trivial
  have z0 : (n == 0) = false := by rw [beq_eq_false_iff_ne]; omega
  have z1 : (x + 16) % 4294967296 = x + 16 := by omega
  have z3 : decide (256 ≤ x) = true := by rw [decide_eq_true_eq]; omega
  have z4 : decide (x + 16 ≤ 512) = true := by rw [decide_eq_true_eq]; omega
  have HC := Lib.hid (show (hcM (g0 + 1)).canRow x (min n 16).toNat = true by rw [show (min n 16).toNat = 16 by omega]; exact hc_yes (g0 + 1) x 16 (by omega) hx (by omega) h1 (by omega) h3)
  have HR := Lib.hid (show R5 14 x n 0 0 from ⟨by decide, by omega, hn, by decide, by decide⟩)
  have HM := Lib.hid (hc_map (g0 + 1) (by omega))
  have w1 : wrap64 (g0 + 1) = g0 + 1 := by unfold wrap64; omega
  have w2 : wrap64 g0 = g0 := by unfold wrap64; omega
  obtain ⟨hn0, hn1⟩ := hn
  obtain ⟨hx0, hx1⟩ := hx
  obtain ⟨hg0, hg1⟩ := hg
  go_enter Try.func12, Try.ntmps12
  go_wp2_with (first | (have _t := tok1; clear _t; go_at_call 41; refine (known20_any _).mono ?_; rintro e wk ⟨rfl, hu⟩; have UK := Lib.hid hu; clear hu tok1) | (have _t := UK; clear _t; go_at_call 42; refine (HNew_any _).mono ?_; rintro e w0 ⟨hb, m, rfl, h1, h2, h3⟩; have N0 := Lib.hid (And.intro h1 (And.intro h2 (UK.out.also h3 (by simp)))); have NK := Lib.hid UK.out.size; clear h1 h2 h3 UK) | (have _t := N0; clear _t; go_at_call 15; refine (New_any _).mono ?_; rintro e w1 ⟨a, pb, rfl, ha, hp, hM0, hU0⟩; have K0 := Lib.hid (show Kh w hb a pb (Hs.zero m) Mem.zero w1 from ⟨N0.out.2.1.keep hU0 (by simp), hM0, ⟨by have := N0.out.2.1.lt; omega, by have := N0.out.2.1.lt; omega⟩, ⟨by have := NK.out; have := N0.out.1; omega, by have := N0.out.2.2.size; omega⟩, N0.out.2.2.also hU0 (by simp)⟩); clear ha hp hM0 hU0 N0) | (have _t := K0; clear _t; go_at_call 16; refine (Map_yes Mem.zero a pb 1 1 (g0 + 1) _ K0.out.m (by decide) HM.out).mono ?_; rintro e w2 ⟨rfl, h1, h2⟩; have K1 := Lib.hid (show Kh w hb a pb (Hs.zero m) (hcM (g0 + 1)) w2 from K0.out.mem h2 h1); clear h1 h2 K0) | (have _t := K1; clear _t; go_at_call 17; refine (Copy_any _ a pb _ K1.out.m).mono ?_; rintro e w3 ⟨c, qb, rfl, h1, h2, h3, h4⟩; have K2 := Lib.hid (K1.out.step h4); have C2 := Lib.hid (show IsMem w3 c qb (hcM (g0 + 1)) ∧ hb ≠ c ∧ hb ≠ qb ∧ pb ≠ c ∧ pb ≠ qb from ⟨h3, by have := K1.out.h.lt; omega, by have := K1.out.h.lt; omega, by have := K1.out.m.pl; omega, by have := K1.out.m.pl; omega⟩); clear h1 h2 h3 h4 K1) | (have _t := K2; clear _t; go_at_call 43; refine (askCan_ok (Hs.zero m) _ hb a pb x n HR.out _ K2.out.h K2.out.m K2.out.ne HC.out).mono ?_; rintro e w4 ⟨rfl, ⟨h1, h2⟩, hu⟩; have K3 := Lib.hid (K2.out.both hu h1 h2); have C3 := Lib.hid (C2.out.1.keep hu (by have := C2.out.2; simp; omega) (by have := C2.out.2; simp; omega)); clear h1 h2 hu K2 C2; have g10 : (((Hs.zero m).ask 14 x n 0 0).put 10 0).get 10 = 0 := rfl; have g11 : (((Hs.zero m).ask 14 x n 0 0).put 10 0).get 11 = n := rfl) | (have _t := K3; clear _t; go_at_call 19; refine (Same_any _ _ a c pb qb _ K3.out.m C3.out).mono ?_; rintro e w5 ⟨rfl, hu⟩; rw [hc_same]; have K4 := Lib.hid (K3.out.step hu); clear hu K3 C3) | (have _t := K4; clear _t; go_at_call 44; refine (X_any _ hb _ _ K4.out.h).mono ?_; rintro e w7 ⟨rfl, rfl⟩))
  go_ret
  exact ⟨rfl, K4.out.u⟩

theorem HelperChecks_any (p n q : Int) (hp : 0 ≤ p) (hn : 0 ≤ n ∧ n < 4294967296) (hq : 0 ≤ q) (w : World) :
    Calls Try.prog 12 #[.int .u16 p, .int .u32 n, .int .u8 q] w fun e w' => e = .returned (.bool true) ∧ Upd [] w w' := by
  have hx : 0 ≤ p.tmod 700 ∧ p.tmod 700 < 700 := by rw [Int.tmod_eq_emod_of_nonneg hp]; omega
  have hg : 0 ≤ q.tmod 7 ∧ q.tmod 7 < 7 := by rw [Int.tmod_eq_emod_of_nonneg hq]; omega
  by_cases h0 : n = 0
  · exact HC_z _ n _ p q rfl rfl hx hn hg h0 w
  · by_cases hs : n ≤ 16
    · have hk : 0 < n ∧ n ≤ 16 := by omega
      by_cases h1 : p.tmod 700 < 256
      · exact HC_an _ n _ p q rfl rfl hx hn hg hk h1 w
      · by_cases h2 : 512 < p.tmod 700 + n
        · exact HC_bn _ n _ p q rfl rfl hx hn hg hk (by omega) h2 w
        · cases h3 : (bits .and .i64 (q.tmod 7 + 1) 3 == 3)
          · exact HC_cn _ n _ p q rfl rfl hx hn hg hk (by omega) (by omega) h3 w
          · exact HC_dn _ n _ p q rfl rfl hx hn hg hk (by omega) (by omega) h3 w
    · have hk : 16 < n := by omega
      by_cases h1 : p.tmod 700 < 256
      · exact HC_as _ n _ p q rfl rfl hx hn hg hk h1 w
      · by_cases h2 : 512 < p.tmod 700 + 16
        · exact HC_bs _ n _ p q rfl rfl hx hn hg hk (by omega) h2 w
        · cases h3 : (bits .and .i64 (q.tmod 7 + 1) 3 == 3)
          · exact HC_cs _ n _ p q rfl rfl hx hn hg hk (by omega) (by omega) h3 w
          · exact HC_ds _ n _ p q rfl rfl hx hn hg hk (by omega) (by omega) h3 w
end Go.Proofs.Ytncafchgdgmeaaa
