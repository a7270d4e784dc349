/-
  The law PageWrongs: the plain part and the walk.
-/
import Derived.Test.YtceohjfflecpjaaPgH
import Derived.Test.YtceohjfflecpjaaPgK
import Derived.Test.YtceohjfflecpjaaPgN
namespace Go.Proofs.Ytceohjfflecpjaa
open Go Go.RowKit
set_option linter.unusedVariables false
set_option linter.unusedSimpArgs false

/-- How many of the first k pages have rights. -/
def Mem.cnt (M : Mem) : Nat → Nat
  | 0 => 0
  | k + 1 => M.cnt k + if M.R k = 0 then 0 else 1

theorem Mem.cnt_le (M : Mem) : ∀ k, M.cnt k ≤ k
  | 0 => Nat.le_refl _
  | k + 1 => by have := M.cnt_le k; simp only [Mem.cnt]; split <;> omega

theorem cnt_zero : ∀ k, Mem.zero.cnt k = 0
  | 0 => rfl
  | k + 1 => by rw [Mem.cnt, cnt_zero k]; rfl

theorem cnt_map (p c : Nat) (r : Int) (hr : r ≠ 0) : ∀ k, (Mem.zero.mapN p c r).cnt k = min (k - p) c
  | 0 => by simp [Mem.cnt]
  | k + 1 => by
    rw [Mem.cnt, cnt_map p c r hr k]
    have e : (Mem.zero.mapN p c r).R k = if p ≤ k ∧ k < p + c then r else 0 := rfl
    rw [e]
    by_cases h : p ≤ k ∧ k < p + c
    · rw [if_pos h, if_neg hr]; omega
    · rw [if_neg h, if_pos rfl]; omega

theorem rights_in (M : Mem) (j : Nat) (hj : j < 64) : M.rights j = M.R j := by
  rw [Mem.rights, if_neg (by omega)]; rfl

theorem zero_mapB (at_ n r : Int) : Mem.zero.mapB at_ n r = (rightsB r && rowB at_ n) := by
  rw [Mem.mapB, Mem.all]
  have : (List.range n.toNat).any (fun i => Mem.zero.odd false (at_.toNat + i)) = false := by
    rw [List.any_eq_false]; intro i _; simp [Mem.odd, Mem.zero]
  rw [this, Bool.not_false, Bool.and_true]

theorem zero_unmapB (at_ n : Int) : Mem.zero.unmapB at_ n = false := by
  rw [Mem.unmapB, Mem.all]
  by_cases h : rowB at_ n = true
  · have h' := (rowB_iff _ _).1 h
    have : (List.range n.toNat).any (fun i => Mem.zero.odd true (at_.toNat + i)) = true := by
      rw [List.any_eq_true]; exact ⟨0, by rw [List.mem_range]; omega, by simp [Mem.odd, Mem.zero]⟩
    rw [this, Bool.not_true, Bool.and_false]
  · simp [h]

theorem zero_protB (at_ n r : Int) : Mem.zero.protB at_ n r = false := by
  have := zero_unmapB at_ n
  rw [Mem.unmapB] at this
  rw [Mem.protB, this, Bool.and_false]

theorem same_of {M N : Mem} (hR : ∀ p, p < 64 → M.R p = N.R p) (hB : ∀ x, x < 16384 → M.B x = N.B x) : M.same N = true := by
  rw [Mem.same, List.all_eq_true]
  intro p hp
  rw [List.mem_range] at hp
  rw [Mem.samePage, hR p hp, Bool.and_eq_true, List.all_eq_true]
  refine ⟨by simp, fun j hj => ?_⟩
  rw [List.mem_range] at hj
  rw [hB _ (by omega)]; simp

theorem pw_same (p c : Nat) (r : Int) : (((Mem.zero.mapN p c r).protN p c r).mapN p c 0).same Mem.zero = true := by
  refine same_of (fun q _ => ?_) (fun x _ => ?_)
  · simp only [Mem.mapN, Mem.protN, Mem.zero]
    by_cases h : p ≤ q ∧ q < p + c
    · rw [if_pos h]
    · rw [if_neg h, if_neg h, if_neg h]
  · simp only [Mem.mapN, Mem.protN, Mem.zero]
    simp

/-- The loop that counts the pages with rights, and what the law does with the memory: where the pages are refused. -/
theorem pw_prot (p c : Nat) (r : Int) (h1 : 1 ≤ c) (h2 : p + c ≤ 64) (hr : rightsB r = true) : (Mem.zero.mapN p c r).protB p c r = true ∧ ((Mem.zero.mapN p c r).protN p c r).unmapB p c = true := by
  have hr' := (rightsB_iff r).1 hr
  have hne : (r != 0) = true := by simp; omega
  refine ⟨?_, ?_⟩
  · rw [Mem.protB, hr, Bool.true_and]
    refine Mem.all_of h1 h2 fun q a b => ?_
    simp only [Mem.mapN]
    rw [if_pos (by omega)]; exact hne
  · refine Mem.all_of h1 h2 fun q a b => ?_
    simp only [Mem.protN]
    rw [if_pos (by omega)]; exact hne

set_option maxRecDepth 100000 in
set_option maxHeartbeats 4000000 in
theorem PageWrongs_fine (p c : Nat) (r : Int) (h1 : 1 ≤ c) (h2 : p + c ≤ 64) (hr1 : 1 ≤ r) (hr2 : r ≤ 7) (w : World) :
    Calls Try.prog 6 #[.int .i64 p, .int .i64 c, .int .i64 r] w fun e w' => e = .returned (.bool true) ∧ Upd [] w w' := by
  have hr : rightsB r = true := (rightsB_iff r).2 ⟨hr1, hr2⟩
  have y1 : Mem.zero.mapB p c r = true := by
    rw [zero_mapB, hr, Bool.true_and, rowB_iff]; omega
  obtain ⟨y2, y3⟩ := pw_prot p c r h1 h2 hr
  have Y1 := Lib.hid y1
  have Y2 := Lib.hid y2
  have Y3 := Lib.hid y3
  have HC := Lib.hid (cnt_map p c r (by omega) 64)
  clear y1 y2 y3 hr
  have t1 : (p : Int) < 64 := by omega
  have t2 : (c : Int) ≤ 64 - p := by omega
  have t3 : (0 : Int) < c := by omega
  have t4 : (0 : Int) ≤ p := by omega
  go_enter Try.func6, Try.ntmps6
  go_wp2_with (first | (go_at_call 9; refine (known_any _).mono ?_; rintro e u0 ⟨rfl, hu0⟩) | (go_at_call 10; refine (New_any _).mono ?_; rintro e u1 ⟨a, pb, rfl, ha, hpb, hM1, hu1⟩) | (go_at_call 11; refine (Map_yes Mem.zero a pb p c r _ hM1 (by omega) Y1.out).mono ?_; rintro e u2 ⟨rfl, hM2, hu2⟩; clear hM1))
  have hMM : IsMem u2 a pb (Mem.zero.mapN p c r) := hM2
  clear hM2
  go_loopw [10, 11] (fun n i wr => ∃ j : Nat, j ≤ 64 ∧ i = .int .i64 j ∧ n = .int .i64 ((Mem.zero.mapN p c r).cnt j) ∧ u2 = wr) (fun _ i _ => 64 - (intOf i).toNat)
  case atStart => exact ⟨0, Nat.zero_le _, rfl, rfl, rfl⟩
  case round =>
    obtain ⟨j, hj, rfl, rfl, rfl⟩ := hrel
    have hcj := (Mem.zero.mapN p c r).cnt_le j
    by_cases hlt : j < 64
    · obtain ⟨m, hm⟩ : ∃ m, (Mem.zero.mapN p c r).cnt j = m := ⟨_, rfl⟩
      rw [hm] at hcj
      by_cases hz : (Mem.zero.mapN p c r).R j = 0
      · have HR := Lib.hid ((rights_in (Mem.zero.mapN p c r) j hlt).trans hz)
        go_wp2_with (first | (go_at_call 16; refine (Rights_any a pb j _ _ hMM).mono ?_; rintro e w' ⟨rfl, rfl⟩; rw [HR.out]))
        go_roundw
        case rel => exact ⟨j + 1, by omega, by go_num, by rw [Mem.cnt, if_pos hz, hm]; simp, trivial⟩
        case measure => simp [intOf]; omega
      · obtain ⟨q, hq⟩ : ∃ q, (Mem.zero.mapN p c r).R j = q := ⟨_, rfl⟩
        have HR := Lib.hid ((rights_in (Mem.zero.mapN p c r) j hlt).trans hq)
        have HZ := Lib.hid hz
        rw [hq] at hz
        clear hq
        go_wp2_with (first | (go_at_call 16; refine (Rights_any a pb j _ _ hMM).mono ?_; rintro e w' ⟨rfl, rfl⟩; rw [HR.out]))
        go_roundw
        case rel => exact ⟨j + 1, by omega, by go_num, by rw [Mem.cnt, if_neg HZ.out, hm]; simp, trivial⟩
        case measure => simp [intOf]; omega
    · obtain rfl : j = 64 := by omega
      rw [HC.out]
      have e1 : ((min (64 - p) c : Nat) : Int) = c := by omega
      have U2 : Upd [] w u2 := (hu0.also hu1 (by simp)).also hu2 (by intro x hx; have := hu0.size; simp only [List.mem_singleton] at hx; omega)
      have hpb2 : w.heap.size ≤ pb := by have := hu0.size; omega
      clear hu0 hu1 hu2
      go_wp2_with (first | (go_at_call 19; refine (Protect_yes (Mem.zero.mapN p c r) a pb p c r _ hMM (by omega) Y2.out).mono ?_; rintro e u3 ⟨rfl, hM3, hu3⟩; clear hMM) | (go_at_call 15; refine (Unmap_yes ((Mem.zero.mapN p c r).protN p c r) a pb p c _ hM3 (by omega) Y3.out).mono ?_; rintro e u4 ⟨rfl, hM4, hu4⟩; clear hM3) | (go_at_call 10; refine (New_any _).mono ?_; rintro e u5 ⟨b, qb, rfl, hb, hqb, hN, hu5⟩) | (go_at_call 18; refine (Same_any _ Mem.zero a b pb qb _ (hM4.keep hu5 (by simp) (by simp)) hN).mono ?_; rintro e u6 ⟨rfl, hu6⟩))
      go_ret
      have U3 := U2.also hu3 (by intro x hx; simp only [List.mem_singleton] at hx; omega)
      have U4 := U3.also hu4 (by intro x hx; simp only [List.mem_singleton] at hx; omega)
      have U6 := (U4.also hu5 (by simp)).also hu6 (by simp)
      have hs := pw_same p c r
      rw [hs]
      exact ⟨rfl, U6⟩

set_option maxRecDepth 100000 in
set_option maxHeartbeats 8000000 in
theorem PageWrongs_bad (p c r : Int) (hc : -9223372036854775808 ≤ c) (hbad : (rightsB r && rowB p c) = false) (w : World) :
    Calls Try.prog 6 #[.int .i64 p, .int .i64 c, .int .i64 r] w fun e w' => e = .returned (.bool true) ∧ Upd [] w w' := by
  have Y1 := Lib.hid ((zero_mapB p c r).trans hbad)
  have Y2 := Lib.hid (zero_protB p c r)
  have Y3 := Lib.hid (zero_unmapB p c)
  have HC := Lib.hid hc
  have hb : ¬ 0 ≤ p ∨ (0 ≤ p ∧ ¬ 0 < c) ∨ (0 ≤ p ∧ 0 < c ∧ ¬ p < 64) ∨ (0 ≤ p ∧ 0 < c ∧ p < 64 ∧ ¬ c ≤ 64 - p) ∨ (0 ≤ p ∧ 0 < c ∧ p < 64 ∧ c ≤ 64 - p ∧ ¬ 1 ≤ r) ∨ (0 ≤ p ∧ 0 < c ∧ p < 64 ∧ c ≤ 64 - p ∧ 1 ≤ r ∧ decide (r ≤ 7) = false) := by
    rw [Bool.and_eq_false_iff] at hbad
    have h : ¬ (1 ≤ r ∧ r ≤ 7) ∨ ¬ (0 ≤ p ∧ 1 ≤ c ∧ c ≤ 64 ∧ p ≤ 64 - c) := by
      rcases hbad with h | h
      · exact .inl fun hh => by rw [(rightsB_iff r).2 hh] at h; cases h
      · exact .inr fun hh => by rw [(rowB_iff p c).2 hh] at h; cases h
    simp only [decide_eq_false_iff_not]
    omega
  clear hc hbad
  rcases hb with t1 | ⟨t1, t2⟩ | ⟨t1, t2, t3⟩ | ⟨t1, t2, t3, t4⟩ | ⟨t1, t2, t3, t4, t5⟩ | ⟨t1, t2, t3, t4, t5, t6⟩
  all_goals
    go_enter Try.func6, Try.ntmps6
    go_wp2_with (first | (go_at_call 9; refine (known_any _).mono ?_; rintro e u0 ⟨rfl, hu0⟩) | (go_at_call 10; refine (New_any _).mono ?_; rintro e u1 ⟨a, pb, rfl, ha, hpb, hM1, hu1⟩) | (go_at_call 11; refine (Map_no Mem.zero a pb p c r _ hM1 HC.out Y1.out).mono ?_; rintro e u2 ⟨rfl, hu2⟩; have hMM := hM1.keep hu2 (by simp) (by simp); clear hM1))
    go_loopw [10, 11] (fun n i wr => ∃ j : Nat, j ≤ 64 ∧ i = .int .i64 j ∧ n = .int .i64 0 ∧ u2 = wr) (fun _ i _ => 64 - (intOf i).toNat)
    case atStart => exact ⟨0, Nat.zero_le _, rfl, rfl, rfl⟩
    case round =>
      obtain ⟨j, hj, rfl, rfl, rfl⟩ := hrel
      by_cases hlt : j < 64
      · have HR := Lib.hid ((rights_in Mem.zero j hlt).trans (rfl : Mem.zero.R j = 0))
        go_wp2_with (first | (go_at_call 16; refine (Rights_any a pb j _ _ hMM).mono ?_; rintro e w' ⟨rfl, rfl⟩; rw [HR.out]))
        go_roundw
        case rel => exact ⟨j + 1, by omega, by go_num, rfl, trivial⟩
        case measure => simp [intOf]; omega
      · go_wp2_with (first | (go_at_call 19; refine (Protect_no Mem.zero a pb p c r _ hMM HC.out Y2.out).mono ?_; rintro e u3 ⟨rfl, hu3⟩; have hM3 := hMM.keep hu3 (by simp) (by simp); clear hMM) | (go_at_call 15; refine (Unmap_no Mem.zero a pb p c _ hM3 HC.out Y3.out).mono ?_; rintro e u4 ⟨rfl, hu4⟩))
        go_ret
        exact ⟨rfl, (((hu0.also hu1 (by simp)).also hu2 (by simp)).also hu3 (by simp)).also hu4 (by simp)⟩

theorem PageWrongs_walk (p c r : Int) (hc : -9223372036854775808 ≤ c) (w : World) :
    Calls Try.prog 6 #[.int .i64 p, .int .i64 c, .int .i64 r] w fun e w' => e = .returned (.bool true) ∧ Upd [] w w' := by
  cases h : rightsB r && rowB p c
  · exact PageWrongs_bad p c r hc h w
  · rw [Bool.and_eq_true, rightsB_iff, rowB_iff] at h
    obtain ⟨p, rfl⟩ := Int.eq_ofNat_of_zero_le (show 0 ≤ p by omega)
    obtain ⟨c, rfl⟩ := Int.eq_ofNat_of_zero_le (show 0 ≤ c by omega)
    exact PageWrongs_fine p c r (by omega) (by omega) h.1.1 h.1.2 w

end Go.Proofs.Ytceohjfflecpjaa
