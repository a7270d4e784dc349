/-
  The law HelperChecks: the plain part, the asking. No condition.
-/
import Derived.Test.YtncafchgdgmeaaaHpL
import Derived.Test.YtncafchgdgmeaaaPgI
import Derived.Test.YtncafchgdgmeaaaPgH
namespace Go.Proofs.Ytncafchgdgmeaaa
open Go Go.RowKit
set_option linter.unusedVariables false
set_option linter.unusedSimpArgs false

theorem hc_same (M : Mem) : M.same M = true := by simp [Mem.same, Mem.samePage]
def hcM (g : Int) : Mem := Mem.zero.mapN (1 : Int).toNat (1 : Int).toNat g

theorem hc_map (g : Int) (hg : 1 ≤ g ∧ g ≤ 7) : Mem.zero.mapB 1 1 g = true := by
  have h : ∀ k : Fin 8, 1 ≤ k.val → Mem.zero.mapB 1 1 (k.val : Int) = true := by decide +kernel
  have := h ⟨g.toNat, by omega⟩ (by simp; omega)
  simpa only [show ((g.toNat : Nat) : Int) = g by omega] using this

theorem hc_lack (g : Int) (hg : 1 ≤ g ∧ g ≤ 7) (y : Int) (hy : 0 ≤ y ∧ y < 16384) : (hcM g).lack y 3 = 0 ↔ y / 256 = 1 ∧ (bits .and .i64 g 3 == 3) = true := by
  have h1 : ∀ k : Fin 8, lowI (bits .andNot .i64 3 (k.val : Int)) = 0 ↔ (bits .and .i64 (k.val : Int) 3 == 3) = true := by decide +kernel
  have h2 := h1 ⟨g.toNat, by omega⟩
  simp only [show ((g.toNat : Nat) : Int) = g by omega] at h2
  have h0 : ¬ lowI (bits .andNot .i64 3 0) = 0 := by decide +kernel
  unfold Mem.lack Mem.rightAt
  rw [if_pos hy.2]
  by_cases e : y / 256 = 1
  · have : (hcM g).R (y / 256).toNat = g := by simp [hcM, Mem.mapN, e]
    rw [this, h2]
    simp [e]
  · have : (hcM g).R (y / 256).toNat = 0 := by
      simp only [hcM, Mem.mapN, Mem.zero]
      rw [if_neg (by omega)]
    rw [this]
    constructor
    · exact fun h => absurd h h0
    · exact fun h => absurd h.1 e

theorem hc_row (g x : Int) (k : Nat) (hg : 1 ≤ g ∧ g ≤ 7) (hx : 0 ≤ x ∧ x < 700) (hk : k ≤ 16) : (hcM g).canRow x k = true ↔ ∀ i : Nat, i < k → (x + i) / 256 = 1 ∧ (bits .and .i64 g 3 == 3) = true := by
  rw [Mem.canRow, List.all_eq_true]
  constructor
  · intro h i hi
    have h1 := (canK_iff _ _ 1 3).1 (h i (List.mem_range.2 hi)) 0 (by omega)
    rw [plus_plus] at h1
    have e : plus x (i + 0) = x + i := by unfold plus; omega
    rw [e] at h1
    exact (hc_lack g hg (x + i) (by omega)).1 h1
  · intro h i hi
    have hi' := List.mem_range.1 hi
    refine (canK_iff _ _ 1 3).2 (fun t ht => ?_)
    obtain rfl : t = 0 := by omega
    rw [plus_plus]
    have e : plus x (i + 0) = x + i := by unfold plus; omega
    rw [e]
    exact (hc_lack g hg (x + i) (by omega)).2 (h i hi')

theorem hc_yes (g x : Int) (k : Nat) (hg : 1 ≤ g ∧ g ≤ 7) (hx : 0 ≤ x ∧ x < 700) (hk : k ≤ 16) (h1 : 256 ≤ x) (h2 : x + k ≤ 512) (h3 : (bits .and .i64 g 3 == 3) = true) : (hcM g).canRow x k = true :=
  (hc_row g x k hg hx hk).2 (fun i hi => ⟨by omega, h3⟩)
theorem hc_no (g x : Int) (k : Nat) (hg : 1 ≤ g ∧ g ≤ 7) (hx : 0 ≤ x ∧ x < 700) (hk : k ≤ 16) (h0 : 0 < k) (h : x < 256 ∨ 512 < x + k ∨ (bits .and .i64 g 3 == 3) = false) : (hcM g).canRow x k = false := by
  rw [Bool.eq_false_iff]
  intro hc
  have hr := (hc_row g x k hg hx hk).1 hc
  have ha := hr 0 h0
  have hb := hr (k - 1) (by omega)
  rcases h with h | h | h
  · omega
  · have := hb.1
    omega
  · rw [ha.2] at h; cases h

theorem askCan_ok (H : Hs) (M : Mem) (hb a pb : Nat) (x n : Int) (hr : R5 14 x n 0 0) (w : World) (h : IsHost w hb H) (hm : IsMem w a pb M) (hne : hb ≠ a ∧ hb ≠ pb) (hk : M.canRow x (min n 16).toNat = true) :
    Calls Try.prog 43 #[.agg #[.pointer (some ⟨hb, 0, none⟩), .pointer (some ⟨a, 0, none⟩)], .int .u32 14, .int .u32 x, .int .u32 n, .int .u32 0, .int .u32 0] w fun e w' => e = .returned (.bool true) ∧ (IsHost w' hb ((H.ask 14 x n 0 0).put 10 0) ∧ IsMem w' a pb M) ∧ Upd [hb, pb] w w' := by
  have g := H.ask_get 14 x n 0 0
  refine ask_any true H M (fun w' => IsHost w' hb ((H.ask 14 x n 0 0).put 10 0) ∧ IsMem w' a pb M) hb a pb 14 x n 0 0 hr w h hm hne (fun _ _ u h => ⟨h.1.keep u (by simp), h.2.keep u (by simp) (by simp)⟩) (fun w2 h2 m2 => ?_)
  refine ((Do_can _ _ hb a pb w2 h2 m2 hne g.1).1 (by rw [g.2.1, g.2.2.1]; exact hk)).mono ?_
  rintro e w3 ⟨rfl, h3, h4, h5⟩
  exact ⟨⟨_, rfl⟩, ⟨h3, h4⟩, h5⟩

theorem askCan_bad (H : Hs) (M : Mem) (hb a pb : Nat) (x n : Int) (hr : R5 14 x n 0 0) (w : World) (h : IsHost w hb H) (hm : IsMem w a pb M) (hne : hb ≠ a ∧ hb ≠ pb) (hk : M.canRow x (min n 16).toNat = false) :
    Calls Try.prog 43 #[.agg #[.pointer (some ⟨hb, 0, none⟩), .pointer (some ⟨a, 0, none⟩)], .int .u32 14, .int .u32 x, .int .u32 n, .int .u32 0, .int .u32 0] w fun e w' => e = .returned (.bool false) ∧ (IsHost w' hb (H.ask 14 x n 0 0) ∧ IsMem w' a pb M) ∧ Upd [hb, pb] w w' := by
  have g := H.ask_get 14 x n 0 0
  refine ask_any false H M (fun w' => IsHost w' hb (H.ask 14 x n 0 0) ∧ IsMem w' a pb M) hb a pb 14 x n 0 0 hr w h hm hne (fun _ _ u h => ⟨h.1.keep u (by simp), h.2.keep u (by simp) (by simp)⟩) (fun w2 h2 m2 => ?_)
  refine ((Do_can _ _ hb a pb w2 h2 m2 hne g.1).2 (by rw [g.2.1, g.2.2.1]; exact hk)).mono ?_
  rintro e w3 ⟨⟨F, _, rfl⟩, h5⟩
  exact ⟨⟨_, rfl⟩, ⟨h2.keep h5 (by simp), m2.keep h5 (by simp) (by simp)⟩, h5.mono (by simp)⟩
end Go.Proofs.Ytncafchgdgmeaaa
