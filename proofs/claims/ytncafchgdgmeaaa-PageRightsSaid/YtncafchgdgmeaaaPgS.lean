/-
  The law PageRights: what its memory is, the first byte that can't be used.
-/
import Derived.Test.YtncafchgdgmeaaaPgI
import Derived.Test.YtncafchgdgmeaaaPgK
import Derived.Test.YtncafchgdgmeaaaPgH
import Derived.Test.YtncafchgdgmeaaaPgN
namespace Go.Proofs.Ytncafchgdgmeaaa
open Go Go.RowKit
set_option linter.unusedVariables false
set_option linter.unusedSimpArgs false

/-- Pages 4 .. 4+j-1 with the rights r. -/
def prM (r : Nat → Int) (j : Nat) : Mem := ⟨fun p => if 4 ≤ p ∧ p < 4 + j then r (p - 4) % 8 else 0, fun _ => 0⟩

theorem prM_zero (r : Nat → Int) : prM r 0 = Mem.zero := by
  apply Mem.ext'
  · funext p; simp only [prM, Mem.zero]; rw [if_neg (by omega)]
  · rfl

theorem prM_yes (r : Nat → Int) (j : Nat) : (prM r j).mapN (4 + j) 1 (r j % 8) = prM r (j + 1) := by
  apply Mem.ext'
  · funext p
    simp only [prM, Mem.mapN]
    by_cases h : p = 4 + j
    · subst h
      rw [if_pos (by omega), if_pos (by omega), Nat.add_sub_cancel_left]
    · rw [if_neg (by omega)]
      by_cases h2 : 4 ≤ p ∧ p < 4 + j
      · rw [if_pos h2, if_pos (by omega)]
      · rw [if_neg h2, if_neg (by omega)]
  · funext x; simp only [prM, Mem.mapN]; split <;> rfl

theorem prM_no (r : Nat → Int) (j : Nat) (h : r j % 8 = 0) : prM r j = prM r (j + 1) := by
  apply Mem.ext'
  · funext p
    simp only [prM]
    by_cases h : p = 4 + j
    · subst h
      rw [if_neg (by omega), if_pos (by omega), Nat.add_sub_cancel_left, h]
    · by_cases h2 : 4 ≤ p ∧ p < 4 + j
      · rw [if_pos h2, if_pos (by omega)]
      · rw [if_neg h2, if_neg (by omega)]
  · rfl

theorem prM_map (r : Nat → Int) (j : Nat) (hj : j < 3) (h : 0 < r j % 8) : (prM r j).mapB (4 + j) 1 (r j % 8) = true := by
  rw [Mem.mapB, (rightsB_iff _).2 (by omega), Bool.true_and]
  exact Mem.all_of (p := 4 + j) (k := 1) (by decide) (by omega) (fun q h1 h2 => by
    simp only [prM]; rw [if_neg (by omega)]; rfl)

theorem pr_can (r : Nat → Int) (M : Mem) (hM : M.R = (prM r 3).R) (z i : Nat) (hz : z < 768) (hi : i < 4) (right : Int) (h0 : bits .and .i64 0 right = 0) :
    M.can (plus (1024 + z) i) right = if 2 < (z + i) / 256 then false else !(bits .and .i64 (r ((z + i) / 256) % 8) right == 0) := by
  have e : plus (1024 + (z : Int)) i = 1024 + z + i := plus_small (by omega) (by omega)
  rw [e, Mem.can, hM, decide_eq_true (by omega), Bool.true_and]
  have e2 : ((1024 + (z : Int) + i) / 256).toNat = 4 + (z + i) / 256 := by omega
  rw [e2]
  by_cases h : 2 < (z + i) / 256
  · rw [if_pos h]
    have : (prM r 3).R (4 + (z + i) / 256) = 0 := by simp only [prM]; rw [if_neg (by omega)]
    rw [this, h0]; rfl
  · rw [if_neg h]
    have : (prM r 3).R (4 + (z + i) / 256) = r ((z + i) / 256) % 8 := by simp only [prM]; rw [if_pos (by omega), Nat.add_sub_cancel_left]
    rw [this]

/-- The least byte from j on that can't be used, among n; -1: none. -/
def badR (M : Mem) (x right : Int) (n : Nat) : Nat → Int
  | 0 => -1
  | d + 1 => if M.can (plus x (n - 1 - d)) right then badR M x right n d else ((n - 1 - d : Nat) : Int)

theorem badR_spec (M : Mem) (x right : Int) (n : Nat) : ∀ d, d ≤ n → (badR M x right n d = -1 ∧ (∀ i, n - d ≤ i → i < n → M.can (plus x i) right = true)) ∨
    ∃ i, badR M x right n d = (i : Nat) ∧ n - d ≤ i ∧ i < n ∧ M.can (plus x i) right = false ∧ ∀ k, n - d ≤ k → k < i → M.can (plus x k) right = true
  | 0, _ => .inl ⟨rfl, fun i h1 h2 => by omega⟩
  | d + 1, h => by
    have ih := badR_spec M x right n d (by omega)
    simp only [badR]
    cases hc : M.can (plus x (n - 1 - d)) right
    · rw [if_neg (by simp)]
      exact .inr ⟨n - 1 - d, rfl, by omega, by omega, hc, fun k h1 h2 => by omega⟩
    · rw [if_pos rfl]
      rcases ih with ⟨h1, h2⟩ | ⟨i, h1, h2, h3, h4, h5⟩
      · refine .inl ⟨h1, fun i g1 g2 => ?_⟩
        by_cases e : i = n - 1 - d
        · rw [e]; exact hc
        · exact h2 i (by omega) g2
      · refine .inr ⟨i, h1, by omega, h3, h4, fun k g1 g2 => ?_⟩
        by_cases e : k = n - 1 - d
        · rw [e]; exact hc
        · exact h5 k (by omega) g2

theorem badR_bad (M : Mem) (x right : Int) (n : Nat) : (badR M x right n n = -1 ∧ M.bad x right n = none) ∨ ∃ i, badR M x right n n = (i : Nat) ∧ i < n ∧ M.bad x right n = some i := by
  rcases badR_spec M x right n n (Nat.le_refl _) with ⟨h1, h2⟩ | ⟨i, h1, h2, h3, h4, h5⟩
  · exact .inl ⟨h1, bad_none M x right n fun t ht => h2 t (by omega) ht⟩
  · exact .inr ⟨i, h1, h3, bad_some M x right n i h3 (fun t ht => h5 t (by omega) ht) h4⟩

theorem width_n {n : Nat} (h : n = 1 ∨ n = 2 ∨ n = 4) : (widthI n).toNat = n := by
  rcases h with rfl | rfl | rfl <;> rfl

/-- What comes of a use of n bytes from x on with the right r. -/
theorem pr_out (M : Mem) (x : Int) (n : Nat) (r v : Int) (hn : n = 1 ∨ n = 2 ∨ n = 4) (h0 : 0 ≤ x) (h1 : x < 4294967000) :
    (badR M x r n n = -1 ∧ ((r = 1 ∨ r = 4) → M.readF x n r = .agg #[.int .i64 0, .int .u32 0, .int .u32 0, .int .i64 0] ∧ M.readK x n r = true) ∧ (r = 2 → M.writeF x n = .agg #[.int .i64 0, .int .u32 0, .int .u32 0, .int .i64 0] ∧ M.writeK x n = true ∧ (M.writeM x n v).R = M.R)) ∨
    ∃ i : Nat, i < 4 ∧ badR M x r n n = i ∧ ((r = 1 ∨ r = 4) → M.readF x n r = .agg #[.int .i64 1, .int .u32 0, .int .u32 (x + i), .int .i64 r] ∧ M.readK x n r = false) ∧ (r = 2 → M.writeF x n = .agg #[.int .i64 1, .int .u32 0, .int .u32 (x + i), .int .i64 r] ∧ M.writeK x n = false ∧ M.writeM x n v = M) := by
  have e := width_n hn
  have hr : (r = 1 ∨ r = 4) → rightI r = r := by rintro (rfl | rfl) <;> decide
  rcases badR_bad M x r n with ⟨h1, h2⟩ | ⟨i, h1, hi, h2⟩
  · refine .inl ⟨h1, fun h => ?_, fun h => ?_⟩
    · have := Mem.read_none (M := M) (x := x) (bytes := n) (right := r) (by rw [e, hr h]; exact h2)
      exact ⟨this.2.1, this.2.2⟩
    · subst h
      have := Mem.write_none (M := M) (x := x) (bytes := n) (by rw [e]; exact h2)
      exact ⟨this.1, this.2.1, by rw [this.2.2 v, Mem.putN_R]⟩
  · have hp : plus x i = x + i := plus_small h0 (by omega)
    refine .inr ⟨i, by omega, h1, fun h => ?_, fun h => ?_⟩
    · have := Mem.read_some (M := M) (x := x) (bytes := n) (right := r) (i := i) (by rw [e, hr h]; exact h2)
      exact ⟨by rw [this.2.1, hr h, hp]; rfl, this.2.2⟩
    · subst h
      have := Mem.write_some (M := M) (x := x) (bytes := n) (i := i) (by rw [e]; exact h2)
      exact ⟨by rw [this.1, hp]; rfl, this.2.1, this.2.2 v⟩

theorem samePage_refl (M : Mem) (p : Nat) : M.samePage M p = true := by simp [Mem.samePage]
theorem same_refl (M : Mem) : M.same M = true := by simp [Mem.same, samePage_refl]

theorem badR_R {M N : Mem} (h : M.R = N.R) (x right : Int) (n : Nat) : ∀ d, badR M x right n d = badR N x right n d
  | 0 => rfl
  | d + 1 => by
    have e : ∀ y, M.can y right = N.can y right := fun y => by simp only [Mem.can, h]
    simp only [badR, e, badR_R h x right n d]

end Go.Proofs.Ytncafchgdgmeaaa
