/-
  The law PageForgets: the plain part (what is written is read; pages given back forget).
-/
import Derived.Test.YtncafchgdgmeaaaPgL
namespace Go.Proofs.Ytncafchgdgmeaaa
open Go Go.RowKit
set_option linter.unusedVariables false
set_option linter.unusedSimpArgs false

/-- All bytes of a number of four are read as they were written. -/
theorem Mem.get_eq {M : Mem} {x : Int} {n : Nat} (f : Nat → Int) (h : ∀ i, i < n → M.B (plus x i).toNat = f i) : M.get x n = Nat.rec 0 (fun i g => g + f i * 2 ^ (8 * i)) n := by
  induction n with
  | zero => rfl
  | succ n ih =>
    rw [Mem.get, ih (fun i hi => h i (by omega)), h n (by omega)]

theorem Mem.get4 (M : Mem) (x : Nat) (hx : x < 4294967000) : M.get x (widthI 4).toNat = M.B x + M.B (x + 1) * 256 + M.B (x + 2) * 65536 + M.B (x + 3) * 16777216 := by
  have e : (widthI 4).toNat = 4 := by decide
  have q : ∀ i, i < 4 → (plus (x : Int) i).toNat = x + i := fun i hi => by unfold plus; omega
  rw [e]
  simp only [Mem.get]
  rw [q 0 (by decide), q 1 (by decide), q 2 (by decide), q 3 (by decide)]
  simp

theorem put4_get (M : Mem) (x : Nat) (v : Int) (hx : x < 4294967000) (h0 : 0 ≤ v) (h1 : v < 4294967296) : (M.putN x v (widthI 4).toNat).get x (widthI 4).toNat = v := by
  have e : ((widthI 4).toNat : Int) = 4 := by decide
  have en : (widthI 4).toNat = 4 := by decide
  rw [Mem.get4 _ _ hx, Mem.putN_lt _ _ _ _ (by rw [en]; omega) (by omega), Mem.putN_lt _ _ _ _ (by rw [en]; omega) (by omega), Mem.putN_lt _ _ _ _ (by rw [en]; omega) (by omega), Mem.putN_lt _ _ _ _ (by rw [en]; omega) (by omega), e]
  rw [if_pos (by omega), if_pos (by omega), if_pos (by omega), if_pos (by omega)]
  rw [show 8 * (x - (x : Int).toNat) = 0 from by omega, show 8 * (x + 1 - (x : Int).toNat) = 8 from by omega, show 8 * (x + 2 - (x : Int).toNat) = 16 from by omega, show 8 * (x + 3 - (x : Int).toNat) = 24 from by omega]
  simp only [Nat.mul_zero, Int.reducePow]
  omega

theorem put4_get_far (M : Mem) (x y : Nat) (v : Int) (hx : x < 4294967000) (hy : y < 4294967000) (h : y + 4 ≤ x ∨ x + 4 ≤ y) : (M.putN x v (widthI 4).toNat).get y (widthI 4).toNat = M.get y (widthI 4).toNat := by
  have e : ((widthI 4).toNat : Int) = 4 := by decide
  have en : (widthI 4).toNat = 4 := by decide
  rw [Mem.get4 _ _ hy, Mem.get4 _ _ hy, Mem.putN_lt _ _ _ _ (by rw [en]; omega) (by omega), Mem.putN_lt _ _ _ _ (by rw [en]; omega) (by omega), Mem.putN_lt _ _ _ _ (by rw [en]; omega) (by omega), Mem.putN_lt _ _ _ _ (by rw [en]; omega) (by omega), e]
  rw [if_neg (by omega), if_neg (by omega), if_neg (by omega), if_neg (by omega)]

theorem bad_none_page (M : Mem) (x : Nat) (n : Nat) (r : Int) (hx : x + n ≤ 16384) (hp : ∀ t, t < n → bits .and .i64 (M.R ((x + t) / 256)) r ≠ 0) : M.bad x r n = none := by
  refine bad_none M x r n fun t ht => ?_
  have e : plus (x : Int) t = ((x + t : Nat) : Int) := by unfold plus; omega
  rw [e]
  refine can_page (by omega) (by omega) ?_
  rw [show (((x + t : Nat) : Int) / 256).toNat = (x + t) / 256 from by omega]
  exact hp t ht

def q64 : Mem := Mem.zero.mapN (0 : Int).toNat (64 : Int).toNat 3
theorem q64_map : Mem.zero.mapB 0 64 3 = true := by decide +kernel
theorem q64_R (p : Nat) (h : p < 64) : q64.R p = 3 := by
  simp only [q64, Mem.mapN]
  rw [if_pos (by simp; omega)]

theorem Mem.all_of {M : Mem} {p k : Nat} {b : Bool} (h1 : 1 ≤ k) (h2 : p + k ≤ 64) (h : ∀ q, p ≤ q → q < p + k → (M.R q != 0) = b) : M.all p k b = true := by
  rw [Mem.all, Bool.and_eq_true, rowB_iff]
  refine ⟨⟨by omega, by omega, by omega, by omega⟩, ?_⟩
  rw [Bool.not_eq_true', List.any_eq_false]
  intro i hi
  rw [List.mem_range] at hi
  rw [Mem.odd, h _ (by omega) (by omega)]
  simp

theorem Mem.all_not {M : Mem} {p k : Nat} {b : Bool} (q : Nat) (hp : p ≤ q) (hk : q < p + k) (h : (M.R q != 0) = !b) : M.all p k b = false := by
  rw [Mem.all, Bool.and_eq_false_iff]
  right
  rw [Bool.not_eq_false', List.any_eq_true]
  refine ⟨q - p, by rw [List.mem_range]; omega, ?_⟩
  rw [Mem.odd, show (p : Int).toNat + (q - p) = q from by omega, h]
  cases b <;> rfl

/-- The memory behind all of the first loop's rounds: every page holds the number. -/
structure Fg (v : Int) (i : Nat) (M : Mem) : Prop where
  R : M.R = q64.R
  get : ∀ j, j < i → M.get ((256 * j + 8 : Nat) : Int) (widthI 4).toNat = v

theorem fg_step {v : Int} {i : Nat} {M : Mem} (h : Fg v i M) (hi : i < 64) (h0 : 0 ≤ v) (h1 : v < 4294967296) :
    Fg v (i + 1) (M.writeM ((256 * i + 8 : Nat) : Int) 4 v) := by
  have en : (widthI 4).toNat = 4 := by decide
  have hw := (Mem.write_none (M := M) (x := ((256 * i + 8 : Nat) : Int)) (bytes := 4) (bad_none_page M _ _ 2 (by rw [en]; omega) (fun t ht => by rw [en] at ht; rw [h.R, q64_R _ (by omega)]; decide))).2.2 v
  rw [hw]
  refine ⟨by rw [Mem.putN_R, h.R], fun j hj => ?_⟩
  by_cases e : j = i
  · subst e; exact put4_get _ _ _ (by omega) h0 h1
  · rw [put4_get_far _ _ _ _ (by omega) (by omega) (by omega)]; exact h.get j (by omega)

/-- What Go reads of page i behind the pages p .. p+k were given back and asked for again. -/
theorem fg_back {v : Int} {M : Mem} (h : Fg v 64 M) (p k i : Nat) (hi : i < 64) :
    ((M.mapN p k 0).mapN p k 5).readV ((256 * i + 8 : Nat) : Int) 4 1 = (if p ≤ i ∧ i < p + k then 0 else v) ∧
    ((M.mapN p k 0).mapN p k 5).readF ((256 * i + 8 : Nat) : Int) 4 1 = .agg #[.int .i64 0, .int .u32 0, .int .u32 0, .int .i64 0] ∧
    ((M.mapN p k 0).mapN p k 5).readK ((256 * i + 8 : Nat) : Int) 4 1 = true ∧
    ((M.mapN p k 0).mapN p k 5).rights i = (if p ≤ i ∧ i < p + k then 5 else 3) := by
  have en : (widthI 4).toNat = 4 := by decide
  have hR : ∀ q, q < 64 → ((M.mapN p k 0).mapN p k 5).R q = if p ≤ q ∧ q < p + k then 5 else 3 := fun q hq => by
    simp only [Mem.mapN]
    by_cases e : p ≤ q ∧ q < p + k
    · rw [if_pos e, if_pos e]
    · rw [if_neg e, if_neg e, if_neg e, h.R, q64_R _ hq]
  have hr := Mem.read_none (M := (M.mapN p k 0).mapN p k 5) (x := ((256 * i + 8 : Nat) : Int)) (bytes := 4) (right := 1) (bad_none_page _ _ _ _ (by rw [en]; omega) (fun t ht => by
    rw [en] at ht; rw [hR _ (by omega)]; split <;> decide))
  refine ⟨?_, hr.2.1, hr.2.2, ?_⟩
  · rw [hr.1, Mem.get4 _ _ (by omega)]
    have hg := h.get i hi
    rw [Mem.get4 _ _ (by omega)] at hg
    have hB : ∀ t, t < 4 → ((M.mapN p k 0).mapN p k 5).B (256 * i + 8 + t) = if p ≤ i ∧ i < p + k then 0 else M.B (256 * i + 8 + t) := fun t ht => by
      simp only [Mem.mapN]
      rw [show (256 * i + 8 + t) / 256 = i from by omega]
      by_cases e : p ≤ i ∧ i < p + k
      · rw [if_pos e, if_pos e]
      · rw [if_neg e, if_neg e]
    rw [show 256 * i + 8 = 256 * i + 8 + 0 from rfl, hB 0 (by decide), hB 1 (by decide), hB 2 (by decide), hB 3 (by decide)]
    by_cases e : p ≤ i ∧ i < p + k
    · simp [e]
    · simpa [e] using hg
  · rw [Mem.rights, if_neg (by omega)]
    exact hR i hi

end Go.Proofs.Ytncafchgdgmeaaa
