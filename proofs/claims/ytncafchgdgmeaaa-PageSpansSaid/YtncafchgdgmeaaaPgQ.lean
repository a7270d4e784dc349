/-
  The law PageSpans: what a memory of its two spans is.
-/
import Derived.Test.YtncafchgdgmeaaaPgJ
import Derived.Test.YtncafchgdgmeaaaPgK
import Derived.Test.YtncafchgdgmeaaaPgH
import Derived.Test.YtncafchgdgmeaaaPgN
import Derived.Laws.BytesArg
namespace Go.Proofs.Ytncafchgdgmeaaa
open Go Go.RowKit
set_option linter.unusedVariables false
set_option linter.unusedSimpArgs false

theorem Mem.pokeN_get (M : Mem) (x : Nat) (l : List Int) (n : Nat) (h : x + n ≤ 4294967296) (k : Nat) : (M.pokeN x l n).B k = if x ≤ k ∧ k < x + n then l.getD (k - x) 0 else M.B k := by
  induction n with
  | zero => rw [Mem.pokeN, if_neg (by omega)]
  | succ n ih =>
    simp only [Mem.pokeN, Mem.setB]
    have e : (plus x n).toNat = x + n := by unfold plus; omega
    rw [e]
    by_cases hk : k = x + n
    · rw [if_pos hk, if_pos (by omega), hk, Nat.add_sub_cancel_left]
    · rw [if_neg hk, ih (by omega)]
      by_cases hl : x ≤ k ∧ k < x + n
      · rw [if_pos hl, if_pos (by omega)]
      · rw [if_neg hl, if_neg (by omega)]

theorem Mem.poke_R (M : Mem) (x : Int) (l : List Int) : (M.poke x l).R = M.R := by
  unfold Mem.poke; split; exact Mem.pokeN_R _ _ _ _; rfl

theorem Mem.poke_nil (M : Mem) (x : Int) : M.poke x [] = M := by
  unfold Mem.poke; split <;> rfl

theorem strInts_empty : strInts ByteArray.empty = [] := rfl

theorem strOf_ints (s : ByteArray) : strOfNums (strInts s) = s := by
  have e : (strInts s).map (fun n => UInt8.ofNat n.toNat) = s.data.toList := by
    rw [strInts, List.map_map]
    conv => rhs; rw [← List.map_id s.data.toList]
    apply List.map_congr_left
    intro b _
    simp
  rw [strOfNums, e]

/-- A slice of bytes of one's own, as a string. -/
theorem own_string {w : World} {base : Nat} {l : List Int} {v : Value} (h : w.ownsRow base 5 1 v l.length (l.map (Value.int .u8))) :
    (convert 43 9 v).run Try.prog w = .ok (.string (strOfNums l)) w := by
  have hk := h
  obtain ⟨_, ⟨h1, h2⟩ | ⟨g, cap, cur, h1, _⟩⟩ := h
  · have : l = [] := List.length_eq_zero_iff.1 h2
    subst this
    rw [h1]
    exact run_convert_bytes_nil w 43 5 (by kernel_rfl) (by kernel_rfl) _ _ _ (by kernel_rfl)
  · rw [h1]
    refine run_convert_bytes_arg w 43 5 (by kernel_rfl) (by kernel_rfl) g 0 _ cap l rfl (fun i hi => ?_) _ (by kernel_rfl)
    have := hk.cells (g := g) (by rw [h1]; rfl) i (.int .u8 (l.getD i 0)) (by rw [List.getElem?_map, List.getD_eq_getElem?_getD, List.getElem?_eq_getElem hi]; rfl)
    rw [Nat.zero_add]
    rcases i with _ | i <;> simpa [Addr.add] using this

def spanL (p q : Nat) (s : ByteArray) : List SpanV := [⟨p, 2, 3, s⟩, ⟨q, 1, 4, ByteArray.empty⟩]

theorem sp_map1 (p : Nat) (hp : p < 60) : Mem.zero.mapB p 2 3 = true := by
  rw [Mem.mapB, show rightsB 3 = true from by decide, Bool.true_and]
  exact Mem.all_of (k := 2) (by decide) (by omega) (fun _ _ _ => by simp [Mem.zero])

def spM1 (p : Nat) (s : ByteArray) : Mem := (Mem.zero.mapN p 2 3).poke (p * 256) (strInts s)

theorem spM1_R (p : Nat) (s : ByteArray) (i : Nat) : (spM1 p s).R i = if p ≤ i ∧ i < p + 2 then 3 else 0 := by
  rw [spM1, Mem.poke_R]; rfl

theorem sp_load1 (p q : Nat) (s : ByteArray) : loadN (spanL p q s) 1 = spM1 p s := by
  simp only [loadN, spanL, Mem.span1, List.getD_cons_zero, spM1, Int.toNat_natCast]
  rfl

theorem sp_map2 (p q : Nat) (s : ByteArray) (hq : q < 60) : (spM1 p s).mapB q 1 4 = decide (q ≠ p ∧ q ≠ p + 1) := by
  rw [Mem.mapB, show rightsB 4 = true from by decide, Bool.true_and]
  by_cases h : q ≠ p ∧ q ≠ p + 1
  · rw [decide_eq_true h]
    exact Mem.all_of (k := 1) (by decide) (by omega) (fun i h1 h2 => by
      rw [spM1_R, if_neg (by omega)]; rfl)
  · rw [decide_eq_false h]
    exact Mem.all_not (k := 1) q (by omega) (by omega) (by rw [spM1_R, if_pos (by omega)]; rfl)

theorem sp_loadB (p q : Nat) (s : ByteArray) (hp : p < 60) (hq : q < 60) : loadB (spanL p q s) = decide (s.size ≤ 512 ∧ q ≠ p ∧ q ≠ p + 1) := by
  have e1 : (loadN (spanL p q s) 0).spanB ((spanL p q s).getD 0 default) = decide (s.size ≤ 512) := by
    simp only [loadN, spanL, Mem.spanB, List.getD_cons_zero, sp_map1 p hp, Bool.true_and]
    exact decide_eq_decide.2 (by omega)
  have e2 : (loadN (spanL p q s) 1).spanB ((spanL p q s).getD 1 default) = decide (q ≠ p ∧ q ≠ p + 1) := by
    rw [sp_load1]
    simp only [spanL, Mem.spanB, List.getD_cons_succ, List.getD_cons_zero, sp_map2 p q s hq]
    simp [ByteArray.size]
  rw [loadB, show (spanL p q s).length = 2 from rfl]
  simp only [List.range, List.range.loop, List.all_cons, List.all_nil, e1, e2, Bool.and_true]
  simp [Bool.decide_and]

def spM2 (p q : Nat) (s : ByteArray) : Mem := (spM1 p s).mapN q 1 4

theorem sp_loadM (p q : Nat) (s : ByteArray) : loadM (spanL p q s) = spM2 p q s := by
  rw [loadM, show (spanL p q s).length = 1 + 1 from rfl, loadN, sp_load1]
  simp only [spanL, List.getD_cons_succ, List.getD_cons_zero, Mem.span1, strInts_empty, Mem.poke_nil, Int.toNat_natCast]
  rfl

theorem spM2_R (p q : Nat) (s : ByteArray) (i : Nat) : (spM2 p q s).R i = if q = i then 4 else if p ≤ i ∧ i < p + 2 then 3 else 0 := by
  have e : (spM2 p q s).R i = if q ≤ i ∧ i < q + 1 then 4 else (spM1 p s).R i := rfl
  rw [e, spM1_R]
  by_cases h : q = i
  · rw [if_pos (by omega), if_pos h]
  · rw [if_neg (by omega), if_neg h]

theorem sp_pokeB (p : Nat) (s : ByteArray) (hp : p < 60) (hs : s.size ≤ 512) : (Mem.zero.mapN p 2 3).pokeB (p * 256) (strInts s) = true := by
  simp only [Mem.pokeB, strInts_length, Bool.and_eq_true, decide_eq_true_eq, List.all_eq_true, List.mem_range]
  refine ⟨by omega, fun i hi => ?_⟩
  have e : plus (↑p * 256) i = ↑p * 256 + i := plus_small (by omega) (by omega)
  rw [e]
  simp only [Mem.mappedB, Bool.and_eq_true, decide_eq_true_eq]
  refine ⟨by omega, ?_⟩
  have : (Mem.zero.mapN p 2 3).R ((↑p * 256 + (i : Int)) / 256).toNat = 3 := by
    simp only [Mem.mapN]; rw [if_pos (by omega)]
  rw [this]; rfl

theorem spM2_B (p q : Nat) (s : ByteArray) (hp : p < 60) (hs : s.size ≤ 512) (h1 : q ≠ p) (h2 : q ≠ p + 1) (i : Nat) (hi : i < s.size) : (spM2 p q s).B (p * 256 + i) = (strInts s).getD i 0 := by
  have e : (spM2 p q s).B (p * 256 + i) = (spM1 p s).B (p * 256 + i) := by
    simp only [spM2, Mem.mapN]
    rw [if_neg (by omega)]
  rw [e, spM1, Mem.poke, if_pos (sp_pokeB p s hp hs), strInts_length]
  have := Mem.pokeN_get (Mem.zero.mapN p 2 3) (p * 256) (strInts s) s.size (by omega) (p * 256 + i)
  rw [if_pos (by omega), Nat.add_sub_cancel_left] at this
  rw [← this]
  rfl

theorem sp_peek (p q : Nat) (s : ByteArray) (hp : p < 60) (hs : s.size ≤ 512) (h1 : q ≠ p) (h2 : q ≠ p + 1) : (spM2 p q s).peek (256 * p) s.size = strInts s := by
  have e : (min (s.size : Int) 16384).toNat = s.size := by omega
  have e2 : (spM2 p q s).peekN (256 * p) s.size = s.size := by
    refine peekN_all _ _ _ fun t ht => ?_
    have e : plus (256 * (p : Int)) t = 256 * p + t := plus_small (by omega) (by omega)
    rw [e]
    simp only [Mem.mappedB, Bool.and_eq_true, decide_eq_true_eq]
    refine ⟨by omega, ?_⟩
    rw [spM2_R, if_neg (by omega), if_pos (by omega)]; rfl
  rw [Mem.peek, e, e2, Mem.peekL]
  apply List.ext_getElem
  · simp [strInts_length]
  · intro i hi hi2
    rw [strInts_length] at hi2
    simp only [List.getElem_map, List.getElem_range]
    have e : (plus (256 * (p : Int)) i).toNat = p * 256 + i := by rw [plus_small (by omega) (by omega)]; omega
    rw [e, spM2_B p q s hp hs h1 h2 i hi2, List.getD_eq_getElem?_getD, List.getElem?_eq_getElem (by rw [strInts_length]; exact hi2)]
    rfl

theorem zero_same : Mem.zero.same Mem.zero = true := by
  simp [Mem.same, Mem.samePage]

end Go.Proofs.Ytncafchgdgmeaaa
