/-
  The law PageBytes: the walk.
-/
import Derived.Test.YtncafchgdgmeaaaPgK
namespace Go.Proofs.Ytncafchgdgmeaaa
open Go Go.RowKit
set_option linter.unusedVariables false
set_option linter.unusedSimpArgs false

/-! ### What was written is read. -/
theorem Mem.putN_lt (M : Mem) (x v : Int) (n : Nat) (h : x + n ≤ 4294967296) (h0 : 0 ≤ x) (k : Nat) : (M.putN x v n).B k = if x ≤ k ∧ (k : Int) < x + n then v / 2 ^ (8 * (k - x.toNat)) % 256 else M.B k := by
  induction n with
  | zero => rw [Mem.putN, if_neg (by omega)]
  | succ n ih =>
    simp only [Mem.putN, Mem.setB]
    have e : (plus x n).toNat = x.toNat + n := by unfold plus; omega
    rw [e]
    by_cases hk : k = x.toNat + n
    · rw [if_pos hk, if_pos (by omega), hk, Nat.add_sub_cancel_left]
    · rw [if_neg hk, ih (by omega)]
      by_cases hl : x ≤ k ∧ (k : Int) < x + n
      · rw [if_pos hl, if_pos (by omega)]
      · rw [if_neg hl, if_neg (by omega)]

theorem can_page {M : Mem} {x r : Int} (h0 : 0 ≤ x) (h1 : x < 16384) (hr : bits .and .i64 (M.R (x / 256).toNat) r ≠ 0) : M.can x r = true := by
  simp only [Mem.can, Bool.and_eq_true, decide_eq_true_eq, Bool.not_eq_true', beq_eq_false_iff_ne]
  exact ⟨h1, hr⟩

def p8 : Mem := Mem.zero.mapN (0 : Int).toNat (8 : Int).toNat 3

theorem p8_map : Mem.zero.mapB 0 8 3 = true := by decide +kernel
theorem p8_R (p : Nat) (h : p < 8) : p8.R p = 3 := by
  simp only [p8, Mem.mapN]
  rw [if_pos (by simp; omega)]

theorem plus_small {x : Int} {i : Nat} (h0 : 0 ≤ x) (h : x + i < 4294967296) : plus x i = x + i := by unfold plus; omega

theorem p8_can {M : Mem} (hR : M.R = p8.R) (x r : Int) (hr : bits .and .i64 3 r ≠ 0) (h0 : 0 ≤ x) (h1 : x < 2048) : M.can x r = true := by
  refine can_page h0 (by omega) ?_
  rw [hR, p8_R _ (by omega)]
  exact hr

theorem p8_bad {M : Mem} (hR : M.R = p8.R) (x r : Int) (n : Nat) (hr : bits .and .i64 3 r ≠ 0) (h0 : 0 ≤ x) (h1 : x + n ≤ 2048) : M.bad x r n = none :=
  bad_none M x r n fun t ht => p8_can hR _ r hr (plus_nn _ _) (by rw [plus_small h0 (by omega)]; omega)

/-- The number that the law wants. -/
def wantI (v w : Int) : Int := bits .or .u32 (bits .and .u32 v 4278190335) (bits .and .u32 w 65535 * 256 % 4294967296)

theorem and_ends (v : Nat) (h : v < 4294967296) : v &&& 4278190335 = v / 16777216 * 16777216 + v % 256 := by
  have e : (4278190335 : Nat) = 4278190080 ||| 255 := by decide
  rw [e, Nat.and_or_distrib_left]
  have e1 : v &&& 255 = v % 256 := nat_mask8 v
  have e2 : v &&& 4278190080 = v / 16777216 * 16777216 := by
    have e3 : (4278190080 : Nat) = 255 <<< 24 := by decide
    have e4 : v / 16777216 * 16777216 = (v >>> 24) <<< 24 := by rw [Nat.shiftLeft_eq, Nat.shiftRight_eq_div_pow]
    rw [e3, e4]
    apply Nat.eq_of_testBit_eq
    intro i
    simp only [Nat.testBit_and, Nat.testBit_shiftLeft, Nat.testBit_shiftRight]
    by_cases hi : 24 ≤ i
    · have : 24 + (i - 24) = i := by omega
      simp only [hi, decide_true, Bool.true_and, this]
      by_cases h32 : i < 32
      · have : Nat.testBit 255 (i - 24) = true := by
          have : i - 24 < 8 := by omega
          rw [show (255 : Nat) = 2 ^ 8 - 1 from rfl, Nat.testBit_two_pow_sub_one]; simpa using this
        rw [this, Bool.and_true]
      · have : v.testBit i = false := Nat.testBit_lt_two_pow (Nat.lt_of_lt_of_le h (by
          rw [show (4294967296 : Nat) = 2 ^ 32 from rfl]; exact Nat.pow_le_pow_right (by decide) (by omega)))
        simp [this]
    · simp [hi]
  rw [e1, e2, nat_join 24 _ _ (by omega) (by omega)]

theorem wantI_eq (v w : Int) (hv0 : 0 ≤ v) (hv1 : v < 4294967296) (hw0 : 0 ≤ w) (hw1 : w < 4294967296) : wantI v w = v % 256 + w % 65536 * 256 + v / 16777216 * 16777216 := by
  obtain ⟨v, rfl⟩ := Int.eq_ofNat_of_zero_le hv0
  obtain ⟨w, rfl⟩ := Int.eq_ofNat_of_zero_le hw0
  have e2 := and_ends v (by omega)
  have e3 : w &&& 65535 = w % 65536 := Nat.and_two_pow_sub_one_eq_mod w 16
  have e1 : bits .and .u32 (v : Int) 4278190335 = ((v &&& 4278190335 : Nat) : Int) := u32_and_nat v 4278190335 (by omega) (by decide)
  have e4 : bits .and .u32 (w : Int) 65535 = ((w &&& 65535 : Nat) : Int) := u32_and_nat w 65535 (by omega) (by decide)
  rw [wantI, e1, e4, e2, e3]
  have e5 : ((w % 65536 : Nat) : Int) * 256 % 4294967296 = ((w % 65536 * 256 : Nat) : Int) := by omega
  rw [e5, u32_or_nat _ _ (by omega) (by omega)]
  have e6 : v / 16777216 * 16777216 + v % 256 = v / 16777216 * 16777216 ||| v % 256 := (nat_join 24 _ _ (by omega) (by omega)).symm
  have e7 : v % 256 ||| w % 65536 * 256 = w % 65536 * 256 + v % 256 := by rw [Nat.or_comm]; exact nat_join 8 _ _ (by omega) (by omega)
  rw [e6, Nat.or_assoc, e7, nat_join 24 _ _ (by omega) (by omega)]
  omega

theorem wf_u32 {n : Int} (h : (Lit.int .u32 n).wf = true) : 0 ≤ n ∧ n < 4294967296 := by
  simp [Lit.wf, IntKind.min, IntKind.max, IntKind.signed, IntKind.bits] at h; omega
theorem wf_u16 {n : Int} (h : (Lit.int .u16 n).wf = true) : 0 ≤ n ∧ n < 65536 := by
  simp [Lit.wf, IntKind.min, IntKind.max, IntKind.signed, IntKind.bits] at h; omega
theorem wf_u8 {n : Int} (h : (Lit.int .u8 n).wf = true) : 0 ≤ n ∧ n < 256 := by
  simp [Lit.wf, IntKind.min, IntKind.max, IntKind.signed, IntKind.bits] at h; omega
theorem wf_int {n : Int} (h : (Lit.int .i64 n).wf = true) : -9223372036854775808 ≤ n ∧ n ≤ 9223372036854775807 := by
  simp [Lit.wf, IntKind.min, IntKind.max, IntKind.signed, IntKind.bits] at h; omega

/-- The memory of the law, behind both writes. -/
def lbM (z : Nat) (v w : Int) : Mem := (p8.putN (z + 8) v (widthI 4).toNat).putN (z + 9) w (widthI 2).toNat

theorem lbM_R (z : Nat) (v w : Int) : (lbM z v w).R = p8.R := by rw [lbM, Mem.putN_R, Mem.putN_R]

theorem lbM_B (z : Nat) (v w : Int) (hz : z < 1000) (k : Nat) : (lbM z v w).B k = if k = z + 9 then w % 256 else if k = z + 10 then w / 256 % 256 else if k = z + 8 then v % 256 else if k = z + 11 then v / 16777216 % 256 else 0 := by
  rw [lbM, Mem.putN_lt _ _ _ _ (by simp [widthI]; omega) (by omega), Mem.putN_lt _ _ _ _ (by simp [widthI]; omega) (by omega)]
  have e4 : ((widthI 4).toNat : Int) = 4 := by decide
  have e2 : ((widthI 2).toNat : Int) = 2 := by decide
  rw [e4, e2]
  have e0 : p8.B k = 0 := by simp only [p8, Mem.mapN]; split <;> rfl
  by_cases h1 : k = z + 9
  · subst h1
    rw [if_pos (by omega), if_pos rfl, show 8 * ((z + 9) - ((z : Int) + 9).toNat) = 0 from by omega]
    simp
  · rw [if_neg h1]
    by_cases h2 : k = z + 10
    · subst h2
      rw [if_pos (by omega), if_pos rfl, show 8 * ((z + 10) - ((z : Int) + 9).toNat) = 8 from by omega]
      rfl
    · rw [if_neg h2, if_neg (by omega)]
      by_cases h3 : k = z + 8
      · subst h3
        rw [if_pos (by omega), if_pos rfl, show 8 * ((z + 8) - ((z : Int) + 8).toNat) = 0 from by omega]
        simp
      · rw [if_neg h3]
        by_cases h4 : k = z + 11
        · subst h4
          rw [if_pos (by omega), if_pos rfl, show 8 * ((z + 11) - ((z : Int) + 8).toNat) = 24 from by omega]
          rfl
        · rw [if_neg h4, if_neg (by omega), e0]

theorem lb_get (z : Nat) (v w : Int) (hz : z < 1000) (hv0 : 0 ≤ v) (hv1 : v < 4294967296) (hw0 : 0 ≤ w) (hw1 : w < 4294967296) : (lbM z v w).get (z + 8) (widthI 4).toNat = wantI v w := by
  have e4 : (widthI 4).toNat = 4 := by decide
  rw [e4, wantI_eq v w hv0 hv1 hw0 hw1]
  simp only [Mem.get]
  have p0 : (plus ((z : Int) + 8) 0).toNat = z + 8 := by unfold plus; omega
  have p1 : (plus ((z : Int) + 8) 1).toNat = z + 9 := by unfold plus; omega
  have p2 : (plus ((z : Int) + 8) 2).toNat = z + 10 := by unfold plus; omega
  have p3 : (plus ((z : Int) + 8) 3).toNat = z + 11 := by unfold plus; omega
  rw [p0, p1, p2, p3, lbM_B _ _ _ hz, lbM_B _ _ _ hz, lbM_B _ _ _ hz, lbM_B _ _ _ hz]
  simp only [show ¬ z + 8 = z + 9 from by omega, show ¬ z + 8 = z + 10 from by omega, show ¬ z + 10 = z + 9 from by omega, show ¬ z + 11 = z + 9 from by omega, show ¬ z + 11 = z + 10 from by omega, show ¬ z + 11 = z + 8 from by omega, if_true, if_false]
  omega

theorem lb_peekN (z : Nat) (v w : Int) (hz : z < 1000) : (lbM z v w).peekN (z + 4) 12 = 12 := by
  refine peekN_all _ _ _ fun t ht => ?_
  have e : plus ((z : Int) + 4) t = z + 4 + t := plus_small (by omega) (by omega)
  rw [e]
  simp only [Mem.mappedB, lbM_R, Bool.and_eq_true, decide_eq_true_eq]
  refine ⟨by omega, ?_⟩
  rw [p8_R _ (by omega)]; rfl

theorem lb_peek (z : Nat) (v w : Int) (hz : z < 1000) : (lbM z v w).peek (z + 4) 12 = [0, 0, 0, 0, v % 256, w % 256, w / 256 % 256, v / 16777216 % 256, 0, 0, 0, 0] := by
  have e : (min (12 : Int) 16384).toNat = 12 := by decide
  rw [Mem.peek, e, lb_peekN z v w hz, Mem.peekL]
  have q : ∀ i, i < 12 → (lbM z v w).B (plus ((z : Int) + 4) i).toNat = (lbM z v w).B (z + 4 + i) := fun i hi => by
    rw [show (plus ((z : Int) + 4) i).toNat = z + 4 + i from by unfold plus; omega]
  simp only [List.range, List.range.loop, List.map_cons, List.map_nil]
  rw [q 0 (by decide), q 1 (by decide), q 2 (by decide), q 3 (by decide), q 4 (by decide), q 5 (by decide), q 6 (by decide), q 7 (by decide), q 8 (by decide), q 9 (by decide), q 10 (by decide), q 11 (by decide)]
  simp only [lbM_B _ _ _ hz, Nat.add_assoc, Nat.reduceAdd, Nat.add_left_cancel_iff, Nat.reduceEqDiff, if_true, if_false, Nat.add_zero]

end Go.Proofs.Ytncafchgdgmeaaa
