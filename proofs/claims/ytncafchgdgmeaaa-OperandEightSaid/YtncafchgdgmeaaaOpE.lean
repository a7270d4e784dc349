/-
  Eight bytes written and read: plain facts. No condition; no program in sight.
-/
import Derived.Test.YtncafchgdgmeaaaStF
import Derived.Test.YtncafchgdgmeaaaRfD
import Derived.Test.YtncafchgdgmeaaaPgN
namespace Go.Proofs.Ytncafchgdgmeaaa
open Go Go.RowKit
set_option linter.unusedVariables false
set_option linter.unusedSimpArgs false

theorem lack_R {M N : Mem} (h : N.R = M.R) (y r : Int) : N.lack y r = M.lack y r := by simp only [Mem.lack, Mem.rightAt, h]
theorem canBad_R {M N : Mem} (h : N.R = M.R) (x : Int) (n : Nat) (r : Int) : N.canBad x n r = M.canBad x n r := by
  simp only [Mem.canBad, lack_R h]
theorem canK_R {M N : Mem} (h : N.R = M.R) (x : Int) (n : Nat) (r : Int) : N.canK x n r = M.canK x n r := by rw [Mem.canK, Mem.canK, canBad_R h]
theorem canF_R {M N : Mem} (h : N.R = M.R) (x : Int) (n : Nat) (r : Int) : N.canF x n r = M.canF x n r := by
  rw [Mem.canF, Mem.canF, canBad_R h]; simp only [lack_R h]

theorem wr8M_R (M : Mem) (x v : Int) : (M.wr8M x v).R = M.R := by
  rw [Mem.wr8M]; split
  · rw [Mem.putN_R, Mem.putN_R]
  · rfl

theorem canK_split (M : Mem) (x r : Int) : M.canK x 8 r = (M.canK x 4 r && M.canK (plus x 4) 4 r) := by
  rw [Bool.eq_iff_iff, Bool.and_eq_true, canK_iff, canK_iff, canK_iff]
  constructor
  · intro h
    exact ⟨fun t ht => h t (by omega), fun t ht => by rw [plus_plus]; exact h (4 + t) (by omega)⟩
  · intro ⟨h, k⟩ t ht
    by_cases h4 : t < 4
    · exact h t h4
    · have := k (t - 4) (by omega)
      rw [plus_plus, show 4 + (t - 4) = t from by omega] at this
      exact this

theorem canF_fst (M : Mem) (x r : Int) (h : M.canK x 4 r = false) : M.canF x 8 r = M.canF x 4 r := by
  rw [Mem.canK] at h
  cases hb : M.canBad x 4 r with
  | none => rw [hb] at h; cases h
  | some i =>
    have hb' := hb
    rw [Mem.canBad, List.find?_range_eq_some] at hb'
    obtain ⟨h1, h2, h3⟩ := hb'
    have hi : i < 4 := by simpa using h2
    have h8 : M.canBad x 8 r = some i := by
      rw [Mem.canBad, List.find?_range_eq_some]
      exact ⟨h1, by simp; omega, h3⟩
    rw [Mem.canF, Mem.canF, hb, h8]

theorem canF_snd (M : Mem) (x r : Int) (h : M.canK x 4 r = true) : M.canF x 8 r = M.canF (plus x 4) 4 r := by
  have h0 := (canK_iff M x 4 r).1 h
  cases hb : M.canBad (plus x 4) 4 r with
  | none =>
    have h8 : M.canBad x 8 r = none := by
      have hk : M.canK x 8 r = true := by rw [canK_split, h, Mem.canK, hb]; rfl
      rw [Mem.canK] at hk
      exact Option.isNone_iff_eq_none.1 hk
    rw [Mem.canF, Mem.canF, hb, h8]
  | some i =>
    have hb' := hb
    rw [Mem.canBad, List.find?_range_eq_some] at hb'
    obtain ⟨h1, h2, h3⟩ := hb'
    have hi : i < 4 := by simpa using h2
    rw [plus_plus] at h1
    have h8 : M.canBad x 8 r = some (4 + i) := by
      rw [Mem.canBad, List.find?_range_eq_some]
      refine ⟨h1, by simp; omega, fun t ht => ?_⟩
      by_cases h4 : t < 4
      · simp [h0 t h4]
      · have := h3 (t - 4) (by omega)
        rw [plus_plus, show 4 + (t - 4) = t from by omega] at this
        exact this
    rw [Mem.canF, Mem.canF, hb, h8]
    simp only [plus_plus]

theorem rd8K_can {M : Mem} (hM : M.Ok) (x : Int) : M.rd8K x = M.canK x 8 1 := by
  have h := canK_readK hM x 4 1
  have k := canK_readK hM (plus x 4) 4 1
  have e : rightI 1 = 1 := rfl
  have e4 : (widthI 4).toNat = 4 := by decide
  rw [e, e4] at h k
  rw [Mem.rd8K, canK_split, h, k]

theorem rd8F_can {M : Mem} (hM : M.Ok) (x : Int) : M.rd8F x = M.canF x 8 1 := by
  have hK := canK_readK hM x 4 1
  have h := canF_rdF hM x 4 1
  have k := canF_rdF hM (plus x 4) 4 1
  have e : rightI 1 = 1 := rfl
  have e4 : (widthI 4).toNat = 4 := by decide
  rw [e, e4] at h k hK
  rw [Mem.rd8F]
  cases hb : M.readK x 4 1
  · rw [if_neg (by simp), canF_fst _ _ _ (by rw [hK, hb]), h]
  · rw [if_pos rfl, canF_snd _ _ _ (by rw [hK, hb]), k]

theorem rd8V_no {M : Mem} (x : Int) (h : M.rd8K x = false) : M.rd8V x = 0 := by rw [Mem.rd8V, if_neg (by rw [h]; simp)]

theorem can8_lt {M : Mem} (hM : M.Ok) (x r : Int) (hr : r = 1 ∨ r = 2 ∨ r = 4) (h0 : 0 ≤ x) (h1 : x < 4294967296) (h : M.canK x 8 r = true) : x + 8 ≤ 16384 := by
  have hc : ∀ t, t < 8 → plus x t < 16384 := fun t ht => can_lt (plus_nn _ _) ((lack_can hM _ (plus_nn _ _) r hr).1 ((canK_iff M x 8 r).1 h t ht))
  have a := hc 0 (by decide)
  have b := hc 7 (by decide)
  unfold plus at a b
  omega

theorem put_get4 (M : Mem) (x : Nat) (v : Int) (hx : x < 4294967000) (h0 : 0 ≤ v) (h1 : v < 4294967296) : (M.putN x v 4).get x 4 = v := by
  have h := put4_get M x v hx h0 h1
  have e4 : (widthI 4).toNat = 4 := by decide
  rwa [e4] at h
theorem put_far4 (M : Mem) (x y : Nat) (v : Int) (hx : x < 4294967000) (hy : y < 4294967000) (h : y + 4 ≤ x ∨ x + 4 ≤ y) : (M.putN x v 4).get y 4 = M.get y 4 := by
  have h := put4_get_far M x y v hx hy h
  have e4 : (widthI 4).toNat = 4 := by decide
  rwa [e4] at h

theorem rd8_wr8 {M : Mem} (hM : M.Ok) (x v : Int) (h0 : 0 ≤ x) (h1 : x < 4294967296) (hv0 : 0 ≤ v) (hv1 : v < 18446744073709551616) (hw : M.canK x 8 2 = true) (hr : M.canK x 8 1 = true) : (M.wr8M x v).rd8V x = v := by
  have hx := can8_lt hM x 2 (by simp) h0 h1 hw
  obtain ⟨y, rfl⟩ := Int.eq_ofNat_of_zero_le h0
  have ep : plus (y : Int) 4 = ((y + 4 : Nat) : Int) := by unfold plus; omega
  have e4 : (widthI 4).toNat = 4 := by decide
  obtain ⟨N, hN⟩ : ∃ N, M.wr8M y v = N := ⟨_, rfl⟩
  have hNe : N = (M.putN y (v % 4294967296) 4).putN ((y + 4 : Nat) : Int) (v / 4294967296) 4 := by rw [← hN, Mem.wr8M, if_pos hw, ep]
  have hNok : N.Ok := by rw [hNe]; exact Mem.putN_ok (Mem.putN_ok hM _ _ _) _ _ _
  have hNR : N.R = M.R := by rw [← hN]; exact wr8M_R _ _ _
  rw [hN]
  have hk : N.rd8K y = true := by rw [rd8K_can hNok, canK_R hNR, hr]
  rw [Mem.rd8V, if_pos hk]
  simp only [Mem.rd8K, Bool.and_eq_true] at hk
  have g1 : N.readV y 4 1 = N.get y 4 := by
    have := hk.1
    rw [Mem.readK] at this
    rw [Mem.readV, Option.isNone_iff_eq_none.1 this, e4]
  have g2 : N.readV ((y + 4 : Nat) : Int) 4 1 = N.get ((y + 4 : Nat) : Int) 4 := by
    have := hk.2
    rw [ep, Mem.readK] at this
    rw [Mem.readV, Option.isNone_iff_eq_none.1 this, e4]
  rw [ep, g1, g2, hNe, put_get4 _ _ _ (by omega) (by omega) (by omega), put_far4 _ _ _ _ (by omega) (by omega) (by omega), put_get4 _ _ _ (by omega) (by omega) (by omega)]
  omega

end Go.Proofs.Ytncafchgdgmeaaa
