/-
  The law HelperBack: its plain part: eight bytes laid, a word upon them, read back. No condition.
-/
import Derived.Test.YtncafchgdgmeaaaHpL
import Derived.Test.YtncafchgdgmeaaaPgN
namespace Go.Proofs.Ytncafchgdgmeaaa
open Go Go.RowKit
set_option linter.unusedVariables false
set_option linter.unusedSimpArgs false

theorem hb_w4 : (widthI 4).toNat = 4 := by decide
theorem hb_w1 : (widthI 1).toNat = 1 := by decide

theorem Mem.get1 (M : Mem) (x : Nat) (hx : x < 4294967000) : M.get x 1 = M.B x := by
  simp only [Mem.get]
  rw [show (plus (x : Int) 0).toNat = x from by unfold plus; omega]
  simp

theorem hb_put (M : Mem) (x : Nat) (v : Int) (hx : x < 4294967000) (h0 : 0 ≤ v) (h1 : v < 4294967296) : (M.putN x v 4).get x 4 = v := by
  have := put4_get M x v hx h0 h1
  rwa [hb_w4] at this
theorem hb_far (M : Mem) (x y : Nat) (v : Int) (hx : x < 4294967000) (hy : y < 4294967000) (h : y + 4 ≤ x ∨ x + 4 ≤ y) : (M.putN x v 4).get y 4 = M.get y 4 := by
  have := put4_get_far M x y v hx hy h
  rwa [hb_w4] at this

def hbM (x v : Int) : Mem := (p8.putN x (v % 4294967296) 4).putN (plus x 4) (v / 4294967296) 4
def hbN (x v w : Int) : Mem := (hbM x v).putN (x + 1) w 4
theorem hbM_R (x v : Int) : (hbM x v).R = p8.R := by rw [hbM, Mem.putN_R, Mem.putN_R]
theorem hbN_R (x v w : Int) : (hbN x v w).R = p8.R := by rw [hbN, Mem.putN_R, hbM_R]

theorem p8_ok : p8.Ok := Mem.mapN_ok Mem.zero_ok _ _ (by decide) (by decide)

theorem hb_can (x : Nat) (hx : x < 2000) : p8.canK x 8 2 = true := by
  rw [canK_iff]
  intro t ht
  rw [lack_can p8_ok _ (plus_nn _ _) 2 (by simp)]
  exact p8_can rfl _ 2 (by decide) (plus_nn _ _) (by unfold plus; omega)

theorem hb_lay (x : Nat) (v : Int) (hx : x < 2000) : p8.wr8M x v = hbM x v := by
  rw [Mem.wr8M, if_pos (hb_can x hx), hbM]

theorem hb_read {M : Mem} (hR : M.R = p8.R) (y : Nat) (hy : y + 4 ≤ 2048) : M.readK y 4 1 = true ∧ M.readV y 4 1 = M.get y (widthI 4).toNat := by
  have h := p8_bad hR y 1 (widthI 4).toNat (by decide) (by omega) (by rw [hb_w4]; omega)
  exact ⟨by rw [Mem.readK, show rightI 1 = 1 from rfl, h]; rfl, by rw [Mem.readV, show rightI 1 = 1 from rfl, h]⟩

theorem hb_rd8 (x : Nat) (v : Int) (hx : x < 2000) (h0 : 0 ≤ v) (h1 : v < 18446744073709551616) : (hbM x v).rd8K x = true ∧ (hbM x v).rd8V x = v := by
  have e4 : plus (x : Int) 4 = ((x + 4 : Nat) : Int) := by unfold plus; omega
  have a := hb_read (hbM_R x v) x (by omega)
  have b := hb_read (hbM_R x v) (x + 4) (by omega)
  have k : (hbM x v).rd8K x = true := by rw [Mem.rd8K, e4, a.1, b.1]; rfl
  refine ⟨k, ?_⟩
  rw [Mem.rd8V, if_pos k, e4, a.2, b.2, hbM, e4, hb_w4, hb_far _ _ _ _ (by omega) (by omega) (by omega), hb_put _ _ _ (by omega) (by omega) (by omega), hb_put _ _ _ (by omega) (by omega) (by omega)]
  omega

theorem hb_write (x : Nat) (v w : Int) (hx : x < 2000) : (hbM x v).writeK ((x : Int) + 1) 4 = true ∧ (hbM x v).writeM ((x : Int) + 1) 4 w = hbN x v w := by
  have h := p8_bad (hbM_R x v) ((x : Int) + 1) 2 (widthI 4).toNat (by decide) (by omega) (by rw [hb_w4]; omega)
  exact ⟨by rw [Mem.writeK, h]; rfl, by rw [Mem.writeM, h, hb_w4, hbN]⟩

theorem hb_load (x : Nat) (v w : Int) (hx : x < 2000) (h0 : 0 ≤ w) (h1 : w < 4294967296) : (hbN x v w).readK ((x : Int) + 1) 4 1 = true ∧ (hbN x v w).readV ((x : Int) + 1) 4 1 = w := by
  have h := hb_read (hbN_R x v w) (x + 1) (by omega)
  have e : ((x + 1 : Nat) : Int) = (x : Int) + 1 := by omega
  rw [e] at h
  refine ⟨h.1, ?_⟩
  rw [h.2, hbN, hb_w4, ← e, hb_put _ _ _ (by omega) h0 h1]

theorem hb_load1 (x : Nat) (v w : Int) (hx : x < 2000) (h0 : 0 ≤ w) (h1 : w < 4294967296) : (hbN x v w).readK ((x : Int) + 2) 1 1 = true ∧ (hbN x v w).readV ((x : Int) + 2) 1 1 = w / 256 % 256 := by
  have h := p8_bad (hbN_R x v w) ((x : Int) + 2) 1 (widthI 1).toNat (by decide) (by omega) (by rw [hb_w1]; omega)
  refine ⟨by rw [Mem.readK, show rightI 1 = 1 from rfl, h]; rfl, ?_⟩
  rw [Mem.readV, show rightI 1 = 1 from rfl, h, hb_w1]
  have e : (x : Int) + 2 = ((x + 2 : Nat) : Int) := by omega
  dsimp only
  rw [e, Mem.get1 _ _ (by omega), hbN, Mem.putN_lt _ _ _ _ (by omega) (by omega), if_pos (by omega), show 8 * (x + 2 - ((x : Int) + 1).toNat) = 8 from by omega]
  rfl

theorem hb_no {M : Mem} (hR : M.R = p8.R) : M.writeK 5000 1 = false := by
  have h : M.bad 5000 2 (widthI 1).toNat = some 0 := bad_some M 5000 2 _ 0 (by decide) (fun t ht => by omega) (by
    have : plus 5000 0 = 5000 := by decide
    rw [this]
    simp only [Mem.can, hR]
    decide +kernel)
  rw [Mem.writeK, h]
  rfl
end Go.Proofs.Ytncafchgdgmeaaa
