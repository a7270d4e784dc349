/-
  The law DecodeForms: numbers.
-/
import Derived.Test.YtpockhoacfkjaaaDfA
namespace Go.Proofs.Ytpockhoacfkjaaa
open Go Go.RowKit
set_option linter.unusedVariables false
set_option linter.unusedSimpArgs false

theorem or_low (c k : Int) (hc : (c == 24 || c == 88 || c == 152 || c == 216) = true) (hk : 0 ≤ k ∧ k < 8) : bits .or .u8 c k = c + k := by
  have h : ∀ a : Fin 8, bits .or .u8 24 (a.val : Int) = 24 + (a.val : Int) ∧ bits .or .u8 88 (a.val : Int) = 88 + (a.val : Int) ∧ bits .or .u8 152 (a.val : Int) = 152 + (a.val : Int) ∧ bits .or .u8 216 (a.val : Int) = 216 + (a.val : Int) := by decide +kernel
  have := h ⟨k.toNat, by omega⟩
  simp only [show ((k.toNat : Nat) : Int) = k by omega] at this
  simp only [Bool.or_eq_true, beq_iff_eq] at hc
  rcases hc with ((rfl | rfl) | rfl) | rfl
  · exact this.1
  · exact this.2.1
  · exact this.2.2.1
  · exact this.2.2.2

theorem imm8_v (v : Int) : wrap32 (IntKind.i8.wrap v) % 4294967296 = sx8 (by0 v) := by
  have e : IntKind.i8.wrap v = if v % 256 < 128 then v % 256 else v % 256 - 256 := by
    by_cases h : v % 256 < 128
    · rw [if_pos h]
      have : (decide (v % 2 ^ IntKind.i8.bits ≥ 2 ^ (IntKind.i8.bits - 1))) = false := by
        rw [decide_eq_false_iff_not]
        show ¬ (v % 256 ≥ 128)
        omega
      unfold IntKind.wrap
      simp only [this, Bool.and_false]
      rfl
    · rw [if_neg h]
      have : (decide (v % 2 ^ IntKind.i8.bits ≥ 2 ^ (IntKind.i8.bits - 1))) = true := by
        rw [decide_eq_true_eq]
        show v % 256 ≥ 128
        omega
      unfold IntKind.wrap
      simp only [this, Bool.and_true]
      rfl
  rw [e]
  unfold wrap32 sx8 by0
  by_cases h : v % 256 < 128
  · rw [if_pos h, if_pos h]; omega
  · rw [if_neg h, if_neg h]; omega

theorem and7 (s : Int) (hs : 0 ≤ s ∧ s ≤ 255) : bits .and .u8 s 7 = s % 8 := by
  have h : ∀ a : Fin 256, bits .and .u8 (a.val : Int) 7 = (a.val : Int) % 8 := by decide +kernel
  have := h ⟨s.toNat, by omega⟩
  simpa only [show ((s.toNat : Nat) : Int) = s by omega] using this

end Go.Proofs.Ytpockhoacfkjaaa
