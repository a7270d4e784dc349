/-
  The law DecodeForms: the walk.
-/
import Derived.Test.YtpockhoacfkjaaaDfD
import Derived.Test.YtpockhoacfkjaaaDfE
import Derived.Test.YtpockhoacfkjaaaDfF
namespace Go.Proofs.Ytpockhoacfkjaaa
open Go Go.RowKit
set_option linter.unusedVariables false
set_option linter.unusedSimpArgs false

theorem DecodeForms_walk (o r s v : Int) (ho : 0 ≤ o ∧ o ≤ 255) (hr : 0 ≤ r ∧ r ≤ 255) (hs : 0 ≤ s ∧ s ≤ 255) (hv : 0 ≤ v ∧ v < 4294967296) (w : World) :
    Calls Try.prog 5 #[.int .u8 o, .int .u8 r, .int .u8 s, .int .u32 v] w fun e w' => e = .returned (.bool true) ∧ Upd [] w w' := by
  have h1 := Int.tmod_nonneg 4 ho.1
  have h2 := Int.tmod_lt_of_pos o (b := 4) (by decide)
  have h3 := Int.tmod_nonneg 8 hr.1
  have h4 := Int.tmod_lt_of_pos r (b := 8) (by decide)
  have hk : 0 ≤ r.tmod 8 ∧ r.tmod 8 < 8 := ⟨h3, h4⟩
  have hm : o.tmod 4 = 0 ∨ o.tmod 4 = 1 ∨ o.tmod 4 = 2 ∨ o.tmod 4 = 3 := by omega
  clear h1 h2 h3 h4
  rcases hm with h | h | h | h
  · by_cases h4 : r.tmod 8 = 4
    · by_cases hb : s % 8 = 5
      · by_cases hx : s / 8 % 8 = 4
        · exact forms_abs_4 o r h h4 s hs hb hx v hv w
        · exact forms_abs_x o r h h4 s hs hb (s / 8 % 8) rfl hx (s / 64).toNat (by omega) (scOf s) rfl v hv w
      · by_cases hx : s / 8 % 8 = 4
        · exact forms_none_4 o r h h4 s hs (s % 8) rfl hb hx v hv w
        · exact forms_none_x o r h h4 s hs (s % 8) rfl hb (s / 8 % 8) rfl hx (s / 64).toNat (by omega) (scOf s) rfl v hv w
    · by_cases h5 : r.tmod 8 = 5
      · exact forms_abs o r h h5 s v hv w
      · exact forms_none o r h _ rfl hk h4 h5 s v hv w
  · by_cases h4 : r.tmod 8 = 4
    · by_cases hx : s / 8 % 8 = 4
      · exact forms_d8_4 o r h h4 s hs (s % 8) rfl hx v hv w
      · exact forms_d8_x o r h h4 s hs (s % 8) rfl (s / 8 % 8) rfl hx (s / 64).toNat (by omega) (scOf s) rfl v hv w
    · exact forms_d8 o r h _ rfl hk h4 s v hv w
  · by_cases h4 : r.tmod 8 = 4
    · by_cases hx : s / 8 % 8 = 4
      · exact forms_d32_4 o r h h4 s hs (s % 8) rfl hx v hv w
      · exact forms_d32_x o r h h4 s hs (s % 8) rfl (s / 8 % 8) rfl hx (s / 64).toNat (by omega) (scOf s) rfl v hv w
    · exact forms_d32 o r h _ rfl hk h4 s v hv w
  · exact forms_reg o r h _ rfl hk s v hv w
end Go.Proofs.Ytpockhoacfkjaaa
