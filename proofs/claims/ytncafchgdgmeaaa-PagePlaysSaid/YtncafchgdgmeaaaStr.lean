/-
  Slices of bytes as strings. No condition.
-/
import Derived.Test.YtncafchgdgmeaaaPgJ
import Derived.Laws.BytesArg
namespace Go.Proofs.Ytncafchgdgmeaaa
open Go Go.RowKit
set_option linter.unusedVariables false
set_option linter.unusedSimpArgs false

theorem strOf_ints (s : ByteArray) : strOfNums (strInts s) = s := by
  have e : (strInts s).map (fun n => UInt8.ofNat n.toNat) = s.data.toList := by
    rw [strInts, List.map_map]
    conv => rhs; rw [← List.map_id s.data.toList]
    apply List.map_congr_left
    intro b _
    simp
  rw [strOfNums, e]

/-- A slice of bytes of one's own, as a string. -/
theorem own_string {w : World} {base : Nat} {l : List Int} {v : Value} (h : w.ownsRow base 5 1 v l.length (l.map (Value.int .u8))) :
    (convert 43 9 v).run Try.prog w = .ok (.string (strOfNums l)) w := by
  have hk := h
  obtain ⟨_, ⟨h1, h2⟩ | ⟨g, cap, cur, h1, _⟩⟩ := h
  · have : l = [] := List.length_eq_zero_iff.1 h2
    subst this
    rw [h1]
    exact run_convert_bytes_nil w 43 5 (by kernel_rfl) (by kernel_rfl) _ _ _ (by kernel_rfl)
  · rw [h1]
    refine run_convert_bytes_arg w 43 5 (by kernel_rfl) (by kernel_rfl) g 0 _ cap l rfl (fun i hi => ?_) _ (by kernel_rfl)
    have := hk.cells (g := g) (by rw [h1]; rfl) i (.int .u8 (l.getD i 0)) (by rw [List.getElem?_map, List.getD_eq_getElem?_getD, List.getElem?_eq_getElem hi]; rfl)
    rw [Nat.zero_add]
    rcases i with _ | i <;> simpa [Addr.add] using this

/-- A slice of one's own reads as its bytes. -/
theorem own_bysl {w : World} {base : Nat} {l : List Int} {v : Value} (h : w.ownsRow base 5 1 v l.length (l.map (Value.int .u8))) : ∃ g, BySl w v l g := by
  rcases h.2 with ⟨h1, h0⟩ | ⟨g, cap, cur, h1, hb, hg, hnc, hcm, hs, ht⟩
  · exact ⟨0, .inl ⟨h1, List.length_eq_zero_iff.1 h0⟩⟩
  · refine ⟨g, .inr ⟨0, cap, cur, _, _, h1, hg, fun i hi => ?_⟩⟩
    have e : (cur.toList.take (l.length * 1))[i]? = some (.int .u8 (l.getD i 0)) := by
      rw [ht, List.getElem?_map, List.getD_eq_getElem?_getD, List.getElem?_eq_getElem hi]; rfl
    rw [Nat.mul_one, List.getElem?_take, if_pos hi, Array.getElem?_toList] at e
    rw [Nat.zero_add]; exact e

theorem bysl_string {w : World} {g : Nat} {l : List Int} {v : Value} (h : BySl w v l g) : (convert 43 9 v).run Try.prog w = .ok (.string (strOfNums l)) w := by
  rcases h with ⟨rfl, rfl⟩ | ⟨o, c, C, T, f, rfl, hb, hc⟩
  · exact run_convert_bytes_nil w 43 5 (by kernel_rfl) (by kernel_rfl) _ _ _ (by kernel_rfl)
  · refine run_convert_bytes_arg w 43 5 (by kernel_rfl) (by kernel_rfl) g o _ c l rfl (fun i hi => ?_) _ (by kernel_rfl)
    have e := hc i hi
    rw [← cells_of hb] at e
    rcases i with _ | i <;> simpa [Addr.add] using e

end Go.Proofs.Ytncafchgdgmeaaa
