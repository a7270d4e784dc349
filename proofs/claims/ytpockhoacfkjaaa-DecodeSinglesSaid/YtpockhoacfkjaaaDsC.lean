/-
  The law DecodeSingles: the walk, for every input.
-/
import Derived.Test.YtpockhoacfkjaaaDsB
namespace Go.Proofs.Ytpockhoacfkjaaa
open Go Go.RowKit

theorem DecodeSingles_law (a b v : Int) (ha : 0 ≤ a ∧ a ≤ 255) (hb : 0 ≤ b ∧ b ≤ 255) (hv : 0 ≤ v ∧ v < 4294967296) (w : World) :
    Calls Try.prog 7 #[.int .u8 a, .int .u8 b, .int .u32 v] w fun e w' => e = .returned (.bool true) ∧ Upd [] w w' :=
  DecodeSingles_any (a.tmod 8) (b.tmod 16) v a b rfl rfl (by rw [Int.tmod_eq_emod_of_nonneg ha.1]; omega) (by rw [Int.tmod_eq_emod_of_nonneg hb.1]; omega) hv w
end Go.Proofs.Ytpockhoacfkjaaa
