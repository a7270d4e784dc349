/-
  The check of known answers of the laws on operands, by its contract.
-/
import Derived.Test.YtncafchgdgmeaaaStF
import Derived.Test.YtncafchgdgmeaaaEqs
namespace Go.Proofs.Ytncafchgdgmeaaa
open Go Go.RowKit
set_option linter.unusedVariables false
set_option linter.unusedSimpArgs false

def oM1 : Mem := Mem.zero.mapN (0 : Int).toNat (1 : Int).toNat 3
def oS : St := ⟨fun i => if i = 3 then 16 else if i = 1 then 2 else 0, 0, false, false, false, false, false, false, false, 0⟩
def oO : Opd := ⟨3, 0, 8, 3, 1, 4⟩
def oO2 : Opd := ⟨3, 0, 256, -1, -1, 1⟩
def oM2 : Mem := oM1.putN 32 77 4

theorem oS_ok : oS.Ok := ⟨fun i => by simp only [oS]; split <;> (try split) <;> omega, by simp [oS], by simp [oS]⟩
theorem oO_ok : oO.Ok := ⟨by simp [oO], by simp [oO]⟩
theorem oO2_ok : oO2.Ok := ⟨by simp [oO2], by simp [oO2]⟩

theorem kn12_map : Mem.zero.mapB 0 1 3 = true := by decide +kernel
theorem kn12_place : oS.place oO = 32 := by decide +kernel
theorem kn12_bad : oM1.bad 32 2 (widthI 4).toNat = none := by decide +kernel
theorem kn12_wF : opWF oM1 oS oO 4 = Flt.zero := by decide +kernel
theorem kn12_wK : opWK oM1 oS oO 4 = true := by decide +kernel
theorem kn12_wM : opM oM1 oS oO 4 77 = oM2 := by
  rw [opM, if_pos (by rfl), kn12_place, show wd 4 = 4 from rfl, Mem.writeM, kn12_bad]
  rfl
theorem kn12_rV : opV oM2 oS oO 4 = 77 := by decide +kernel
theorem kn12_rF : opF oM2 oS oO 4 = Flt.zero := by decide +kernel
theorem kn12_rK : opK oM2 oS oO 4 = true := by decide +kernel
theorem kn12_8F : oM2.canF 252 8 2 = ⟨1, 0, 256, 2⟩ := by decide +kernel
theorem kn12_8K : oM2.canK 252 8 2 = false := by decide +kernel
theorem kn12_8M : oM2.wr8M 252 1 = oM2 := by rw [Mem.wr8M, if_neg (by rw [kn12_8K]; simp)]
theorem kn12_cF : opCanF oM2 oS oO2 4 3 = ⟨1, 0, 256, 1⟩ := by decide +kernel
theorem kn12_cK : opCanK oM2 oS oO2 4 3 = false := by decide +kernel

end Go.Proofs.Ytncafchgdgmeaaa
