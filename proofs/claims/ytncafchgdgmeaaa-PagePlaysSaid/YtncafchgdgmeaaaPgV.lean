/-
  Package page: Rights, by its contract.
-/
import Derived.Test.YtncafchgdgmeaaaPgA
namespace Go.Proofs.Ytncafchgdgmeaaa
open Go Go.RowKit
set_option linter.unusedVariables false
set_option linter.unusedSimpArgs false

set_option maxRecDepth 100000 in
set_option maxHeartbeats 400000 in
theorem Rights_any (a pb : Nat) (p : Int) (w : World) (M : Mem) (hM : IsMem w a pb M) :
    Calls Try.prog 23 #[.pointer (some ⟨a, 0, none⟩), .int .i64 p] w fun e w' => e = .returned (.int .i64 (M.rights p)) ∧ w = w' := by
  by_cases h1 : p < 0
  · clear hM
    go_enter Try.func23, Try.ntmps23
    go_wp2
    go_ret
    exact ⟨by simp [Mem.rights, h1], rfl⟩
  · by_cases h2 : 64 ≤ p
    · clear hM
      go_enter Try.func23, Try.ntmps23
      go_wp2
      go_ret
      exact ⟨by simp [Mem.rights, h2], rfl⟩
    · obtain ⟨c, hc, c0⟩ := hM.c0
      have cR := hM.cR p.toNat (by omega)
      clear hM
      have h1' : 0 ≤ p := by omega
      have h2' : p < 64 := by omega
      go_enter Try.func23, Try.ntmps23
      go_wp2
      go_ret
      refine ⟨?_, rfl⟩
      have : ¬ (p < 0 ∨ 64 ≤ p) := by omega
      simp [Mem.rights, this]

end Go.Proofs.Ytncafchgdgmeaaa
