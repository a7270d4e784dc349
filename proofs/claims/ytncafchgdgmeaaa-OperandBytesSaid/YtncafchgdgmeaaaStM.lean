/-
  The guest's state as an argument of a law, opened. No condition.
-/
import Derived.Test.YtncafchgdgmeaaaStA
import Derived.Test.YtncafchgdgmeaaaArgs
import Derived.Test.YtncafchgdgmeaaaPgL
namespace Go.Proofs.Ytncafchgdgmeaaa
open Go Go.RowKit Go.WideShapes Go.ChangeShapes
set_option linter.unusedVariables false
set_option linter.unusedSimpArgs false

theorem wf_u64 {n : Int} (h : (Lit.int .u64 n).wf = true) : 0 ≤ n ∧ n < 18446744073709551616 := by
  simp [Lit.wf, IntKind.min, IntKind.max, IntKind.signed, IntKind.bits] at h; omega

set_option maxRecDepth 100000 in
theorem open_state {H : Type} {enc : TypeId × Value → H} {w : World} {base : Nat} {spare : Nat → Bool} {held : Bool} {r : Reach} {b0 : Nat} {v : Value} {d : DataW H} {p : List MemPlace}
    (hv : Value.okWide Try.prog w r b0 65 v) (h : DataW.Trod enc Try.prog w base spare held 65 v d p) : ∃ s : St, v = .agg s.cells ∧ s.Ok := by
  obtain ⟨cs, rfl, hs, hc⟩ := open_leaves (t := 65) (by kernel_rfl) hv h
  have hs : cs.size = 17 := hs.trans (by kernel_rfl)
  obtain ⟨_, e0, z0, rfl, w0⟩ := hc 8 0 (.int .u32) (by kernel_rfl)
  obtain ⟨_, e1, z1, rfl, w1⟩ := hc 8 1 (.int .u32) (by kernel_rfl)
  obtain ⟨_, e2, z2, rfl, w2⟩ := hc 8 2 (.int .u32) (by kernel_rfl)
  obtain ⟨_, e3, z3, rfl, w3⟩ := hc 8 3 (.int .u32) (by kernel_rfl)
  obtain ⟨_, e4, z4, rfl, w4⟩ := hc 8 4 (.int .u32) (by kernel_rfl)
  obtain ⟨_, e5, z5, rfl, w5⟩ := hc 8 5 (.int .u32) (by kernel_rfl)
  obtain ⟨_, e6, z6, rfl, w6⟩ := hc 8 6 (.int .u32) (by kernel_rfl)
  obtain ⟨_, e7, z7, rfl, w7⟩ := hc 8 7 (.int .u32) (by kernel_rfl)
  obtain ⟨_, e8, z8, rfl, w8⟩ := hc 8 8 (.int .u32) (by kernel_rfl)
  obtain ⟨_, e9, z9, rfl⟩ := hc 8 9 .bool (by kernel_rfl)
  obtain ⟨_, e10, z10, rfl⟩ := hc 8 10 .bool (by kernel_rfl)
  obtain ⟨_, e11, z11, rfl⟩ := hc 8 11 .bool (by kernel_rfl)
  obtain ⟨_, e12, z12, rfl⟩ := hc 8 12 .bool (by kernel_rfl)
  obtain ⟨_, e13, z13, rfl⟩ := hc 8 13 .bool (by kernel_rfl)
  obtain ⟨_, e14, z14, rfl⟩ := hc 8 14 .bool (by kernel_rfl)
  obtain ⟨_, e15, z15, rfl⟩ := hc 8 15 .bool (by kernel_rfl)
  obtain ⟨_, e16, z16, rfl, w16⟩ := hc 8 16 (.int .u64) (by kernel_rfl)
  have w0 := wf_u32 w0
  have w1 := wf_u32 w1
  have w2 := wf_u32 w2
  have w3 := wf_u32 w3
  have w4 := wf_u32 w4
  have w5 := wf_u32 w5
  have w6 := wf_u32 w6
  have w7 := wf_u32 w7
  have w8 := wf_u32 w8
  have w16 := wf_u64 w16
  refine ⟨⟨fun i => if i = 0 then z0 else if i = 1 then z1 else if i = 2 then z2 else if i = 3 then z3 else if i = 4 then z4 else if i = 5 then z5 else if i = 6 then z6 else if i = 7 then z7 else 0, z8, z9, z10, z11, z12, z13, z14, z15, z16⟩, ?_, ?_, ?_, ?_⟩
  · congr 1
    apply Array.ext_getElem?
    intro j
    by_cases hj : j < 17
    · match j, hj with
      | 0, _ => exact e0
      | 1, _ => exact e1
      | 2, _ => exact e2
      | 3, _ => exact e3
      | 4, _ => exact e4
      | 5, _ => exact e5
      | 6, _ => exact e6
      | 7, _ => exact e7
      | 8, _ => exact e8
      | 9, _ => exact e9
      | 10, _ => exact e10
      | 11, _ => exact e11
      | 12, _ => exact e12
      | 13, _ => exact e13
      | 14, _ => exact e14
      | 15, _ => exact e15
      | 16, _ => exact e16
      | j + 17, h => omega
    · rw [Array.getElem?_eq_none (by omega), Array.getElem?_eq_none (by rw [St.size]; omega)]
  · intro i
    simp only
    repeat' split
    all_goals omega
  · exact w8
  · exact w16

end Go.Proofs.Ytncafchgdgmeaaa
