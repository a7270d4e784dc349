/-
  No cell of these rows narrows 'for every input' (looked for: loops, veiled, ifaces, maps, wideKeys, modest, calm, conditions, laid).
  DERIVED. THE GIVEN ROWS OF THIS SEAT. 9 by the template 'for every input the law returns true; each argument reads behind the call as it read before'; 0 by the template 'total and deterministic' (their statements: YthakgjpejhjaoaaGreatTotals.lean).
  GIVEN WITH THE SEED: the statements are not yours to turn. If you find one false, say at which input.
  Laid BY PROGRAM, IN A SANDBOX (cutbox-rows.mjs): the forced cells as the released guide's own fill.sh prints them over the translation 8694d1bff42bce4e… (all of the seat's roots in one cut). By AI agents, Wed Nov 11 2026. No macro, syntax, notation, axiom, sorry.
-/
import Derived.Test.YthakgjpejhjaoaaGreatChecked
import GoSem.Claim
import GoSem.ClaimJoined
import GoSem.ClaimMapViews
import Derived.JoinedTies
import Derived.KernelRfl
namespace Go.Proofs.YthakgjpejhjaoaaGreat
/- THE CELL 'sum', in the pinned program and in every row, IS THE sha256 OF THE DUMP (.gsa) THAT YthakgjpejhjaoaaGreatProg.lean LOADS. Nothing in Lean hashes anything: it is a label: what it is worth is what the hold of that sum in a sandbox is worth. -/
noncomputable def Tryz.pinned : Pinned := { name := "ythakgjpejhjaoaagreat", sum := "8694d1bff42bce4eba96b91abd3a4b05c862ceda27cea87e980860b449322b8c", checked := Tryz.checked }
namespace Rows
def none {H : Type} : Left H := { results := [], args := [] }

/-- 'ferrymanlaw13.StepStack': WHATEVER THE INPUT: true; the input reads as it did. -/
def stepStackSpec : ChangeSpec := { name := "stepStack", fn := fun _ => fun
  | [d1, d2, d3] => { results := [.lit (.bool true)], args := [d1, d2, d3] }
  | _ => none }
def stepStackRow : OpenClaim := { program := "ythakgjpejhjaoaagreat", sum := "8694d1bff42bce4eba96b91abd3a4b05c862ceda27cea87e980860b449322b8c", func := "ferryman/ferrymanlaw13.StepStack", spec := "stepStack", inPlace := ["math.Float64frombits", "math.Float64bits"], unfollowed := true, recurses := true, apart := false }
def StepStackSaid : Prop := stepStackRow.holds Tryz.pinned (OpenSpec.ofChange stepStackSpec)

/-- ITS FALSE NEIGHBOUR: 'it returns false'. Refute it at one input. -/
def stepStackWrong : ChangeSpec := { name := "stepStack", fn := fun _ => fun
  | [d1, d2, d3] => { results := [.lit (.bool false)], args := [d1, d2, d3] }
  | _ => none }
def StepStackWrongFalsely : Prop := stepStackRow.holds Tryz.pinned (OpenSpec.ofChange stepStackWrong)

/-- 'ferrymanlaw13.StepRows': WHATEVER THE INPUT: true; the input reads as it did. -/
def stepRowsSpec : ChangeSpec := { name := "stepRows", fn := fun _ => fun
  | [d1, d2, d3, d4] => { results := [.lit (.bool true)], args := [d1, d2, d3, d4] }
  | _ => none }
def stepRowsRow : OpenClaim := { program := "ythakgjpejhjaoaagreat", sum := "8694d1bff42bce4eba96b91abd3a4b05c862ceda27cea87e980860b449322b8c", func := "ferryman/ferrymanlaw13.StepRows", spec := "stepRows", inPlace := ["math.Float64frombits", "math.Float64bits"], unfollowed := true, recurses := true, apart := false }
def StepRowsSaid : Prop := stepRowsRow.holds Tryz.pinned (OpenSpec.ofChange stepRowsSpec)

/-- ITS FALSE NEIGHBOUR: 'it returns false'. Refute it at one input. -/
def stepRowsWrong : ChangeSpec := { name := "stepRows", fn := fun _ => fun
  | [d1, d2, d3, d4] => { results := [.lit (.bool false)], args := [d1, d2, d3, d4] }
  | _ => none }
def StepRowsWrongFalsely : Prop := stepRowsRow.holds Tryz.pinned (OpenSpec.ofChange stepRowsWrong)

/-- 'ferrymanlaw13.StepNumbers': WHATEVER THE INPUT: true; the input reads as it did. -/
def stepNumbersSpec : ChangeSpec := { name := "stepNumbers", fn := fun _ => fun
  | [d1, d2, d3] => { results := [.lit (.bool true)], args := [d1, d2, d3] }
  | _ => none }
def stepNumbersRow : OpenClaim := { program := "ythakgjpejhjaoaagreat", sum := "8694d1bff42bce4eba96b91abd3a4b05c862ceda27cea87e980860b449322b8c", func := "ferryman/ferrymanlaw13.StepNumbers", spec := "stepNumbers", inPlace := ["math.Float64frombits", "math.Float64bits"], unfollowed := true, recurses := true, apart := false }
def StepNumbersSaid : Prop := stepNumbersRow.holds Tryz.pinned (OpenSpec.ofChange stepNumbersSpec)

/-- ITS FALSE NEIGHBOUR: 'it returns false'. Refute it at one input. -/
def stepNumbersWrong : ChangeSpec := { name := "stepNumbers", fn := fun _ => fun
  | [d1, d2, d3] => { results := [.lit (.bool false)], args := [d1, d2, d3] }
  | _ => none }
def StepNumbersWrongFalsely : Prop := stepNumbersRow.holds Tryz.pinned (OpenSpec.ofChange stepNumbersWrong)

/-- 'ferrymanlaw13.StepMoves': WHATEVER THE INPUT: true; the input reads as it did. -/
def stepMovesSpec : ChangeSpec := { name := "stepMoves", fn := fun _ => fun
  | [d1, d2, d3, d4] => { results := [.lit (.bool true)], args := [d1, d2, d3, d4] }
  | _ => none }
def stepMovesRow : OpenClaim := { program := "ythakgjpejhjaoaagreat", sum := "8694d1bff42bce4eba96b91abd3a4b05c862ceda27cea87e980860b449322b8c", func := "ferryman/ferrymanlaw13.StepMoves", spec := "stepMoves", inPlace := ["math.Float64frombits", "math.Float64bits"], unfollowed := true, recurses := true, apart := false }
def StepMovesSaid : Prop := stepMovesRow.holds Tryz.pinned (OpenSpec.ofChange stepMovesSpec)

/-- ITS FALSE NEIGHBOUR: 'it returns false'. Refute it at one input. -/
def stepMovesWrong : ChangeSpec := { name := "stepMoves", fn := fun _ => fun
  | [d1, d2, d3, d4] => { results := [.lit (.bool false)], args := [d1, d2, d3, d4] }
  | _ => none }
def StepMovesWrongFalsely : Prop := stepMovesRow.holds Tryz.pinned (OpenSpec.ofChange stepMovesWrong)

/-- 'ferrymanlaw13.StepConds': WHATEVER THE INPUT: true; the input reads as it did. -/
def stepCondsSpec : ChangeSpec := { name := "stepConds", fn := fun _ => fun
  | [d1, d2, d3, d4] => { results := [.lit (.bool true)], args := [d1, d2, d3, d4] }
  | _ => none }
def stepCondsRow : OpenClaim := { program := "ythakgjpejhjaoaagreat", sum := "8694d1bff42bce4eba96b91abd3a4b05c862ceda27cea87e980860b449322b8c", func := "ferryman/ferrymanlaw13.StepConds", spec := "stepConds", inPlace := ["math.Float64frombits", "math.Float64bits"], unfollowed := true, recurses := true, apart := false }
def StepCondsSaid : Prop := stepCondsRow.holds Tryz.pinned (OpenSpec.ofChange stepCondsSpec)

/-- ITS FALSE NEIGHBOUR: 'it returns false'. Refute it at one input. -/
def stepCondsWrong : ChangeSpec := { name := "stepConds", fn := fun _ => fun
  | [d1, d2, d3, d4] => { results := [.lit (.bool false)], args := [d1, d2, d3, d4] }
  | _ => none }
def StepCondsWrongFalsely : Prop := stepCondsRow.holds Tryz.pinned (OpenSpec.ofChange stepCondsWrong)

/-- 'ferrymanlaw13.StepWide': WHATEVER THE INPUT: true; the input reads as it did. -/
def stepWideSpec : ChangeSpec := { name := "stepWide", fn := fun _ => fun
  | [d1, d2, d3, d4] => { results := [.lit (.bool true)], args := [d1, d2, d3, d4] }
  | _ => none }
def stepWideRow : OpenClaim := { program := "ythakgjpejhjaoaagreat", sum := "8694d1bff42bce4eba96b91abd3a4b05c862ceda27cea87e980860b449322b8c", func := "ferryman/ferrymanlaw13.StepWide", spec := "stepWide", inPlace := ["math.Float64frombits", "math.Float64bits"], unfollowed := true, recurses := true, apart := false }
def StepWideSaid : Prop := stepWideRow.holds Tryz.pinned (OpenSpec.ofChange stepWideSpec)

/-- ITS FALSE NEIGHBOUR: 'it returns false'. Refute it at one input. -/
def stepWideWrong : ChangeSpec := { name := "stepWide", fn := fun _ => fun
  | [d1, d2, d3, d4] => { results := [.lit (.bool false)], args := [d1, d2, d3, d4] }
  | _ => none }
def StepWideWrongFalsely : Prop := stepWideRow.holds Tryz.pinned (OpenSpec.ofChange stepWideWrong)

/-- 'ferrymanlaw13.StepBoth': WHATEVER THE INPUT: true; the input reads as it did. -/
def stepBothSpec : ChangeSpec := { name := "stepBoth", fn := fun _ => fun
  | [d1, d2, d3, d4] => { results := [.lit (.bool true)], args := [d1, d2, d3, d4] }
  | _ => none }
def stepBothRow : OpenClaim := { program := "ythakgjpejhjaoaagreat", sum := "8694d1bff42bce4eba96b91abd3a4b05c862ceda27cea87e980860b449322b8c", func := "ferryman/ferrymanlaw13.StepBoth", spec := "stepBoth", inPlace := ["math.Float64frombits", "math.Float64bits"], unfollowed := true, recurses := true, apart := false }
def StepBothSaid : Prop := stepBothRow.holds Tryz.pinned (OpenSpec.ofChange stepBothSpec)

/-- ITS FALSE NEIGHBOUR: 'it returns false'. Refute it at one input. -/
def stepBothWrong : ChangeSpec := { name := "stepBoth", fn := fun _ => fun
  | [d1, d2, d3, d4] => { results := [.lit (.bool false)], args := [d1, d2, d3, d4] }
  | _ => none }
def StepBothWrongFalsely : Prop := stepBothRow.holds Tryz.pinned (OpenSpec.ofChange stepBothWrong)

/-- 'ferrymanlaw13.StepFetches': WHATEVER THE INPUT: true; the input reads as it did. -/
def stepFetchesSpec : ChangeSpec := { name := "stepFetches", fn := fun _ => fun
  | [d1, d2] => { results := [.lit (.bool true)], args := [d1, d2] }
  | _ => none }
def stepFetchesRow : OpenClaim := { program := "ythakgjpejhjaoaagreat", sum := "8694d1bff42bce4eba96b91abd3a4b05c862ceda27cea87e980860b449322b8c", func := "ferryman/ferrymanlaw13.StepFetches", spec := "stepFetches", inPlace := ["math.Float64frombits", "math.Float64bits"], unfollowed := true, recurses := true, apart := false }
def StepFetchesSaid : Prop := stepFetchesRow.holds Tryz.pinned (OpenSpec.ofChange stepFetchesSpec)

/-- ITS FALSE NEIGHBOUR: 'it returns false'. Refute it at one input. -/
def stepFetchesWrong : ChangeSpec := { name := "stepFetches", fn := fun _ => fun
  | [d1, d2] => { results := [.lit (.bool false)], args := [d1, d2] }
  | _ => none }
def StepFetchesWrongFalsely : Prop := stepFetchesRow.holds Tryz.pinned (OpenSpec.ofChange stepFetchesWrong)

/-- 'ferrymanlaw13.StepFaults': WHATEVER THE INPUT: true; the input reads as it did. -/
def stepFaultsSpec : ChangeSpec := { name := "stepFaults", fn := fun _ => fun
  | [d1, d2] => { results := [.lit (.bool true)], args := [d1, d2] }
  | _ => none }
def stepFaultsRow : OpenClaim := { program := "ythakgjpejhjaoaagreat", sum := "8694d1bff42bce4eba96b91abd3a4b05c862ceda27cea87e980860b449322b8c", func := "ferryman/ferrymanlaw13.StepFaults", spec := "stepFaults", inPlace := ["math.Float64frombits", "math.Float64bits"], unfollowed := true, recurses := true, apart := false }
def StepFaultsSaid : Prop := stepFaultsRow.holds Tryz.pinned (OpenSpec.ofChange stepFaultsSpec)

/-- ITS FALSE NEIGHBOUR: 'it returns false'. Refute it at one input. -/
def stepFaultsWrong : ChangeSpec := { name := "stepFaults", fn := fun _ => fun
  | [d1, d2] => { results := [.lit (.bool false)], args := [d1, d2] }
  | _ => none }
def StepFaultsWrongFalsely : Prop := stepFaultsRow.holds Tryz.pinned (OpenSpec.ofChange stepFaultsWrong)

/- THE SECOND FORM. 'bulk': how many values and letters a reading holds, each counted each time it is reached (what is shared counts as often as it is met; a slice's spare places count too). A statement '..UptoSaid' is the law's where the arguments, and the package variables that the reading takes, are together of bulk at most 1048576: NARROWER than '..Said'. Prove '..Said' where nothing that the law and all that it calls make is longer than what came in: it says more and counts as full. Else prove '..UptoSaid'. A law counts once. -/
mutual
def uptoBulk {H : Type} : DataW H → Nat
  | .lit (.string bytes) => bytes.length + 1
  | .lit _ => 1
  | .nil => 1
  | .ptr d => uptoBulk d + 1
  | .slice elems spare => uptoBulkAll elems + uptoBulkAll spare + 1
  | .agg parts => uptoBulkAll parts + 1
  | .iface _ d => uptoBulk d + 1
  | .map entries => uptoBulkEntries entries + 1
  | .held _ => 1
def uptoBulkAll {H : Type} : List (DataW H) → Nat
  | [] => 0
  | d :: r => uptoBulk d + uptoBulkAll r
def uptoBulkEntries {H : Type} : List (Lit × DataW H) → Nat
  | [] => 0
  | x :: r => uptoBulkEntry x + uptoBulkEntries r
def uptoBulkEntry {H : Type} : Lit × DataW H → Nat
  | (.string bytes, d) => bytes.length + uptoBulk d + 1
  | (_, d) => uptoBulk d + 1
 end
def uptoSmall : (H : Type) → List (DataW H) → Bool := fun _ ds => decide (uptoBulkAll ds ≤ 1048576)
def OpenSpec.upto (s : _root_.Go.ChangeSpec) : _root_.Go.OpenSpec := { _root_.Go.OpenSpec.ofChange s with cond := some uptoSmall }

/-- 'ferrymanlaw13.StepStack', WHERE WHAT IT READS IS OF BULK AT MOST 1048576: true; the input reads as it did. -/
def stepStackUptoRow : OpenClaim := { program := "ythakgjpejhjaoaagreat", sum := "8694d1bff42bce4eba96b91abd3a4b05c862ceda27cea87e980860b449322b8c", func := "ferryman/ferrymanlaw13.StepStack", spec := "stepStack", inPlace := ["math.Float64frombits", "math.Float64bits"], unfollowed := true, recurses := true, apart := false, narrowed := true }
def StepStackUptoSaid : Prop := stepStackUptoRow.holds Tryz.pinned (OpenSpec.upto stepStackSpec)

/-- 'ferrymanlaw13.StepRows', WHERE WHAT IT READS IS OF BULK AT MOST 1048576: true; the input reads as it did. -/
def stepRowsUptoRow : OpenClaim := { program := "ythakgjpejhjaoaagreat", sum := "8694d1bff42bce4eba96b91abd3a4b05c862ceda27cea87e980860b449322b8c", func := "ferryman/ferrymanlaw13.StepRows", spec := "stepRows", inPlace := ["math.Float64frombits", "math.Float64bits"], unfollowed := true, recurses := true, apart := false, narrowed := true }
def StepRowsUptoSaid : Prop := stepRowsUptoRow.holds Tryz.pinned (OpenSpec.upto stepRowsSpec)

/-- 'ferrymanlaw13.StepNumbers', WHERE WHAT IT READS IS OF BULK AT MOST 1048576: true; the input reads as it did. -/
def stepNumbersUptoRow : OpenClaim := { program := "ythakgjpejhjaoaagreat", sum := "8694d1bff42bce4eba96b91abd3a4b05c862ceda27cea87e980860b449322b8c", func := "ferryman/ferrymanlaw13.StepNumbers", spec := "stepNumbers", inPlace := ["math.Float64frombits", "math.Float64bits"], unfollowed := true, recurses := true, apart := false, narrowed := true }
def StepNumbersUptoSaid : Prop := stepNumbersUptoRow.holds Tryz.pinned (OpenSpec.upto stepNumbersSpec)

/-- 'ferrymanlaw13.StepMoves', WHERE WHAT IT READS IS OF BULK AT MOST 1048576: true; the input reads as it did. -/
def stepMovesUptoRow : OpenClaim := { program := "ythakgjpejhjaoaagreat", sum := "8694d1bff42bce4eba96b91abd3a4b05c862ceda27cea87e980860b449322b8c", func := "ferryman/ferrymanlaw13.StepMoves", spec := "stepMoves", inPlace := ["math.Float64frombits", "math.Float64bits"], unfollowed := true, recurses := true, apart := false, narrowed := true }
def StepMovesUptoSaid : Prop := stepMovesUptoRow.holds Tryz.pinned (OpenSpec.upto stepMovesSpec)

/-- 'ferrymanlaw13.StepConds', WHERE WHAT IT READS IS OF BULK AT MOST 1048576: true; the input reads as it did. -/
def stepCondsUptoRow : OpenClaim := { program := "ythakgjpejhjaoaagreat", sum := "8694d1bff42bce4eba96b91abd3a4b05c862ceda27cea87e980860b449322b8c", func := "ferryman/ferrymanlaw13.StepConds", spec := "stepConds", inPlace := ["math.Float64frombits", "math.Float64bits"], unfollowed := true, recurses := true, apart := false, narrowed := true }
def StepCondsUptoSaid : Prop := stepCondsUptoRow.holds Tryz.pinned (OpenSpec.upto stepCondsSpec)

/-- 'ferrymanlaw13.StepWide', WHERE WHAT IT READS IS OF BULK AT MOST 1048576: true; the input reads as it did. -/
def stepWideUptoRow : OpenClaim := { program := "ythakgjpejhjaoaagreat", sum := "8694d1bff42bce4eba96b91abd3a4b05c862ceda27cea87e980860b449322b8c", func := "ferryman/ferrymanlaw13.StepWide", spec := "stepWide", inPlace := ["math.Float64frombits", "math.Float64bits"], unfollowed := true, recurses := true, apart := false, narrowed := true }
def StepWideUptoSaid : Prop := stepWideUptoRow.holds Tryz.pinned (OpenSpec.upto stepWideSpec)

/-- 'ferrymanlaw13.StepBoth', WHERE WHAT IT READS IS OF BULK AT MOST 1048576: true; the input reads as it did. -/
def stepBothUptoRow : OpenClaim := { program := "ythakgjpejhjaoaagreat", sum := "8694d1bff42bce4eba96b91abd3a4b05c862ceda27cea87e980860b449322b8c", func := "ferryman/ferrymanlaw13.StepBoth", spec := "stepBoth", inPlace := ["math.Float64frombits", "math.Float64bits"], unfollowed := true, recurses := true, apart := false, narrowed := true }
def StepBothUptoSaid : Prop := stepBothUptoRow.holds Tryz.pinned (OpenSpec.upto stepBothSpec)

/-- 'ferrymanlaw13.StepFetches', WHERE WHAT IT READS IS OF BULK AT MOST 1048576: true; the input reads as it did. -/
def stepFetchesUptoRow : OpenClaim := { program := "ythakgjpejhjaoaagreat", sum := "8694d1bff42bce4eba96b91abd3a4b05c862ceda27cea87e980860b449322b8c", func := "ferryman/ferrymanlaw13.StepFetches", spec := "stepFetches", inPlace := ["math.Float64frombits", "math.Float64bits"], unfollowed := true, recurses := true, apart := false, narrowed := true }
def StepFetchesUptoSaid : Prop := stepFetchesUptoRow.holds Tryz.pinned (OpenSpec.upto stepFetchesSpec)

/-- 'ferrymanlaw13.StepFaults', WHERE WHAT IT READS IS OF BULK AT MOST 1048576: true; the input reads as it did. -/
def stepFaultsUptoRow : OpenClaim := { program := "ythakgjpejhjaoaagreat", sum := "8694d1bff42bce4eba96b91abd3a4b05c862ceda27cea87e980860b449322b8c", func := "ferryman/ferrymanlaw13.StepFaults", spec := "stepFaults", inPlace := ["math.Float64frombits", "math.Float64bits"], unfollowed := true, recurses := true, apart := false, narrowed := true }
def StepFaultsUptoSaid : Prop := stepFaultsUptoRow.holds Tryz.pinned (OpenSpec.upto stepFaultsSpec)

end Rows
end Go.Proofs.YthakgjpejhjaoaaGreat
