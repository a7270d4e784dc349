/-
  No cell of these rows narrows 'for every input' (looked for: loops, veiled, ifaces, maps, wideKeys, modest, calm, conditions, laid).
  DERIVED. THE GIVEN ROWS OF THIS SEAT. 11 by the template 'for every input the law returns true; each argument reads behind the call as it read before'; 0 by the template 'total and deterministic' (their statements: YtncafchgdgmeaaaTotals.lean).
  GIVEN WITH THE SEED: the statements are not yours to turn. If you find one false, say at which input.
  Laid BY PROGRAM, IN A SANDBOX (cutbox-rows.mjs): the forced cells as the released guide's own fill.sh prints them over the translation 0a307ddbd6d0e378… (all of the seat's roots in one cut). By AI agents, Wed Nov 11 2026. No macro, syntax, notation, axiom, sorry.
-/
import Derived.Test.YtncafchgdgmeaaaChecked
import GoSem.Claim
import GoSem.ClaimJoined
import GoSem.ClaimMapViews
import Derived.JoinedTies
import Derived.KernelRfl
namespace Go.Proofs.Ytncafchgdgmeaaa
/- THE CELL 'sum', in the pinned program and in every row, IS THE sha256 OF THE DUMP (.gsa) THAT YtncafchgdgmeaaaProg.lean LOADS. Nothing in Lean hashes anything: it is a label: what it is worth is what the hold of that sum in a sandbox is worth. -/
noncomputable def Try.pinned : Pinned := { name := "ytncafchgdgmeaaa", sum := "0a307ddbd6d0e378a6c7cd7caa5ec05a4ff638814753326ed7771c36a87a2d33", checked := Try.checked }
namespace Rows
def none {H : Type} : Left H := { results := [], args := [] }

/-- 'ferrymanlaw6.PageRights': WHATEVER THE INPUT: true; the input reads as it did. -/
def pageRightsSpec : ChangeSpec := { name := "pageRights", fn := fun _ => fun
  | [d1, d2, d3, d4] => { results := [.lit (.bool true)], args := [d1, d2, d3, d4] }
  | _ => none }
def pageRightsRow : OpenClaim := { program := "ytncafchgdgmeaaa", sum := "0a307ddbd6d0e378a6c7cd7caa5ec05a4ff638814753326ed7771c36a87a2d33", func := "ferryman/ferrymanlaw6.PageRights", spec := "pageRights", unfollowed := true, recurses := true, apart := false }
def PageRightsSaid : Prop := pageRightsRow.holds Try.pinned (OpenSpec.ofChange pageRightsSpec)

/-- ITS FALSE NEIGHBOUR: 'it returns false'. Refute it at one input. -/
def pageRightsWrong : ChangeSpec := { name := "pageRights", fn := fun _ => fun
  | [d1, d2, d3, d4] => { results := [.lit (.bool false)], args := [d1, d2, d3, d4] }
  | _ => none }
def PageRightsWrongFalsely : Prop := pageRightsRow.holds Try.pinned (OpenSpec.ofChange pageRightsWrong)

/-- 'ferrymanlaw6.PageSpans': WHATEVER THE INPUT: true; the input reads as it did. -/
def pageSpansSpec : ChangeSpec := { name := "pageSpans", fn := fun _ => fun
  | [d1, d2, d3] => { results := [.lit (.bool true)], args := [d1, d2, d3] }
  | _ => none }
def pageSpansRow : OpenClaim := { program := "ytncafchgdgmeaaa", sum := "0a307ddbd6d0e378a6c7cd7caa5ec05a4ff638814753326ed7771c36a87a2d33", func := "ferryman/ferrymanlaw6.PageSpans", spec := "pageSpans", unfollowed := true, recurses := true, apart := false }
def PageSpansSaid : Prop := pageSpansRow.holds Try.pinned (OpenSpec.ofChange pageSpansSpec)

/-- ITS FALSE NEIGHBOUR: 'it returns false'. Refute it at one input. -/
def pageSpansWrong : ChangeSpec := { name := "pageSpans", fn := fun _ => fun
  | [d1, d2, d3] => { results := [.lit (.bool false)], args := [d1, d2, d3] }
  | _ => none }
def PageSpansWrongFalsely : Prop := pageSpansRow.holds Try.pinned (OpenSpec.ofChange pageSpansWrong)

/-- 'ferrymanlaw6.PagePlays': WHATEVER THE INPUT: true; the input reads as it did. -/
def pagePlaysSpec : ChangeSpec := { name := "pagePlays", fn := fun _ => fun
  | [d] => { results := [.lit (.bool true)], args := [d] }
  | _ => none }
def pagePlaysRow : OpenClaim := { program := "ytncafchgdgmeaaa", sum := "0a307ddbd6d0e378a6c7cd7caa5ec05a4ff638814753326ed7771c36a87a2d33", func := "ferryman/ferrymanlaw6.PagePlays", spec := "pagePlays", unfollowed := true, recurses := true, apart := false }
def PagePlaysSaid : Prop := pagePlaysRow.holds Try.pinned (OpenSpec.ofChange pagePlaysSpec)

/-- ITS FALSE NEIGHBOUR: 'it returns false'. Refute it at one input. -/
def pagePlaysWrong : ChangeSpec := { name := "pagePlays", fn := fun _ => fun
  | [d] => { results := [.lit (.bool false)], args := [d] }
  | _ => none }
def PagePlaysWrongFalsely : Prop := pagePlaysRow.holds Try.pinned (OpenSpec.ofChange pagePlaysWrong)

/-- 'ferrymanlaw12.OperandPlaces': WHATEVER THE INPUT: true; the input reads as it did. -/
def operandPlacesSpec : ChangeSpec := { name := "operandPlaces", fn := fun _ => fun
  | [d1, d2, d3, d4, d5, d6] => { results := [.lit (.bool true)], args := [d1, d2, d3, d4, d5, d6] }
  | _ => none }
def operandPlacesRow : OpenClaim := { program := "ytncafchgdgmeaaa", sum := "0a307ddbd6d0e378a6c7cd7caa5ec05a4ff638814753326ed7771c36a87a2d33", func := "ferryman/ferrymanlaw12.OperandPlaces", spec := "operandPlaces", unfollowed := true, recurses := true, apart := false }
def OperandPlacesSaid : Prop := operandPlacesRow.holds Try.pinned (OpenSpec.ofChange operandPlacesSpec)

/-- ITS FALSE NEIGHBOUR: 'it returns false'. Refute it at one input. -/
def operandPlacesWrong : ChangeSpec := { name := "operandPlaces", fn := fun _ => fun
  | [d1, d2, d3, d4, d5, d6] => { results := [.lit (.bool false)], args := [d1, d2, d3, d4, d5, d6] }
  | _ => none }
def OperandPlacesWrongFalsely : Prop := operandPlacesRow.holds Try.pinned (OpenSpec.ofChange operandPlacesWrong)

/-- 'ferrymanlaw12.OperandBytes': WHATEVER THE INPUT: true; the input reads as it did. -/
def operandBytesSpec : ChangeSpec := { name := "operandBytes", fn := fun _ => fun
  | [d1, d2, d3, d4, d5] => { results := [.lit (.bool true)], args := [d1, d2, d3, d4, d5] }
  | _ => none }
def operandBytesRow : OpenClaim := { program := "ytncafchgdgmeaaa", sum := "0a307ddbd6d0e378a6c7cd7caa5ec05a4ff638814753326ed7771c36a87a2d33", func := "ferryman/ferrymanlaw12.OperandBytes", spec := "operandBytes", unfollowed := true, recurses := true, apart := false }
def OperandBytesSaid : Prop := operandBytesRow.holds Try.pinned (OpenSpec.ofChange operandBytesSpec)

/-- ITS FALSE NEIGHBOUR: 'it returns false'. Refute it at one input. -/
def operandBytesWrong : ChangeSpec := { name := "operandBytes", fn := fun _ => fun
  | [d1, d2, d3, d4, d5] => { results := [.lit (.bool false)], args := [d1, d2, d3, d4, d5] }
  | _ => none }
def OperandBytesWrongFalsely : Prop := operandBytesRow.holds Try.pinned (OpenSpec.ofChange operandBytesWrong)

/-- 'ferrymanlaw12.OperandCan': WHATEVER THE INPUT: true; the input reads as it did. -/
def operandCanSpec : ChangeSpec := { name := "operandCan", fn := fun _ => fun
  | [d1, d2, d3] => { results := [.lit (.bool true)], args := [d1, d2, d3] }
  | _ => none }
def operandCanRow : OpenClaim := { program := "ytncafchgdgmeaaa", sum := "0a307ddbd6d0e378a6c7cd7caa5ec05a4ff638814753326ed7771c36a87a2d33", func := "ferryman/ferrymanlaw12.OperandCan", spec := "operandCan", unfollowed := true, recurses := true, apart := false }
def OperandCanSaid : Prop := operandCanRow.holds Try.pinned (OpenSpec.ofChange operandCanSpec)

/-- ITS FALSE NEIGHBOUR: 'it returns false'. Refute it at one input. -/
def operandCanWrong : ChangeSpec := { name := "operandCan", fn := fun _ => fun
  | [d1, d2, d3] => { results := [.lit (.bool false)], args := [d1, d2, d3] }
  | _ => none }
def OperandCanWrongFalsely : Prop := operandCanRow.holds Try.pinned (OpenSpec.ofChange operandCanWrong)

/-- 'ferrymanlaw12.OperandEight': WHATEVER THE INPUT: true; the input reads as it did. -/
def operandEightSpec : ChangeSpec := { name := "operandEight", fn := fun _ => fun
  | [d1, d2, d3] => { results := [.lit (.bool true)], args := [d1, d2, d3] }
  | _ => none }
def operandEightRow : OpenClaim := { program := "ytncafchgdgmeaaa", sum := "0a307ddbd6d0e378a6c7cd7caa5ec05a4ff638814753326ed7771c36a87a2d33", func := "ferryman/ferrymanlaw12.OperandEight", spec := "operandEight", unfollowed := true, recurses := true, apart := false }
def OperandEightSaid : Prop := operandEightRow.holds Try.pinned (OpenSpec.ofChange operandEightSpec)

/-- ITS FALSE NEIGHBOUR: 'it returns false'. Refute it at one input. -/
def operandEightWrong : ChangeSpec := { name := "operandEight", fn := fun _ => fun
  | [d1, d2, d3] => { results := [.lit (.bool false)], args := [d1, d2, d3] }
  | _ => none }
def OperandEightWrongFalsely : Prop := operandEightRow.holds Try.pinned (OpenSpec.ofChange operandEightWrong)

/-- 'ferrymanlaw20.HelperBack': WHATEVER THE INPUT: true; the input reads as it did. -/
def helperBackSpec : ChangeSpec := { name := "helperBack", fn := fun _ => fun
  | [d1, d2, d3] => { results := [.lit (.bool true)], args := [d1, d2, d3] }
  | _ => none }
def helperBackRow : OpenClaim := { program := "ytncafchgdgmeaaa", sum := "0a307ddbd6d0e378a6c7cd7caa5ec05a4ff638814753326ed7771c36a87a2d33", func := "ferryman/ferrymanlaw20.HelperBack", spec := "helperBack", inPlace := ["math.Float64frombits", "math.Float64bits"], unfollowed := true, recurses := true, apart := false }
def HelperBackSaid : Prop := helperBackRow.holds Try.pinned (OpenSpec.ofChange helperBackSpec)

/-- ITS FALSE NEIGHBOUR: 'it returns false'. Refute it at one input. -/
def helperBackWrong : ChangeSpec := { name := "helperBack", fn := fun _ => fun
  | [d1, d2, d3] => { results := [.lit (.bool false)], args := [d1, d2, d3] }
  | _ => none }
def HelperBackWrongFalsely : Prop := helperBackRow.holds Try.pinned (OpenSpec.ofChange helperBackWrong)

/-- 'ferrymanlaw20.HelperDivides': WHATEVER THE INPUT: true; the input reads as it did. -/
def helperDividesSpec : ChangeSpec := { name := "helperDivides", fn := fun _ => fun
  | [d1, d2, d3] => { results := [.lit (.bool true)], args := [d1, d2, d3] }
  | _ => none }
def helperDividesRow : OpenClaim := { program := "ytncafchgdgmeaaa", sum := "0a307ddbd6d0e378a6c7cd7caa5ec05a4ff638814753326ed7771c36a87a2d33", func := "ferryman/ferrymanlaw20.HelperDivides", spec := "helperDivides", inPlace := ["math.Float64frombits", "math.Float64bits"], unfollowed := true, recurses := true, apart := false }
def HelperDividesSaid : Prop := helperDividesRow.holds Try.pinned (OpenSpec.ofChange helperDividesSpec)

/-- ITS FALSE NEIGHBOUR: 'it returns false'. Refute it at one input. -/
def helperDividesWrong : ChangeSpec := { name := "helperDivides", fn := fun _ => fun
  | [d1, d2, d3] => { results := [.lit (.bool false)], args := [d1, d2, d3] }
  | _ => none }
def HelperDividesWrongFalsely : Prop := helperDividesRow.holds Try.pinned (OpenSpec.ofChange helperDividesWrong)

/-- 'ferrymanlaw20.HelperChecks': WHATEVER THE INPUT: true; the input reads as it did. -/
def helperChecksSpec : ChangeSpec := { name := "helperChecks", fn := fun _ => fun
  | [d1, d2, d3] => { results := [.lit (.bool true)], args := [d1, d2, d3] }
  | _ => none }
def helperChecksRow : OpenClaim := { program := "ytncafchgdgmeaaa", sum := "0a307ddbd6d0e378a6c7cd7caa5ec05a4ff638814753326ed7771c36a87a2d33", func := "ferryman/ferrymanlaw20.HelperChecks", spec := "helperChecks", inPlace := ["math.Float64frombits", "math.Float64bits"], unfollowed := true, recurses := true, apart := false }
def HelperChecksSaid : Prop := helperChecksRow.holds Try.pinned (OpenSpec.ofChange helperChecksSpec)

/-- ITS FALSE NEIGHBOUR: 'it returns false'. Refute it at one input. -/
def helperChecksWrong : ChangeSpec := { name := "helperChecks", fn := fun _ => fun
  | [d1, d2, d3] => { results := [.lit (.bool false)], args := [d1, d2, d3] }
  | _ => none }
def HelperChecksWrongFalsely : Prop := helperChecksRow.holds Try.pinned (OpenSpec.ofChange helperChecksWrong)

/-- 'ferrymanlaw20.HelperDoes': WHATEVER THE INPUT: true; the input reads as it did. -/
def helperDoesSpec : ChangeSpec := { name := "helperDoes", fn := fun _ => fun
  | [d1, d2, d3, d4] => { results := [.lit (.bool true)], args := [d1, d2, d3, d4] }
  | _ => none }
def helperDoesRow : OpenClaim := { program := "ytncafchgdgmeaaa", sum := "0a307ddbd6d0e378a6c7cd7caa5ec05a4ff638814753326ed7771c36a87a2d33", func := "ferryman/ferrymanlaw20.HelperDoes", spec := "helperDoes", inPlace := ["math.Float64frombits", "math.Float64bits"], unfollowed := true, recurses := true, apart := false }
def HelperDoesSaid : Prop := helperDoesRow.holds Try.pinned (OpenSpec.ofChange helperDoesSpec)

/-- ITS FALSE NEIGHBOUR: 'it returns false'. Refute it at one input. -/
def helperDoesWrong : ChangeSpec := { name := "helperDoes", fn := fun _ => fun
  | [d1, d2, d3, d4] => { results := [.lit (.bool false)], args := [d1, d2, d3, d4] }
  | _ => none }
def HelperDoesWrongFalsely : Prop := helperDoesRow.holds Try.pinned (OpenSpec.ofChange helperDoesWrong)

/- THE SECOND FORM. 'bulk': how many values and letters a reading holds, each counted each time it is reached (what is shared counts as often as it is met; a slice's spare places count too). A statement '..UptoSaid' is the law's where the arguments, and the package variables that the reading takes, are together of bulk at most 1048576: NARROWER than '..Said'. Prove '..Said' where nothing that the law and all that it calls make is longer than what came in: it says more and counts as full. Else prove '..UptoSaid'. A law counts once. -/
mutual
def uptoBulk {H : Type} : DataW H → Nat
  | .lit (.string bytes) => bytes.length + 1
  | .lit _ => 1
  | .nil => 1
  | .ptr d => uptoBulk d + 1
  | .slice elems spare => uptoBulkAll elems + uptoBulkAll spare + 1
  | .agg parts => uptoBulkAll parts + 1
  | .iface _ d => uptoBulk d + 1
  | .map entries => uptoBulkEntries entries + 1
  | .held _ => 1
def uptoBulkAll {H : Type} : List (DataW H) → Nat
  | [] => 0
  | d :: r => uptoBulk d + uptoBulkAll r
def uptoBulkEntries {H : Type} : List (Lit × DataW H) → Nat
  | [] => 0
  | x :: r => uptoBulkEntry x + uptoBulkEntries r
def uptoBulkEntry {H : Type} : Lit × DataW H → Nat
  | (.string bytes, d) => bytes.length + uptoBulk d + 1
  | (_, d) => uptoBulk d + 1
 end
def uptoSmall : (H : Type) → List (DataW H) → Bool := fun _ ds => decide (uptoBulkAll ds ≤ 1048576)
def OpenSpec.upto (s : _root_.Go.ChangeSpec) : _root_.Go.OpenSpec := { _root_.Go.OpenSpec.ofChange s with cond := some uptoSmall }

/-- 'ferrymanlaw6.PageRights', WHERE WHAT IT READS IS OF BULK AT MOST 1048576: true; the input reads as it did. -/
def pageRightsUptoRow : OpenClaim := { program := "ytncafchgdgmeaaa", sum := "0a307ddbd6d0e378a6c7cd7caa5ec05a4ff638814753326ed7771c36a87a2d33", func := "ferryman/ferrymanlaw6.PageRights", spec := "pageRights", unfollowed := true, recurses := true, apart := false, narrowed := true }
def PageRightsUptoSaid : Prop := pageRightsUptoRow.holds Try.pinned (OpenSpec.upto pageRightsSpec)

/-- 'ferrymanlaw6.PageSpans', WHERE WHAT IT READS IS OF BULK AT MOST 1048576: true; the input reads as it did. -/
def pageSpansUptoRow : OpenClaim := { program := "ytncafchgdgmeaaa", sum := "0a307ddbd6d0e378a6c7cd7caa5ec05a4ff638814753326ed7771c36a87a2d33", func := "ferryman/ferrymanlaw6.PageSpans", spec := "pageSpans", unfollowed := true, recurses := true, apart := false, narrowed := true }
def PageSpansUptoSaid : Prop := pageSpansUptoRow.holds Try.pinned (OpenSpec.upto pageSpansSpec)

/-- 'ferrymanlaw6.PagePlays', WHERE WHAT IT READS IS OF BULK AT MOST 1048576: true; the input reads as it did. -/
def pagePlaysUptoRow : OpenClaim := { program := "ytncafchgdgmeaaa", sum := "0a307ddbd6d0e378a6c7cd7caa5ec05a4ff638814753326ed7771c36a87a2d33", func := "ferryman/ferrymanlaw6.PagePlays", spec := "pagePlays", unfollowed := true, recurses := true, apart := false, narrowed := true }
def PagePlaysUptoSaid : Prop := pagePlaysUptoRow.holds Try.pinned (OpenSpec.upto pagePlaysSpec)

/-- 'ferrymanlaw12.OperandPlaces', WHERE WHAT IT READS IS OF BULK AT MOST 1048576: true; the input reads as it did. -/
def operandPlacesUptoRow : OpenClaim := { program := "ytncafchgdgmeaaa", sum := "0a307ddbd6d0e378a6c7cd7caa5ec05a4ff638814753326ed7771c36a87a2d33", func := "ferryman/ferrymanlaw12.OperandPlaces", spec := "operandPlaces", unfollowed := true, recurses := true, apart := false, narrowed := true }
def OperandPlacesUptoSaid : Prop := operandPlacesUptoRow.holds Try.pinned (OpenSpec.upto operandPlacesSpec)

/-- 'ferrymanlaw12.OperandBytes', WHERE WHAT IT READS IS OF BULK AT MOST 1048576: true; the input reads as it did. -/
def operandBytesUptoRow : OpenClaim := { program := "ytncafchgdgmeaaa", sum := "0a307ddbd6d0e378a6c7cd7caa5ec05a4ff638814753326ed7771c36a87a2d33", func := "ferryman/ferrymanlaw12.OperandBytes", spec := "operandBytes", unfollowed := true, recurses := true, apart := false, narrowed := true }
def OperandBytesUptoSaid : Prop := operandBytesUptoRow.holds Try.pinned (OpenSpec.upto operandBytesSpec)

/-- 'ferrymanlaw12.OperandCan', WHERE WHAT IT READS IS OF BULK AT MOST 1048576: true; the input reads as it did. -/
def operandCanUptoRow : OpenClaim := { program := "ytncafchgdgmeaaa", sum := "0a307ddbd6d0e378a6c7cd7caa5ec05a4ff638814753326ed7771c36a87a2d33", func := "ferryman/ferrymanlaw12.OperandCan", spec := "operandCan", unfollowed := true, recurses := true, apart := false, narrowed := true }
def OperandCanUptoSaid : Prop := operandCanUptoRow.holds Try.pinned (OpenSpec.upto operandCanSpec)

/-- 'ferrymanlaw12.OperandEight', WHERE WHAT IT READS IS OF BULK AT MOST 1048576: true; the input reads as it did. -/
def operandEightUptoRow : OpenClaim := { program := "ytncafchgdgmeaaa", sum := "0a307ddbd6d0e378a6c7cd7caa5ec05a4ff638814753326ed7771c36a87a2d33", func := "ferryman/ferrymanlaw12.OperandEight", spec := "operandEight", unfollowed := true, recurses := true, apart := false, narrowed := true }
def OperandEightUptoSaid : Prop := operandEightUptoRow.holds Try.pinned (OpenSpec.upto operandEightSpec)

/-- 'ferrymanlaw20.HelperBack', WHERE WHAT IT READS IS OF BULK AT MOST 1048576: true; the input reads as it did. -/
def helperBackUptoRow : OpenClaim := { program := "ytncafchgdgmeaaa", sum := "0a307ddbd6d0e378a6c7cd7caa5ec05a4ff638814753326ed7771c36a87a2d33", func := "ferryman/ferrymanlaw20.HelperBack", spec := "helperBack", inPlace := ["math.Float64frombits", "math.Float64bits"], unfollowed := true, recurses := true, apart := false, narrowed := true }
def HelperBackUptoSaid : Prop := helperBackUptoRow.holds Try.pinned (OpenSpec.upto helperBackSpec)

/-- 'ferrymanlaw20.HelperDivides', WHERE WHAT IT READS IS OF BULK AT MOST 1048576: true; the input reads as it did. -/
def helperDividesUptoRow : OpenClaim := { program := "ytncafchgdgmeaaa", sum := "0a307ddbd6d0e378a6c7cd7caa5ec05a4ff638814753326ed7771c36a87a2d33", func := "ferryman/ferrymanlaw20.HelperDivides", spec := "helperDivides", inPlace := ["math.Float64frombits", "math.Float64bits"], unfollowed := true, recurses := true, apart := false, narrowed := true }
def HelperDividesUptoSaid : Prop := helperDividesUptoRow.holds Try.pinned (OpenSpec.upto helperDividesSpec)

/-- 'ferrymanlaw20.HelperChecks', WHERE WHAT IT READS IS OF BULK AT MOST 1048576: true; the input reads as it did. -/
def helperChecksUptoRow : OpenClaim := { program := "ytncafchgdgmeaaa", sum := "0a307ddbd6d0e378a6c7cd7caa5ec05a4ff638814753326ed7771c36a87a2d33", func := "ferryman/ferrymanlaw20.HelperChecks", spec := "helperChecks", inPlace := ["math.Float64frombits", "math.Float64bits"], unfollowed := true, recurses := true, apart := false, narrowed := true }
def HelperChecksUptoSaid : Prop := helperChecksUptoRow.holds Try.pinned (OpenSpec.upto helperChecksSpec)

/-- 'ferrymanlaw20.HelperDoes', WHERE WHAT IT READS IS OF BULK AT MOST 1048576: true; the input reads as it did. -/
def helperDoesUptoRow : OpenClaim := { program := "ytncafchgdgmeaaa", sum := "0a307ddbd6d0e378a6c7cd7caa5ec05a4ff638814753326ed7771c36a87a2d33", func := "ferryman/ferrymanlaw20.HelperDoes", spec := "helperDoes", inPlace := ["math.Float64frombits", "math.Float64bits"], unfollowed := true, recurses := true, apart := false, narrowed := true }
def HelperDoesUptoSaid : Prop := helperDoesUptoRow.holds Try.pinned (OpenSpec.upto helperDoesSpec)

end Rows
end Go.Proofs.Ytncafchgdgmeaaa
