/-
  No cell of these rows narrows 'for every input' (looked for: loops, veiled, ifaces, maps, wideKeys, modest, calm, conditions, laid).
  DERIVED. THE GIVEN ROWS OF THIS SEAT. 9 by the template 'for every input the law returns true; each argument reads behind the call as it read before'; 0 by the template 'total and deterministic' (their statements: YtoplekfnghkkdaaTotals.lean).
  GIVEN WITH THE SEED: the statements are not yours to turn. If you find one false, say at which input.
  Laid BY PROGRAM, IN A SANDBOX (cutbox-rows.mjs): the forced cells as the released guide's own fill.sh prints them over the translation cb81d22c781c4320… (all of the seat's roots in one cut). By AI agents, Wed Nov 11 2026. No macro, syntax, notation, axiom, sorry.
-/
import Derived.Test.YtoplekfnghkkdaaChecked
import GoSem.Claim
import GoSem.ClaimJoined
import GoSem.ClaimMapViews
import Derived.JoinedTies
import Derived.KernelRfl
namespace Go.Proofs.Ytoplekfnghkkdaa
/- THE CELL 'sum', in the pinned program and in every row, IS THE sha256 OF THE DUMP (.gsa) THAT YtoplekfnghkkdaaProg.lean LOADS. Nothing in Lean hashes anything: it is a label: what it is worth is what the hold of that sum in a sandbox is worth. -/
noncomputable def Try.pinned : Pinned := { name := "ytoplekfnghkkdaa", sum := "cb81d22c781c4320fb86673d94bdd83bc1988c21e0960e58aa4b822cabe6cd9b", checked := Try.checked }
namespace Rows
def none {H : Type} : Left H := { results := [], args := [] }

/-- 'ferrymanlaw10.DecodeTells': WHATEVER THE INPUT: true; the input reads as it did. -/
def decodeTellsSpec : ChangeSpec := { name := "decodeTells", fn := fun _ => fun
  | [d] => { results := [.lit (.bool true)], args := [d] }
  | _ => none }
def decodeTellsRow : OpenClaim := { program := "ytoplekfnghkkdaa", sum := "cb81d22c781c4320fb86673d94bdd83bc1988c21e0960e58aa4b822cabe6cd9b", func := "ferryman/ferrymanlaw10.DecodeTells", spec := "decodeTells", unfollowed := true, recurses := true, apart := false }
def DecodeTellsSaid : Prop := decodeTellsRow.holds Try.pinned (OpenSpec.ofChange decodeTellsSpec)

/-- ITS FALSE NEIGHBOUR: 'it returns false'. Refute it at one input. -/
def decodeTellsWrong : ChangeSpec := { name := "decodeTells", fn := fun _ => fun
  | [d] => { results := [.lit (.bool false)], args := [d] }
  | _ => none }
def DecodeTellsWrongFalsely : Prop := decodeTellsRow.holds Try.pinned (OpenSpec.ofChange decodeTellsWrong)

/-- 'ferrymanlaw20.HelperDoes': WHATEVER THE INPUT: true; the input reads as it did. -/
def helperDoesSpec : ChangeSpec := { name := "helperDoes", fn := fun _ => fun
  | [d1, d2, d3, d4] => { results := [.lit (.bool true)], args := [d1, d2, d3, d4] }
  | _ => none }
def helperDoesRow : OpenClaim := { program := "ytoplekfnghkkdaa", sum := "cb81d22c781c4320fb86673d94bdd83bc1988c21e0960e58aa4b822cabe6cd9b", func := "ferryman/ferrymanlaw20.HelperDoes", spec := "helperDoes", inPlace := ["math.Float64frombits", "math.Float64bits"], unfollowed := true, recurses := true, apart := false }
def HelperDoesSaid : Prop := helperDoesRow.holds Try.pinned (OpenSpec.ofChange helperDoesSpec)

/-- ITS FALSE NEIGHBOUR: 'it returns false'. Refute it at one input. -/
def helperDoesWrong : ChangeSpec := { name := "helperDoes", fn := fun _ => fun
  | [d1, d2, d3, d4] => { results := [.lit (.bool false)], args := [d1, d2, d3, d4] }
  | _ => none }
def HelperDoesWrongFalsely : Prop := helperDoesRow.holds Try.pinned (OpenSpec.ofChange helperDoesWrong)

/-- 'ferrymanlaw16.BlockRows': WHATEVER THE INPUT: true; the input reads as it did. -/
def blockRowsSpec : ChangeSpec := { name := "blockRows", fn := fun _ => fun
  | [d1, d2] => { results := [.lit (.bool true)], args := [d1, d2] }
  | _ => none }
def blockRowsRow : OpenClaim := { program := "ytoplekfnghkkdaa", sum := "cb81d22c781c4320fb86673d94bdd83bc1988c21e0960e58aa4b822cabe6cd9b", func := "ferryman/ferrymanlaw16.BlockRows", spec := "blockRows", unfollowed := true, recurses := true, apart := false }
def BlockRowsSaid : Prop := blockRowsRow.holds Try.pinned (OpenSpec.ofChange blockRowsSpec)

/-- ITS FALSE NEIGHBOUR: 'it returns false'. Refute it at one input. -/
def blockRowsWrong : ChangeSpec := { name := "blockRows", fn := fun _ => fun
  | [d1, d2] => { results := [.lit (.bool false)], args := [d1, d2] }
  | _ => none }
def BlockRowsWrongFalsely : Prop := blockRowsRow.holds Try.pinned (OpenSpec.ofChange blockRowsWrong)

/-- 'ferrymanlaw16.BlockEdges': WHATEVER THE INPUT: true; the input reads as it did. -/
def blockEdgesSpec : ChangeSpec := { name := "blockEdges", fn := fun _ => fun
  | [d] => { results := [.lit (.bool true)], args := [d] }
  | _ => none }
def blockEdgesRow : OpenClaim := { program := "ytoplekfnghkkdaa", sum := "cb81d22c781c4320fb86673d94bdd83bc1988c21e0960e58aa4b822cabe6cd9b", func := "ferryman/ferrymanlaw16.BlockEdges", spec := "blockEdges", unfollowed := true, recurses := true, apart := false }
def BlockEdgesSaid : Prop := blockEdgesRow.holds Try.pinned (OpenSpec.ofChange blockEdgesSpec)

/-- ITS FALSE NEIGHBOUR: 'it returns false'. Refute it at one input. -/
def blockEdgesWrong : ChangeSpec := { name := "blockEdges", fn := fun _ => fun
  | [d] => { results := [.lit (.bool false)], args := [d] }
  | _ => none }
def BlockEdgesWrongFalsely : Prop := blockEdgesRow.holds Try.pinned (OpenSpec.ofChange blockEdgesWrong)

/-- 'ferrymanlaw14.CallReads': WHATEVER THE INPUT: true; the input reads as it did. -/
def callReadsSpec : ChangeSpec := { name := "callReads", fn := fun _ => fun
  | [d1, d2, d3] => { results := [.lit (.bool true)], args := [d1, d2, d3] }
  | _ => none }
def callReadsRow : OpenClaim := { program := "ytoplekfnghkkdaa", sum := "cb81d22c781c4320fb86673d94bdd83bc1988c21e0960e58aa4b822cabe6cd9b", func := "ferryman/ferrymanlaw14.CallReads", spec := "callReads", unfollowed := true, recurses := true, apart := false }
def CallReadsSaid : Prop := callReadsRow.holds Try.pinned (OpenSpec.ofChange callReadsSpec)

/-- ITS FALSE NEIGHBOUR: 'it returns false'. Refute it at one input. -/
def callReadsWrong : ChangeSpec := { name := "callReads", fn := fun _ => fun
  | [d1, d2, d3] => { results := [.lit (.bool false)], args := [d1, d2, d3] }
  | _ => none }
def CallReadsWrongFalsely : Prop := callReadsRow.holds Try.pinned (OpenSpec.ofChange callReadsWrong)

/-- 'ferrymanlaw14.CallKeeps': WHATEVER THE INPUT: true; the input reads as it did. -/
def callKeepsSpec : ChangeSpec := { name := "callKeeps", fn := fun _ => fun
  | [d] => { results := [.lit (.bool true)], args := [d] }
  | _ => none }
def callKeepsRow : OpenClaim := { program := "ytoplekfnghkkdaa", sum := "cb81d22c781c4320fb86673d94bdd83bc1988c21e0960e58aa4b822cabe6cd9b", func := "ferryman/ferrymanlaw14.CallKeeps", spec := "callKeeps", unfollowed := true, recurses := true, apart := false }
def CallKeepsSaid : Prop := callKeepsRow.holds Try.pinned (OpenSpec.ofChange callKeepsSpec)

/-- ITS FALSE NEIGHBOUR: 'it returns false'. Refute it at one input. -/
def callKeepsWrong : ChangeSpec := { name := "callKeeps", fn := fun _ => fun
  | [d] => { results := [.lit (.bool false)], args := [d] }
  | _ => none }
def CallKeepsWrongFalsely : Prop := callKeepsRow.holds Try.pinned (OpenSpec.ofChange callKeepsWrong)

/-- 'ferrymanlaw14.CallPages': WHATEVER THE INPUT: true; the input reads as it did. -/
def callPagesSpec : ChangeSpec := { name := "callPages", fn := fun _ => fun
  | [d] => { results := [.lit (.bool true)], args := [d] }
  | _ => none }
def callPagesRow : OpenClaim := { program := "ytoplekfnghkkdaa", sum := "cb81d22c781c4320fb86673d94bdd83bc1988c21e0960e58aa4b822cabe6cd9b", func := "ferryman/ferrymanlaw14.CallPages", spec := "callPages", unfollowed := true, recurses := true, apart := false }
def CallPagesSaid : Prop := callPagesRow.holds Try.pinned (OpenSpec.ofChange callPagesSpec)

/-- ITS FALSE NEIGHBOUR: 'it returns false'. Refute it at one input. -/
def callPagesWrong : ChangeSpec := { name := "callPages", fn := fun _ => fun
  | [d] => { results := [.lit (.bool false)], args := [d] }
  | _ => none }
def CallPagesWrongFalsely : Prop := callPagesRow.holds Try.pinned (OpenSpec.ofChange callPagesWrong)

/-- 'ferrymanlaw14.CallWrites': WHATEVER THE INPUT: true; the input reads as it did. -/
def callWritesSpec : ChangeSpec := { name := "callWrites", fn := fun _ => fun
  | [d1, d2, d3] => { results := [.lit (.bool true)], args := [d1, d2, d3] }
  | _ => none }
def callWritesRow : OpenClaim := { program := "ytoplekfnghkkdaa", sum := "cb81d22c781c4320fb86673d94bdd83bc1988c21e0960e58aa4b822cabe6cd9b", func := "ferryman/ferrymanlaw14.CallWrites", spec := "callWrites", unfollowed := true, recurses := true, apart := false }
def CallWritesSaid : Prop := callWritesRow.holds Try.pinned (OpenSpec.ofChange callWritesSpec)

/-- ITS FALSE NEIGHBOUR: 'it returns false'. Refute it at one input. -/
def callWritesWrong : ChangeSpec := { name := "callWrites", fn := fun _ => fun
  | [d1, d2, d3] => { results := [.lit (.bool false)], args := [d1, d2, d3] }
  | _ => none }
def CallWritesWrongFalsely : Prop := callWritesRow.holds Try.pinned (OpenSpec.ofChange callWritesWrong)

/-- 'ferrymanlaw14.CallDoes': WHATEVER THE INPUT: true; the input reads as it did. -/
def callDoesSpec : ChangeSpec := { name := "callDoes", fn := fun _ => fun
  | [d1, d2, d3, d4] => { results := [.lit (.bool true)], args := [d1, d2, d3, d4] }
  | _ => none }
def callDoesRow : OpenClaim := { program := "ytoplekfnghkkdaa", sum := "cb81d22c781c4320fb86673d94bdd83bc1988c21e0960e58aa4b822cabe6cd9b", func := "ferryman/ferrymanlaw14.CallDoes", spec := "callDoes", inPlace := ["maps.clone"], unfollowed := true, recurses := true, apart := false }
def CallDoesSaid : Prop := callDoesRow.holds Try.pinned (OpenSpec.ofChange callDoesSpec)

/-- ITS FALSE NEIGHBOUR: 'it returns false'. Refute it at one input. -/
def callDoesWrong : ChangeSpec := { name := "callDoes", fn := fun _ => fun
  | [d1, d2, d3, d4] => { results := [.lit (.bool false)], args := [d1, d2, d3, d4] }
  | _ => none }
def CallDoesWrongFalsely : Prop := callDoesRow.holds Try.pinned (OpenSpec.ofChange callDoesWrong)

/- THE SECOND FORM. 'bulk': how many values and letters a reading holds, each counted each time it is reached (what is shared counts as often as it is met; a slice's spare places count too). A statement '..UptoSaid' is the law's where the arguments, and the package variables that the reading takes, are together of bulk at most 1048576: NARROWER than '..Said'. Prove '..Said' where nothing that the law and all that it calls make is longer than what came in: it says more and counts as full. Else prove '..UptoSaid'. A law counts once. -/
mutual
def uptoBulk {H : Type} : DataW H → Nat
  | .lit (.string bytes) => bytes.length + 1
  | .lit _ => 1
  | .nil => 1
  | .ptr d => uptoBulk d + 1
  | .slice elems spare => uptoBulkAll elems + uptoBulkAll spare + 1
  | .agg parts => uptoBulkAll parts + 1
  | .iface _ d => uptoBulk d + 1
  | .map entries => uptoBulkEntries entries + 1
  | .held _ => 1
def uptoBulkAll {H : Type} : List (DataW H) → Nat
  | [] => 0
  | d :: r => uptoBulk d + uptoBulkAll r
def uptoBulkEntries {H : Type} : List (Lit × DataW H) → Nat
  | [] => 0
  | x :: r => uptoBulkEntry x + uptoBulkEntries r
def uptoBulkEntry {H : Type} : Lit × DataW H → Nat
  | (.string bytes, d) => bytes.length + uptoBulk d + 1
  | (_, d) => uptoBulk d + 1
 end
def uptoSmall : (H : Type) → List (DataW H) → Bool := fun _ ds => decide (uptoBulkAll ds ≤ 1048576)
def OpenSpec.upto (s : _root_.Go.ChangeSpec) : _root_.Go.OpenSpec := { _root_.Go.OpenSpec.ofChange s with cond := some uptoSmall }

/-- 'ferrymanlaw10.DecodeTells', WHERE WHAT IT READS IS OF BULK AT MOST 1048576: true; the input reads as it did. -/
def decodeTellsUptoRow : OpenClaim := { program := "ytoplekfnghkkdaa", sum := "cb81d22c781c4320fb86673d94bdd83bc1988c21e0960e58aa4b822cabe6cd9b", func := "ferryman/ferrymanlaw10.DecodeTells", spec := "decodeTells", unfollowed := true, recurses := true, apart := false, narrowed := true }
def DecodeTellsUptoSaid : Prop := decodeTellsUptoRow.holds Try.pinned (OpenSpec.upto decodeTellsSpec)

/-- 'ferrymanlaw20.HelperDoes', WHERE WHAT IT READS IS OF BULK AT MOST 1048576: true; the input reads as it did. -/
def helperDoesUptoRow : OpenClaim := { program := "ytoplekfnghkkdaa", sum := "cb81d22c781c4320fb86673d94bdd83bc1988c21e0960e58aa4b822cabe6cd9b", func := "ferryman/ferrymanlaw20.HelperDoes", spec := "helperDoes", inPlace := ["math.Float64frombits", "math.Float64bits"], unfollowed := true, recurses := true, apart := false, narrowed := true }
def HelperDoesUptoSaid : Prop := helperDoesUptoRow.holds Try.pinned (OpenSpec.upto helperDoesSpec)

/-- 'ferrymanlaw16.BlockRows', WHERE WHAT IT READS IS OF BULK AT MOST 1048576: true; the input reads as it did. -/
def blockRowsUptoRow : OpenClaim := { program := "ytoplekfnghkkdaa", sum := "cb81d22c781c4320fb86673d94bdd83bc1988c21e0960e58aa4b822cabe6cd9b", func := "ferryman/ferrymanlaw16.BlockRows", spec := "blockRows", unfollowed := true, recurses := true, apart := false, narrowed := true }
def BlockRowsUptoSaid : Prop := blockRowsUptoRow.holds Try.pinned (OpenSpec.upto blockRowsSpec)

/-- 'ferrymanlaw16.BlockEdges', WHERE WHAT IT READS IS OF BULK AT MOST 1048576: true; the input reads as it did. -/
def blockEdgesUptoRow : OpenClaim := { program := "ytoplekfnghkkdaa", sum := "cb81d22c781c4320fb86673d94bdd83bc1988c21e0960e58aa4b822cabe6cd9b", func := "ferryman/ferrymanlaw16.BlockEdges", spec := "blockEdges", unfollowed := true, recurses := true, apart := false, narrowed := true }
def BlockEdgesUptoSaid : Prop := blockEdgesUptoRow.holds Try.pinned (OpenSpec.upto blockEdgesSpec)

/-- 'ferrymanlaw14.CallReads', WHERE WHAT IT READS IS OF BULK AT MOST 1048576: true; the input reads as it did. -/
def callReadsUptoRow : OpenClaim := { program := "ytoplekfnghkkdaa", sum := "cb81d22c781c4320fb86673d94bdd83bc1988c21e0960e58aa4b822cabe6cd9b", func := "ferryman/ferrymanlaw14.CallReads", spec := "callReads", unfollowed := true, recurses := true, apart := false, narrowed := true }
def CallReadsUptoSaid : Prop := callReadsUptoRow.holds Try.pinned (OpenSpec.upto callReadsSpec)

/-- 'ferrymanlaw14.CallKeeps', WHERE WHAT IT READS IS OF BULK AT MOST 1048576: true; the input reads as it did. -/
def callKeepsUptoRow : OpenClaim := { program := "ytoplekfnghkkdaa", sum := "cb81d22c781c4320fb86673d94bdd83bc1988c21e0960e58aa4b822cabe6cd9b", func := "ferryman/ferrymanlaw14.CallKeeps", spec := "callKeeps", unfollowed := true, recurses := true, apart := false, narrowed := true }
def CallKeepsUptoSaid : Prop := callKeepsUptoRow.holds Try.pinned (OpenSpec.upto callKeepsSpec)

/-- 'ferrymanlaw14.CallPages', WHERE WHAT IT READS IS OF BULK AT MOST 1048576: true; the input reads as it did. -/
def callPagesUptoRow : OpenClaim := { program := "ytoplekfnghkkdaa", sum := "cb81d22c781c4320fb86673d94bdd83bc1988c21e0960e58aa4b822cabe6cd9b", func := "ferryman/ferrymanlaw14.CallPages", spec := "callPages", unfollowed := true, recurses := true, apart := false, narrowed := true }
def CallPagesUptoSaid : Prop := callPagesUptoRow.holds Try.pinned (OpenSpec.upto callPagesSpec)

/-- 'ferrymanlaw14.CallWrites', WHERE WHAT IT READS IS OF BULK AT MOST 1048576: true; the input reads as it did. -/
def callWritesUptoRow : OpenClaim := { program := "ytoplekfnghkkdaa", sum := "cb81d22c781c4320fb86673d94bdd83bc1988c21e0960e58aa4b822cabe6cd9b", func := "ferryman/ferrymanlaw14.CallWrites", spec := "callWrites", unfollowed := true, recurses := true, apart := false, narrowed := true }
def CallWritesUptoSaid : Prop := callWritesUptoRow.holds Try.pinned (OpenSpec.upto callWritesSpec)

/-- 'ferrymanlaw14.CallDoes', WHERE WHAT IT READS IS OF BULK AT MOST 1048576: true; the input reads as it did. -/
def callDoesUptoRow : OpenClaim := { program := "ytoplekfnghkkdaa", sum := "cb81d22c781c4320fb86673d94bdd83bc1988c21e0960e58aa4b822cabe6cd9b", func := "ferryman/ferrymanlaw14.CallDoes", spec := "callDoes", inPlace := ["maps.clone"], unfollowed := true, recurses := true, apart := false, narrowed := true }
def CallDoesUptoSaid : Prop := callDoesUptoRow.holds Try.pinned (OpenSpec.upto callDoesSpec)

end Rows
end Go.Proofs.Ytoplekfnghkkdaa
