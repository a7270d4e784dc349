/-
  No cell of these rows narrows 'for every input' (looked for: loops, veiled, ifaces, maps, wideKeys, modest, calm, conditions, laid).
  DERIVED. THE GIVEN ROWS OF THIS SEAT. 8 by the template 'for every input the law returns true; each argument reads behind the call as it read before'; 0 by the template 'total and deterministic' (their statements: YtpockhoacfkjaaaTotals.lean).
  GIVEN WITH THE SEED: the statements are not yours to turn. If you find one false, say at which input.
  Laid BY PROGRAM, IN A SANDBOX (cutbox-rows.mjs): the forced cells as the released guide's own fill.sh prints them over the translation 7c7d1a36a304c1ad… (all of the seat's roots in one cut). By AI agents, Wed Nov 11 2026. No macro, syntax, notation, axiom, sorry.
-/
import Derived.Test.YtpockhoacfkjaaaChecked
import GoSem.Claim
import GoSem.ClaimJoined
import GoSem.ClaimMapViews
import Derived.JoinedTies
import Derived.KernelRfl
namespace Go.Proofs.Ytpockhoacfkjaaa
/- THE CELL 'sum', in the pinned program and in every row, IS THE sha256 OF THE DUMP (.gsa) THAT YtpockhoacfkjaaaProg.lean LOADS. Nothing in Lean hashes anything: it is a label: what it is worth is what the hold of that sum in a sandbox is worth. -/
noncomputable def Try.pinned : Pinned := { name := "ytpockhoacfkjaaa", sum := "7c7d1a36a304c1adf2ed622edf226d6f918093d7247962ac92c82564036daeb8", checked := Try.checked }
namespace Rows
def none {H : Type} : Left H := { results := [], args := [] }

/-- 'ferrymanlaw10.DecodeTells': WHATEVER THE INPUT: true; the input reads as it did. -/
def decodeTellsSpec : ChangeSpec := { name := "decodeTells", fn := fun _ => fun
  | [d] => { results := [.lit (.bool true)], args := [d] }
  | _ => none }
def decodeTellsRow : OpenClaim := { program := "ytpockhoacfkjaaa", sum := "7c7d1a36a304c1adf2ed622edf226d6f918093d7247962ac92c82564036daeb8", func := "ferryman/ferrymanlaw10.DecodeTells", spec := "decodeTells", unfollowed := true, recurses := true, apart := false }
def DecodeTellsSaid : Prop := decodeTellsRow.holds Try.pinned (OpenSpec.ofChange decodeTellsSpec)

/-- ITS FALSE NEIGHBOUR: 'it returns false'. Refute it at one input. -/
def decodeTellsWrong : ChangeSpec := { name := "decodeTells", fn := fun _ => fun
  | [d] => { results := [.lit (.bool false)], args := [d] }
  | _ => none }
def DecodeTellsWrongFalsely : Prop := decodeTellsRow.holds Try.pinned (OpenSpec.ofChange decodeTellsWrong)

/-- 'ferrymanlaw10.DecodeFront': WHATEVER THE INPUT: true; the input reads as it did. -/
def decodeFrontSpec : ChangeSpec := { name := "decodeFront", fn := fun _ => fun
  | [d1, d2] => { results := [.lit (.bool true)], args := [d1, d2] }
  | _ => none }
def decodeFrontRow : OpenClaim := { program := "ytpockhoacfkjaaa", sum := "7c7d1a36a304c1adf2ed622edf226d6f918093d7247962ac92c82564036daeb8", func := "ferryman/ferrymanlaw10.DecodeFront", spec := "decodeFront", unfollowed := true, recurses := true, apart := false }
def DecodeFrontSaid : Prop := decodeFrontRow.holds Try.pinned (OpenSpec.ofChange decodeFrontSpec)

/-- ITS FALSE NEIGHBOUR: 'it returns false'. Refute it at one input. -/
def decodeFrontWrong : ChangeSpec := { name := "decodeFront", fn := fun _ => fun
  | [d1, d2] => { results := [.lit (.bool false)], args := [d1, d2] }
  | _ => none }
def DecodeFrontWrongFalsely : Prop := decodeFrontRow.holds Try.pinned (OpenSpec.ofChange decodeFrontWrong)

/-- 'ferrymanlaw10.DecodeForms': WHATEVER THE INPUT: true; the input reads as it did. -/
def decodeFormsSpec : ChangeSpec := { name := "decodeForms", fn := fun _ => fun
  | [d1, d2, d3, d4] => { results := [.lit (.bool true)], args := [d1, d2, d3, d4] }
  | _ => none }
def decodeFormsRow : OpenClaim := { program := "ytpockhoacfkjaaa", sum := "7c7d1a36a304c1adf2ed622edf226d6f918093d7247962ac92c82564036daeb8", func := "ferryman/ferrymanlaw10.DecodeForms", spec := "decodeForms", unfollowed := true, recurses := true, apart := false }
def DecodeFormsSaid : Prop := decodeFormsRow.holds Try.pinned (OpenSpec.ofChange decodeFormsSpec)

/-- ITS FALSE NEIGHBOUR: 'it returns false'. Refute it at one input. -/
def decodeFormsWrong : ChangeSpec := { name := "decodeForms", fn := fun _ => fun
  | [d1, d2, d3, d4] => { results := [.lit (.bool false)], args := [d1, d2, d3, d4] }
  | _ => none }
def DecodeFormsWrongFalsely : Prop := decodeFormsRow.holds Try.pinned (OpenSpec.ofChange decodeFormsWrong)

/-- 'ferrymanlaw10.DecodeGroups': WHATEVER THE INPUT: true; the input reads as it did. -/
def decodeGroupsSpec : ChangeSpec := { name := "decodeGroups", fn := fun _ => fun
  | [d1, d2, d3, d4] => { results := [.lit (.bool true)], args := [d1, d2, d3, d4] }
  | _ => none }
def decodeGroupsRow : OpenClaim := { program := "ytpockhoacfkjaaa", sum := "7c7d1a36a304c1adf2ed622edf226d6f918093d7247962ac92c82564036daeb8", func := "ferryman/ferrymanlaw10.DecodeGroups", spec := "decodeGroups", unfollowed := true, recurses := true, apart := false }
def DecodeGroupsSaid : Prop := decodeGroupsRow.holds Try.pinned (OpenSpec.ofChange decodeGroupsSpec)

/-- ITS FALSE NEIGHBOUR: 'it returns false'. Refute it at one input. -/
def decodeGroupsWrong : ChangeSpec := { name := "decodeGroups", fn := fun _ => fun
  | [d1, d2, d3, d4] => { results := [.lit (.bool false)], args := [d1, d2, d3, d4] }
  | _ => none }
def DecodeGroupsWrongFalsely : Prop := decodeGroupsRow.holds Try.pinned (OpenSpec.ofChange decodeGroupsWrong)

/-- 'ferrymanlaw10.DecodeSingles': WHATEVER THE INPUT: true; the input reads as it did. -/
def decodeSinglesSpec : ChangeSpec := { name := "decodeSingles", fn := fun _ => fun
  | [d1, d2, d3] => { results := [.lit (.bool true)], args := [d1, d2, d3] }
  | _ => none }
def decodeSinglesRow : OpenClaim := { program := "ytpockhoacfkjaaa", sum := "7c7d1a36a304c1adf2ed622edf226d6f918093d7247962ac92c82564036daeb8", func := "ferryman/ferrymanlaw10.DecodeSingles", spec := "decodeSingles", unfollowed := true, recurses := true, apart := false }
def DecodeSinglesSaid : Prop := decodeSinglesRow.holds Try.pinned (OpenSpec.ofChange decodeSinglesSpec)

/-- ITS FALSE NEIGHBOUR: 'it returns false'. Refute it at one input. -/
def decodeSinglesWrong : ChangeSpec := { name := "decodeSingles", fn := fun _ => fun
  | [d1, d2, d3] => { results := [.lit (.bool false)], args := [d1, d2, d3] }
  | _ => none }
def DecodeSinglesWrongFalsely : Prop := decodeSinglesRow.holds Try.pinned (OpenSpec.ofChange decodeSinglesWrong)

/-- 'ferrymanlaw10.DecodeNone': WHATEVER THE INPUT: true; the input reads as it did. -/
def decodeNoneSpec : ChangeSpec := { name := "decodeNone", fn := fun _ => fun
  | [d1, d2] => { results := [.lit (.bool true)], args := [d1, d2] }
  | _ => none }
def decodeNoneRow : OpenClaim := { program := "ytpockhoacfkjaaa", sum := "7c7d1a36a304c1adf2ed622edf226d6f918093d7247962ac92c82564036daeb8", func := "ferryman/ferrymanlaw10.DecodeNone", spec := "decodeNone", unfollowed := true, recurses := true, apart := false }
def DecodeNoneSaid : Prop := decodeNoneRow.holds Try.pinned (OpenSpec.ofChange decodeNoneSpec)

/-- ITS FALSE NEIGHBOUR: 'it returns false'. Refute it at one input. -/
def decodeNoneWrong : ChangeSpec := { name := "decodeNone", fn := fun _ => fun
  | [d1, d2] => { results := [.lit (.bool false)], args := [d1, d2] }
  | _ => none }
def DecodeNoneWrongFalsely : Prop := decodeNoneRow.holds Try.pinned (OpenSpec.ofChange decodeNoneWrong)

/-- 'ferrymanlaw16.BlockRows': WHATEVER THE INPUT: true; the input reads as it did. -/
def blockRowsSpec : ChangeSpec := { name := "blockRows", fn := fun _ => fun
  | [d1, d2] => { results := [.lit (.bool true)], args := [d1, d2] }
  | _ => none }
def blockRowsRow : OpenClaim := { program := "ytpockhoacfkjaaa", sum := "7c7d1a36a304c1adf2ed622edf226d6f918093d7247962ac92c82564036daeb8", func := "ferryman/ferrymanlaw16.BlockRows", spec := "blockRows", unfollowed := true, recurses := true, apart := false }
def BlockRowsSaid : Prop := blockRowsRow.holds Try.pinned (OpenSpec.ofChange blockRowsSpec)

/-- ITS FALSE NEIGHBOUR: 'it returns false'. Refute it at one input. -/
def blockRowsWrong : ChangeSpec := { name := "blockRows", fn := fun _ => fun
  | [d1, d2] => { results := [.lit (.bool false)], args := [d1, d2] }
  | _ => none }
def BlockRowsWrongFalsely : Prop := blockRowsRow.holds Try.pinned (OpenSpec.ofChange blockRowsWrong)

/-- 'ferrymanlaw16.BlockEdges': WHATEVER THE INPUT: true; the input reads as it did. -/
def blockEdgesSpec : ChangeSpec := { name := "blockEdges", fn := fun _ => fun
  | [d] => { results := [.lit (.bool true)], args := [d] }
  | _ => none }
def blockEdgesRow : OpenClaim := { program := "ytpockhoacfkjaaa", sum := "7c7d1a36a304c1adf2ed622edf226d6f918093d7247962ac92c82564036daeb8", func := "ferryman/ferrymanlaw16.BlockEdges", spec := "blockEdges", unfollowed := true, recurses := true, apart := false }
def BlockEdgesSaid : Prop := blockEdgesRow.holds Try.pinned (OpenSpec.ofChange blockEdgesSpec)

/-- ITS FALSE NEIGHBOUR: 'it returns false'. Refute it at one input. -/
def blockEdgesWrong : ChangeSpec := { name := "blockEdges", fn := fun _ => fun
  | [d] => { results := [.lit (.bool false)], args := [d] }
  | _ => none }
def BlockEdgesWrongFalsely : Prop := blockEdgesRow.holds Try.pinned (OpenSpec.ofChange blockEdgesWrong)

/- THE SECOND FORM. 'bulk': how many values and letters a reading holds, each counted each time it is reached (what is shared counts as often as it is met; a slice's spare places count too). A statement '..UptoSaid' is the law's where the arguments, and the package variables that the reading takes, are together of bulk at most 1048576: NARROWER than '..Said'. Prove '..Said' where nothing that the law and all that it calls make is longer than what came in: it says more and counts as full. Else prove '..UptoSaid'. A law counts once. -/
mutual
def uptoBulk {H : Type} : DataW H → Nat
  | .lit (.string bytes) => bytes.length + 1
  | .lit _ => 1
  | .nil => 1
  | .ptr d => uptoBulk d + 1
  | .slice elems spare => uptoBulkAll elems + uptoBulkAll spare + 1
  | .agg parts => uptoBulkAll parts + 1
  | .iface _ d => uptoBulk d + 1
  | .map entries => uptoBulkEntries entries + 1
  | .held _ => 1
def uptoBulkAll {H : Type} : List (DataW H) → Nat
  | [] => 0
  | d :: r => uptoBulk d + uptoBulkAll r
def uptoBulkEntries {H : Type} : List (Lit × DataW H) → Nat
  | [] => 0
  | x :: r => uptoBulkEntry x + uptoBulkEntries r
def uptoBulkEntry {H : Type} : Lit × DataW H → Nat
  | (.string bytes, d) => bytes.length + uptoBulk d + 1
  | (_, d) => uptoBulk d + 1
 end
def uptoSmall : (H : Type) → List (DataW H) → Bool := fun _ ds => decide (uptoBulkAll ds ≤ 1048576)
def OpenSpec.upto (s : _root_.Go.ChangeSpec) : _root_.Go.OpenSpec := { _root_.Go.OpenSpec.ofChange s with cond := some uptoSmall }

/-- 'ferrymanlaw10.DecodeTells', WHERE WHAT IT READS IS OF BULK AT MOST 1048576: true; the input reads as it did. -/
def decodeTellsUptoRow : OpenClaim := { program := "ytpockhoacfkjaaa", sum := "7c7d1a36a304c1adf2ed622edf226d6f918093d7247962ac92c82564036daeb8", func := "ferryman/ferrymanlaw10.DecodeTells", spec := "decodeTells", unfollowed := true, recurses := true, apart := false, narrowed := true }
def DecodeTellsUptoSaid : Prop := decodeTellsUptoRow.holds Try.pinned (OpenSpec.upto decodeTellsSpec)

/-- 'ferrymanlaw10.DecodeFront', WHERE WHAT IT READS IS OF BULK AT MOST 1048576: true; the input reads as it did. -/
def decodeFrontUptoRow : OpenClaim := { program := "ytpockhoacfkjaaa", sum := "7c7d1a36a304c1adf2ed622edf226d6f918093d7247962ac92c82564036daeb8", func := "ferryman/ferrymanlaw10.DecodeFront", spec := "decodeFront", unfollowed := true, recurses := true, apart := false, narrowed := true }
def DecodeFrontUptoSaid : Prop := decodeFrontUptoRow.holds Try.pinned (OpenSpec.upto decodeFrontSpec)

/-- 'ferrymanlaw10.DecodeForms', WHERE WHAT IT READS IS OF BULK AT MOST 1048576: true; the input reads as it did. -/
def decodeFormsUptoRow : OpenClaim := { program := "ytpockhoacfkjaaa", sum := "7c7d1a36a304c1adf2ed622edf226d6f918093d7247962ac92c82564036daeb8", func := "ferryman/ferrymanlaw10.DecodeForms", spec := "decodeForms", unfollowed := true, recurses := true, apart := false, narrowed := true }
def DecodeFormsUptoSaid : Prop := decodeFormsUptoRow.holds Try.pinned (OpenSpec.upto decodeFormsSpec)

/-- 'ferrymanlaw10.DecodeGroups', WHERE WHAT IT READS IS OF BULK AT MOST 1048576: true; the input reads as it did. -/
def decodeGroupsUptoRow : OpenClaim := { program := "ytpockhoacfkjaaa", sum := "7c7d1a36a304c1adf2ed622edf226d6f918093d7247962ac92c82564036daeb8", func := "ferryman/ferrymanlaw10.DecodeGroups", spec := "decodeGroups", unfollowed := true, recurses := true, apart := false, narrowed := true }
def DecodeGroupsUptoSaid : Prop := decodeGroupsUptoRow.holds Try.pinned (OpenSpec.upto decodeGroupsSpec)

/-- 'ferrymanlaw10.DecodeSingles', WHERE WHAT IT READS IS OF BULK AT MOST 1048576: true; the input reads as it did. -/
def decodeSinglesUptoRow : OpenClaim := { program := "ytpockhoacfkjaaa", sum := "7c7d1a36a304c1adf2ed622edf226d6f918093d7247962ac92c82564036daeb8", func := "ferryman/ferrymanlaw10.DecodeSingles", spec := "decodeSingles", unfollowed := true, recurses := true, apart := false, narrowed := true }
def DecodeSinglesUptoSaid : Prop := decodeSinglesUptoRow.holds Try.pinned (OpenSpec.upto decodeSinglesSpec)

/-- 'ferrymanlaw10.DecodeNone', WHERE WHAT IT READS IS OF BULK AT MOST 1048576: true; the input reads as it did. -/
def decodeNoneUptoRow : OpenClaim := { program := "ytpockhoacfkjaaa", sum := "7c7d1a36a304c1adf2ed622edf226d6f918093d7247962ac92c82564036daeb8", func := "ferryman/ferrymanlaw10.DecodeNone", spec := "decodeNone", unfollowed := true, recurses := true, apart := false, narrowed := true }
def DecodeNoneUptoSaid : Prop := decodeNoneUptoRow.holds Try.pinned (OpenSpec.upto decodeNoneSpec)

/-- 'ferrymanlaw16.BlockRows', WHERE WHAT IT READS IS OF BULK AT MOST 1048576: true; the input reads as it did. -/
def blockRowsUptoRow : OpenClaim := { program := "ytpockhoacfkjaaa", sum := "7c7d1a36a304c1adf2ed622edf226d6f918093d7247962ac92c82564036daeb8", func := "ferryman/ferrymanlaw16.BlockRows", spec := "blockRows", unfollowed := true, recurses := true, apart := false, narrowed := true }
def BlockRowsUptoSaid : Prop := blockRowsUptoRow.holds Try.pinned (OpenSpec.upto blockRowsSpec)

/-- 'ferrymanlaw16.BlockEdges', WHERE WHAT IT READS IS OF BULK AT MOST 1048576: true; the input reads as it did. -/
def blockEdgesUptoRow : OpenClaim := { program := "ytpockhoacfkjaaa", sum := "7c7d1a36a304c1adf2ed622edf226d6f918093d7247962ac92c82564036daeb8", func := "ferryman/ferrymanlaw16.BlockEdges", spec := "blockEdges", unfollowed := true, recurses := true, apart := false, narrowed := true }
def BlockEdgesUptoSaid : Prop := blockEdgesUptoRow.holds Try.pinned (OpenSpec.upto blockEdgesSpec)

end Rows
end Go.Proofs.Ytpockhoacfkjaaa
