/-
  No cell of these rows narrows 'for every input' (looked for: loops, veiled, ifaces, maps, wideKeys, modest, calm, conditions, laid).
  DERIVED. THE GIVEN ROWS OF THIS SEAT. 6 by the template 'for every input the law returns true; each argument reads behind the call as it read before'; 0 by the template 'total and deterministic' (their statements: YtceohjfflecpjaaTotals.lean).
  GIVEN WITH THE SEED: the statements are not yours to turn. If you find one false, say at which input.
  Laid BY PROGRAM, IN A SANDBOX (cutbox-rows.mjs): the forced cells as the released guide's own fill.sh prints them over the translation 2aaefe9399364631… (all of the seat's roots in one cut). By AI agents, Wed Nov 11 2026. No macro, syntax, notation, axiom, sorry.
-/
import Derived.Test.YtceohjfflecpjaaChecked
import GoSem.Claim
import GoSem.ClaimJoined
import GoSem.ClaimMapViews
import Derived.JoinedTies
import Derived.KernelRfl
namespace Go.Proofs.Ytceohjfflecpjaa
/- THE CELL 'sum', in the pinned program and in every row, IS THE sha256 OF THE DUMP (.gsa) THAT YtceohjfflecpjaaProg.lean LOADS. Nothing in Lean hashes anything: it is a label: what it is worth is what the hold of that sum in a sandbox is worth. -/
noncomputable def Try.pinned : Pinned := { name := "ytceohjfflecpjaa", sum := "2aaefe9399364631347f4a1f216df3dfe237b5a1fc11c6464d898256a3d87d07", checked := Try.checked }
namespace Rows
def none {H : Type} : Left H := { results := [], args := [] }

/-- 'ferrymanlaw6.PageBytes': WHATEVER THE INPUT: true; the input reads as it did. -/
def pageBytesSpec : ChangeSpec := { name := "pageBytes", fn := fun _ => fun
  | [d1, d2, d3] => { results := [.lit (.bool true)], args := [d1, d2, d3] }
  | _ => none }
def pageBytesRow : OpenClaim := { program := "ytceohjfflecpjaa", sum := "2aaefe9399364631347f4a1f216df3dfe237b5a1fc11c6464d898256a3d87d07", func := "ferryman/ferrymanlaw6.PageBytes", spec := "pageBytes", unfollowed := true, recurses := true, apart := false }
def PageBytesSaid : Prop := pageBytesRow.holds Try.pinned (OpenSpec.ofChange pageBytesSpec)

/-- ITS FALSE NEIGHBOUR: 'it returns false'. Refute it at one input. -/
def pageBytesWrong : ChangeSpec := { name := "pageBytes", fn := fun _ => fun
  | [d1, d2, d3] => { results := [.lit (.bool false)], args := [d1, d2, d3] }
  | _ => none }
def PageBytesWrongFalsely : Prop := pageBytesRow.holds Try.pinned (OpenSpec.ofChange pageBytesWrong)

/-- 'ferrymanlaw6.PageForgets': WHATEVER THE INPUT: true; the input reads as it did. -/
def pageForgetsSpec : ChangeSpec := { name := "pageForgets", fn := fun _ => fun
  | [d1, d2, d3] => { results := [.lit (.bool true)], args := [d1, d2, d3] }
  | _ => none }
def pageForgetsRow : OpenClaim := { program := "ytceohjfflecpjaa", sum := "2aaefe9399364631347f4a1f216df3dfe237b5a1fc11c6464d898256a3d87d07", func := "ferryman/ferrymanlaw6.PageForgets", spec := "pageForgets", unfollowed := true, recurses := true, apart := false }
def PageForgetsSaid : Prop := pageForgetsRow.holds Try.pinned (OpenSpec.ofChange pageForgetsSpec)

/-- ITS FALSE NEIGHBOUR: 'it returns false'. Refute it at one input. -/
def pageForgetsWrong : ChangeSpec := { name := "pageForgets", fn := fun _ => fun
  | [d1, d2, d3] => { results := [.lit (.bool false)], args := [d1, d2, d3] }
  | _ => none }
def PageForgetsWrongFalsely : Prop := pageForgetsRow.holds Try.pinned (OpenSpec.ofChange pageForgetsWrong)

/-- 'ferrymanlaw6.PageRights': WHATEVER THE INPUT: true; the input reads as it did. -/
def pageRightsSpec : ChangeSpec := { name := "pageRights", fn := fun _ => fun
  | [d1, d2, d3, d4] => { results := [.lit (.bool true)], args := [d1, d2, d3, d4] }
  | _ => none }
def pageRightsRow : OpenClaim := { program := "ytceohjfflecpjaa", sum := "2aaefe9399364631347f4a1f216df3dfe237b5a1fc11c6464d898256a3d87d07", func := "ferryman/ferrymanlaw6.PageRights", spec := "pageRights", unfollowed := true, recurses := true, apart := false }
def PageRightsSaid : Prop := pageRightsRow.holds Try.pinned (OpenSpec.ofChange pageRightsSpec)

/-- ITS FALSE NEIGHBOUR: 'it returns false'. Refute it at one input. -/
def pageRightsWrong : ChangeSpec := { name := "pageRights", fn := fun _ => fun
  | [d1, d2, d3, d4] => { results := [.lit (.bool false)], args := [d1, d2, d3, d4] }
  | _ => none }
def PageRightsWrongFalsely : Prop := pageRightsRow.holds Try.pinned (OpenSpec.ofChange pageRightsWrong)

/-- 'ferrymanlaw6.PageWrongs': WHATEVER THE INPUT: true; the input reads as it did. -/
def pageWrongsSpec : ChangeSpec := { name := "pageWrongs", fn := fun _ => fun
  | [d1, d2, d3] => { results := [.lit (.bool true)], args := [d1, d2, d3] }
  | _ => none }
def pageWrongsRow : OpenClaim := { program := "ytceohjfflecpjaa", sum := "2aaefe9399364631347f4a1f216df3dfe237b5a1fc11c6464d898256a3d87d07", func := "ferryman/ferrymanlaw6.PageWrongs", spec := "pageWrongs", unfollowed := true, recurses := true, apart := false }
def PageWrongsSaid : Prop := pageWrongsRow.holds Try.pinned (OpenSpec.ofChange pageWrongsSpec)

/-- ITS FALSE NEIGHBOUR: 'it returns false'. Refute it at one input. -/
def pageWrongsWrong : ChangeSpec := { name := "pageWrongs", fn := fun _ => fun
  | [d1, d2, d3] => { results := [.lit (.bool false)], args := [d1, d2, d3] }
  | _ => none }
def PageWrongsWrongFalsely : Prop := pageWrongsRow.holds Try.pinned (OpenSpec.ofChange pageWrongsWrong)

/-- 'ferrymanlaw6.PageSpans': WHATEVER THE INPUT: true; the input reads as it did. -/
def pageSpansSpec : ChangeSpec := { name := "pageSpans", fn := fun _ => fun
  | [d1, d2, d3] => { results := [.lit (.bool true)], args := [d1, d2, d3] }
  | _ => none }
def pageSpansRow : OpenClaim := { program := "ytceohjfflecpjaa", sum := "2aaefe9399364631347f4a1f216df3dfe237b5a1fc11c6464d898256a3d87d07", func := "ferryman/ferrymanlaw6.PageSpans", spec := "pageSpans", unfollowed := true, recurses := true, apart := false }
def PageSpansSaid : Prop := pageSpansRow.holds Try.pinned (OpenSpec.ofChange pageSpansSpec)

/-- ITS FALSE NEIGHBOUR: 'it returns false'. Refute it at one input. -/
def pageSpansWrong : ChangeSpec := { name := "pageSpans", fn := fun _ => fun
  | [d1, d2, d3] => { results := [.lit (.bool false)], args := [d1, d2, d3] }
  | _ => none }
def PageSpansWrongFalsely : Prop := pageSpansRow.holds Try.pinned (OpenSpec.ofChange pageSpansWrong)

/-- 'ferrymanlaw6.PagePlays': WHATEVER THE INPUT: true; the input reads as it did. -/
def pagePlaysSpec : ChangeSpec := { name := "pagePlays", fn := fun _ => fun
  | [d] => { results := [.lit (.bool true)], args := [d] }
  | _ => none }
def pagePlaysRow : OpenClaim := { program := "ytceohjfflecpjaa", sum := "2aaefe9399364631347f4a1f216df3dfe237b5a1fc11c6464d898256a3d87d07", func := "ferryman/ferrymanlaw6.PagePlays", spec := "pagePlays", unfollowed := true, recurses := true, apart := false }
def PagePlaysSaid : Prop := pagePlaysRow.holds Try.pinned (OpenSpec.ofChange pagePlaysSpec)

/-- ITS FALSE NEIGHBOUR: 'it returns false'. Refute it at one input. -/
def pagePlaysWrong : ChangeSpec := { name := "pagePlays", fn := fun _ => fun
  | [d] => { results := [.lit (.bool false)], args := [d] }
  | _ => none }
def PagePlaysWrongFalsely : Prop := pagePlaysRow.holds Try.pinned (OpenSpec.ofChange pagePlaysWrong)

/- THE SECOND FORM. 'bulk': how many values and letters a reading holds, each counted each time it is reached (what is shared counts as often as it is met; a slice's spare places count too). A statement '..UptoSaid' is the law's where the arguments, and the package variables that the reading takes, are together of bulk at most 1048576: NARROWER than '..Said'. Prove '..Said' where nothing that the law and all that it calls make is longer than what came in: it says more and counts as full. Else prove '..UptoSaid'. A law counts once. -/
mutual
def uptoBulk {H : Type} : DataW H → Nat
  | .lit (.string bytes) => bytes.length + 1
  | .lit _ => 1
  | .nil => 1
  | .ptr d => uptoBulk d + 1
  | .slice elems spare => uptoBulkAll elems + uptoBulkAll spare + 1
  | .agg parts => uptoBulkAll parts + 1
  | .iface _ d => uptoBulk d + 1
  | .map entries => uptoBulkEntries entries + 1
  | .held _ => 1
def uptoBulkAll {H : Type} : List (DataW H) → Nat
  | [] => 0
  | d :: r => uptoBulk d + uptoBulkAll r
def uptoBulkEntries {H : Type} : List (Lit × DataW H) → Nat
  | [] => 0
  | x :: r => uptoBulkEntry x + uptoBulkEntries r
def uptoBulkEntry {H : Type} : Lit × DataW H → Nat
  | (.string bytes, d) => bytes.length + uptoBulk d + 1
  | (_, d) => uptoBulk d + 1
 end
def uptoSmall : (H : Type) → List (DataW H) → Bool := fun _ ds => decide (uptoBulkAll ds ≤ 1048576)
def OpenSpec.upto (s : _root_.Go.ChangeSpec) : _root_.Go.OpenSpec := { _root_.Go.OpenSpec.ofChange s with cond := some uptoSmall }

/-- 'ferrymanlaw6.PageBytes', WHERE WHAT IT READS IS OF BULK AT MOST 1048576: true; the input reads as it did. -/
def pageBytesUptoRow : OpenClaim := { program := "ytceohjfflecpjaa", sum := "2aaefe9399364631347f4a1f216df3dfe237b5a1fc11c6464d898256a3d87d07", func := "ferryman/ferrymanlaw6.PageBytes", spec := "pageBytes", unfollowed := true, recurses := true, apart := false, narrowed := true }
def PageBytesUptoSaid : Prop := pageBytesUptoRow.holds Try.pinned (OpenSpec.upto pageBytesSpec)

/-- 'ferrymanlaw6.PageForgets', WHERE WHAT IT READS IS OF BULK AT MOST 1048576: true; the input reads as it did. -/
def pageForgetsUptoRow : OpenClaim := { program := "ytceohjfflecpjaa", sum := "2aaefe9399364631347f4a1f216df3dfe237b5a1fc11c6464d898256a3d87d07", func := "ferryman/ferrymanlaw6.PageForgets", spec := "pageForgets", unfollowed := true, recurses := true, apart := false, narrowed := true }
def PageForgetsUptoSaid : Prop := pageForgetsUptoRow.holds Try.pinned (OpenSpec.upto pageForgetsSpec)

/-- 'ferrymanlaw6.PageRights', WHERE WHAT IT READS IS OF BULK AT MOST 1048576: true; the input reads as it did. -/
def pageRightsUptoRow : OpenClaim := { program := "ytceohjfflecpjaa", sum := "2aaefe9399364631347f4a1f216df3dfe237b5a1fc11c6464d898256a3d87d07", func := "ferryman/ferrymanlaw6.PageRights", spec := "pageRights", unfollowed := true, recurses := true, apart := false, narrowed := true }
def PageRightsUptoSaid : Prop := pageRightsUptoRow.holds Try.pinned (OpenSpec.upto pageRightsSpec)

/-- 'ferrymanlaw6.PageWrongs', WHERE WHAT IT READS IS OF BULK AT MOST 1048576: true; the input reads as it did. -/
def pageWrongsUptoRow : OpenClaim := { program := "ytceohjfflecpjaa", sum := "2aaefe9399364631347f4a1f216df3dfe237b5a1fc11c6464d898256a3d87d07", func := "ferryman/ferrymanlaw6.PageWrongs", spec := "pageWrongs", unfollowed := true, recurses := true, apart := false, narrowed := true }
def PageWrongsUptoSaid : Prop := pageWrongsUptoRow.holds Try.pinned (OpenSpec.upto pageWrongsSpec)

/-- 'ferrymanlaw6.PageSpans', WHERE WHAT IT READS IS OF BULK AT MOST 1048576: true; the input reads as it did. -/
def pageSpansUptoRow : OpenClaim := { program := "ytceohjfflecpjaa", sum := "2aaefe9399364631347f4a1f216df3dfe237b5a1fc11c6464d898256a3d87d07", func := "ferryman/ferrymanlaw6.PageSpans", spec := "pageSpans", unfollowed := true, recurses := true, apart := false, narrowed := true }
def PageSpansUptoSaid : Prop := pageSpansUptoRow.holds Try.pinned (OpenSpec.upto pageSpansSpec)

/-- 'ferrymanlaw6.PagePlays', WHERE WHAT IT READS IS OF BULK AT MOST 1048576: true; the input reads as it did. -/
def pagePlaysUptoRow : OpenClaim := { program := "ytceohjfflecpjaa", sum := "2aaefe9399364631347f4a1f216df3dfe237b5a1fc11c6464d898256a3d87d07", func := "ferryman/ferrymanlaw6.PagePlays", spec := "pagePlays", unfollowed := true, recurses := true, apart := false, narrowed := true }
def PagePlaysUptoSaid : Prop := pagePlaysUptoRow.holds Try.pinned (OpenSpec.upto pagePlaysSpec)

end Rows
end Go.Proofs.Ytceohjfflecpjaa
