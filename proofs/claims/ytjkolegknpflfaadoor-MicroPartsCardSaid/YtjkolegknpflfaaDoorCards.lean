/-
  DERIVED. GIVEN WITH THE SEED: THE CARDS: each row of YtjkolegknpflfaaDoorRows.lean that lists a variable, with what it lists TIED to the program's text (the seventh form; the later family's looks); each row that meets fmt, with fmt's text TOLD by the authors' own Lean function (tested against real Go, not proved from fmt's source: count such statements apart). THE CARD IS WHAT COUNTS. Prove the row's statement (the work); the ties are given (YtjkolegknpflfaaDoorTie.lean); close each card by the builder's one call (the guide's Derived/Test/ToyasCard.lean, 'card_holds'). Laid BY PROGRAM, IN A SANDBOX (cutbox-door.mjs). By AI agents, Wed Nov 11 2026. No macro, syntax, notation, axiom, sorry.
-/
import Derived.Test.YtjkolegknpflfaaDoorRows
import GoSem.ClaimSeven
namespace Go.Proofs.YtjkolegknpflfaaDoor
namespace Rows

/-- THE TIED CARD OF 'ferrymanlaw18.MicroParts'. -/
def microPartsCard : Claim7 := { stood := { row := microPartsRow, standIns := [], harness := (true, "1c4110667ca3602c98b674f9ab06bd5e976445ddf2c775cf0af143aece0b99d8"), looks := true }, kinds := [], alts := [], laidByText := true, laidKinds := [.data, .data, .data], laidTests := true, laidLooks := .later }
def MicroPartsCardSaid : Prop := Claim7.holds Tryd.pinned (.plain (OpenSpec.ofChange microPartsSpec)) microPartsCard

/-- THE TIED CARD OF 'ferrymanlaw18.MicroBounds'. -/
def microBoundsCard : Claim7 := { stood := { row := microBoundsRow, standIns := [], harness := (true, "1c4110667ca3602c98b674f9ab06bd5e976445ddf2c775cf0af143aece0b99d8"), looks := true }, kinds := [], alts := [], laidByText := true, laidKinds := [.data, .data, .data], laidTests := true, laidLooks := .later }
def MicroBoundsCardSaid : Prop := Claim7.holds Tryd.pinned (.plain (OpenSpec.ofChange microBoundsSpec)) microBoundsCard

/-- THE TIED CARD OF 'ferrymanlaw18.MicroTemps'. -/
def microTempsCard : Claim7 := { stood := { row := microTempsRow, standIns := [], harness := (true, "1c4110667ca3602c98b674f9ab06bd5e976445ddf2c775cf0af143aece0b99d8"), looks := true }, kinds := [], alts := [], laidByText := true, laidKinds := [.data, .data, .data], laidTests := true, laidLooks := .later }
def MicroTempsCardSaid : Prop := Claim7.holds Tryd.pinned (.plain (OpenSpec.ofChange microTempsSpec)) microTempsCard

/-- THE TIED CARD OF 'ferrymanlaw18.MicroAsks'. -/
def microAsksCard : Claim7 := { stood := { row := microAsksRow, standIns := [], harness := (true, "1c4110667ca3602c98b674f9ab06bd5e976445ddf2c775cf0af143aece0b99d8"), looks := true }, kinds := [], alts := [], laidByText := true, laidKinds := [.data, .data, .data], laidTests := true, laidLooks := .later }
def MicroAsksCardSaid : Prop := Claim7.holds Tryd.pinned (.plain (OpenSpec.ofChange microAsksSpec)) microAsksCard

/-- THE SECOND FORM's CARD OF 'ferrymanlaw18.MicroParts'. -/
def microPartsUptoCard : Claim7 := { stood := { row := microPartsUptoRow, standIns := [], harness := (true, "1c4110667ca3602c98b674f9ab06bd5e976445ddf2c775cf0af143aece0b99d8"), looks := true }, kinds := [], alts := [], laidByText := true, laidKinds := [.data, .data, .data], laidTests := true, laidLooks := .later }
def MicroPartsUptoCardSaid : Prop := Claim7.holds Tryd.pinned (.plain (OpenSpec.upto microPartsSpec)) microPartsUptoCard

/-- THE SECOND FORM's CARD OF 'ferrymanlaw18.MicroBounds'. -/
def microBoundsUptoCard : Claim7 := { stood := { row := microBoundsUptoRow, standIns := [], harness := (true, "1c4110667ca3602c98b674f9ab06bd5e976445ddf2c775cf0af143aece0b99d8"), looks := true }, kinds := [], alts := [], laidByText := true, laidKinds := [.data, .data, .data], laidTests := true, laidLooks := .later }
def MicroBoundsUptoCardSaid : Prop := Claim7.holds Tryd.pinned (.plain (OpenSpec.upto microBoundsSpec)) microBoundsUptoCard

/-- THE SECOND FORM's CARD OF 'ferrymanlaw18.MicroTemps'. -/
def microTempsUptoCard : Claim7 := { stood := { row := microTempsUptoRow, standIns := [], harness := (true, "1c4110667ca3602c98b674f9ab06bd5e976445ddf2c775cf0af143aece0b99d8"), looks := true }, kinds := [], alts := [], laidByText := true, laidKinds := [.data, .data, .data], laidTests := true, laidLooks := .later }
def MicroTempsUptoCardSaid : Prop := Claim7.holds Tryd.pinned (.plain (OpenSpec.upto microTempsSpec)) microTempsUptoCard

/-- THE SECOND FORM's CARD OF 'ferrymanlaw18.MicroAsks'. -/
def microAsksUptoCard : Claim7 := { stood := { row := microAsksUptoRow, standIns := [], harness := (true, "1c4110667ca3602c98b674f9ab06bd5e976445ddf2c775cf0af143aece0b99d8"), looks := true }, kinds := [], alts := [], laidByText := true, laidKinds := [.data, .data, .data], laidTests := true, laidLooks := .later }
def MicroAsksUptoCardSaid : Prop := Claim7.holds Tryd.pinned (.plain (OpenSpec.upto microAsksSpec)) microAsksUptoCard
end Rows
end Go.Proofs.YtjkolegknpflfaaDoor
