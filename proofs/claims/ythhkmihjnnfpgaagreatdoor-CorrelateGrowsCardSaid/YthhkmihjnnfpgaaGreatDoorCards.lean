/-
  DERIVED. GIVEN WITH THE SEED: THE CARDS: each row of YthhkmihjnnfpgaaGreatDoorRows.lean that lists a variable, with what it lists TIED to the program's text (the seventh form; the later family's looks); each row that meets fmt, with fmt's text TOLD by the authors' own Lean function (tested against real Go, not proved from fmt's source: count such statements apart). THE CARD IS WHAT COUNTS. Prove the row's statement (the work); the ties are given (YthhkmihjnnfpgaaGreatDoorTie.lean); close each card by the builder's one call (the guide's Derived/Test/ToyasCard.lean, 'card_holds'). Laid BY PROGRAM, IN A SANDBOX (cutbox-door.mjs). By AI agents, Wed Nov 11 2026. No macro, syntax, notation, axiom, sorry.
-/
import Derived.Test.YthhkmihjnnfpgaaGreatDoorRows
import GoSem.ClaimSeven
namespace Go.Proofs.YthhkmihjnnfpgaaGreatDoor
namespace Rows

/-- THE TIED CARD OF 'klippelaw44.CorrelateBest'. -/
def correlateBestCard : Claim7 := { stood := { row := correlateBestRow, standIns := [], harness := (true, "c0ee8b7db5009c05984666c87422f4cf0902508de880061f5e364266c9133f30"), looks := true }, kinds := [], alts := [], laidByText := true, laidKinds := [.data, .data, .data, .sentinel, .sentinel], laidTests := true, laidLooks := .later }
def CorrelateBestCardSaid : Prop := Claim7.holds Tryz.pinned (.plain (OpenSpec.ofChange correlateBestSpec)) correlateBestCard

/-- THE TIED CARD OF 'klippelaw44.CorrelateTurns'. -/
def correlateTurnsCard : Claim7 := { stood := { row := correlateTurnsRow, standIns := [], harness := (true, "c0ee8b7db5009c05984666c87422f4cf0902508de880061f5e364266c9133f30"), looks := true }, kinds := [], alts := [], laidByText := true, laidKinds := [.data, .data, .data, .sentinel, .sentinel], laidTests := true, laidLooks := .later }
def CorrelateTurnsCardSaid : Prop := Claim7.holds Tryz.pinned (.plain (OpenSpec.ofChange correlateTurnsSpec)) correlateTurnsCard

/-- THE TIED CARD OF 'klippelaw44.CorrelateCosts'. -/
def correlateCostsCard : Claim7 := { stood := { row := correlateCostsRow, standIns := [], harness := (true, "c0ee8b7db5009c05984666c87422f4cf0902508de880061f5e364266c9133f30"), looks := true }, kinds := [], alts := [], laidByText := true, laidKinds := [.data, .data, .data, .sentinel, .sentinel], laidTests := true, laidLooks := .later }
def CorrelateCostsCardSaid : Prop := Claim7.holds Tryz.pinned (.plain (OpenSpec.ofChange correlateCostsSpec)) correlateCostsCard

/-- THE TIED CARD OF 'klippelaw44.CorrelateItself'. -/
def correlateItselfCard : Claim7 := { stood := { row := correlateItselfRow, standIns := [], harness := (true, "c0ee8b7db5009c05984666c87422f4cf0902508de880061f5e364266c9133f30"), looks := true }, kinds := [], alts := [], laidByText := true, laidKinds := [.data, .data, .data, .sentinel, .sentinel], laidTests := true, laidLooks := .later }
def CorrelateItselfCardSaid : Prop := Claim7.holds Tryz.pinned (.plain (OpenSpec.ofChange correlateItselfSpec)) correlateItselfCard

/-- THE TIED CARD OF 'klippelaw44.CorrelateTotals'. -/
def correlateTotalsCard : Claim7 := { stood := { row := correlateTotalsRow, standIns := [], harness := (true, "c0ee8b7db5009c05984666c87422f4cf0902508de880061f5e364266c9133f30"), looks := true }, kinds := [], alts := [], laidByText := true, laidKinds := [.data, .data, .data, .sentinel, .sentinel], laidTests := true, laidLooks := .later }
def CorrelateTotalsCardSaid : Prop := Claim7.holds Tryz.pinned (.plain (OpenSpec.ofChange correlateTotalsSpec)) correlateTotalsCard

/-- THE TIED CARD OF 'klippelaw44.CorrelateLists'. -/
def correlateListsCard : Claim7 := { stood := { row := correlateListsRow, standIns := [], harness := (true, "c0ee8b7db5009c05984666c87422f4cf0902508de880061f5e364266c9133f30"), looks := true }, kinds := [], alts := [], laidByText := true, laidKinds := [.data, .data, .data, .sentinel, .sentinel], laidTests := true, laidLooks := .later }
def CorrelateListsCardSaid : Prop := Claim7.holds Tryz.pinned (.plain (OpenSpec.ofChange correlateListsSpec)) correlateListsCard

/-- THE TIED CARD OF 'klippelaw44.CorrelateGraph'. -/
def correlateGraphCard : Claim7 := { stood := { row := correlateGraphRow, standIns := [], harness := (true, "c0ee8b7db5009c05984666c87422f4cf0902508de880061f5e364266c9133f30"), looks := true }, kinds := [], alts := [], laidByText := true, laidKinds := [.data, .data, .data, .sentinel, .sentinel], laidTests := true, laidLooks := .later }
def CorrelateGraphCardSaid : Prop := Claim7.holds Tryz.pinned (.plain (OpenSpec.ofChange correlateGraphSpec)) correlateGraphCard

/-- THE TIED CARD OF 'klippelaw44.CorrelateVerifies'. -/
def correlateVerifiesCard : Claim7 := { stood := { row := correlateVerifiesRow, standIns := [], harness := (true, "c0ee8b7db5009c05984666c87422f4cf0902508de880061f5e364266c9133f30"), looks := true }, kinds := [], alts := [], laidByText := true, laidKinds := [.data, .data, .data, .sentinel, .sentinel], laidTests := true, laidLooks := .later }
def CorrelateVerifiesCardSaid : Prop := Claim7.holds Tryz.pinned (.plain (OpenSpec.ofChange correlateVerifiesSpec)) correlateVerifiesCard

/-- THE TIED CARD OF 'klippelaw44.CorrelateGrows'. -/
def correlateGrowsCard : Claim7 := { stood := { row := correlateGrowsRow, standIns := [], harness := (true, "c0ee8b7db5009c05984666c87422f4cf0902508de880061f5e364266c9133f30"), looks := true }, kinds := [], alts := [], laidByText := true, laidKinds := [.data, .data, .data, .sentinel, .sentinel], laidTests := true, laidLooks := .later }
def CorrelateGrowsCardSaid : Prop := Claim7.holds Tryz.pinned (.plain (OpenSpec.ofChange correlateGrowsSpec)) correlateGrowsCard

/-- THE TIED CARD OF 'klippelaw44.CorrelateChecks'. -/
def correlateChecksCard : Claim7 := { stood := { row := correlateChecksRow, standIns := [], harness := (true, "c0ee8b7db5009c05984666c87422f4cf0902508de880061f5e364266c9133f30"), looks := true }, kinds := [], alts := [], laidByText := true, laidKinds := [.data, .data, .data, .sentinel, .sentinel], laidTests := true, laidLooks := .later }
def CorrelateChecksCardSaid : Prop := Claim7.holds Tryz.pinned (.plain (OpenSpec.ofChange correlateChecksSpec)) correlateChecksCard

/-- THE SECOND FORM's CARD OF 'klippelaw44.CorrelateBest'. -/
def correlateBestUptoCard : Claim7 := { stood := { row := correlateBestUptoRow, standIns := [], harness := (true, "c0ee8b7db5009c05984666c87422f4cf0902508de880061f5e364266c9133f30"), looks := true }, kinds := [], alts := [], laidByText := true, laidKinds := [.data, .data, .data, .sentinel, .sentinel], laidTests := true, laidLooks := .later }
def CorrelateBestUptoCardSaid : Prop := Claim7.holds Tryz.pinned (.plain (OpenSpec.upto correlateBestSpec)) correlateBestUptoCard

/-- THE SECOND FORM's CARD OF 'klippelaw44.CorrelateTurns'. -/
def correlateTurnsUptoCard : Claim7 := { stood := { row := correlateTurnsUptoRow, standIns := [], harness := (true, "c0ee8b7db5009c05984666c87422f4cf0902508de880061f5e364266c9133f30"), looks := true }, kinds := [], alts := [], laidByText := true, laidKinds := [.data, .data, .data, .sentinel, .sentinel], laidTests := true, laidLooks := .later }
def CorrelateTurnsUptoCardSaid : Prop := Claim7.holds Tryz.pinned (.plain (OpenSpec.upto correlateTurnsSpec)) correlateTurnsUptoCard

/-- THE SECOND FORM's CARD OF 'klippelaw44.CorrelateCosts'. -/
def correlateCostsUptoCard : Claim7 := { stood := { row := correlateCostsUptoRow, standIns := [], harness := (true, "c0ee8b7db5009c05984666c87422f4cf0902508de880061f5e364266c9133f30"), looks := true }, kinds := [], alts := [], laidByText := true, laidKinds := [.data, .data, .data, .sentinel, .sentinel], laidTests := true, laidLooks := .later }
def CorrelateCostsUptoCardSaid : Prop := Claim7.holds Tryz.pinned (.plain (OpenSpec.upto correlateCostsSpec)) correlateCostsUptoCard

/-- THE SECOND FORM's CARD OF 'klippelaw44.CorrelateItself'. -/
def correlateItselfUptoCard : Claim7 := { stood := { row := correlateItselfUptoRow, standIns := [], harness := (true, "c0ee8b7db5009c05984666c87422f4cf0902508de880061f5e364266c9133f30"), looks := true }, kinds := [], alts := [], laidByText := true, laidKinds := [.data, .data, .data, .sentinel, .sentinel], laidTests := true, laidLooks := .later }
def CorrelateItselfUptoCardSaid : Prop := Claim7.holds Tryz.pinned (.plain (OpenSpec.upto correlateItselfSpec)) correlateItselfUptoCard

/-- THE SECOND FORM's CARD OF 'klippelaw44.CorrelateTotals'. -/
def correlateTotalsUptoCard : Claim7 := { stood := { row := correlateTotalsUptoRow, standIns := [], harness := (true, "c0ee8b7db5009c05984666c87422f4cf0902508de880061f5e364266c9133f30"), looks := true }, kinds := [], alts := [], laidByText := true, laidKinds := [.data, .data, .data, .sentinel, .sentinel], laidTests := true, laidLooks := .later }
def CorrelateTotalsUptoCardSaid : Prop := Claim7.holds Tryz.pinned (.plain (OpenSpec.upto correlateTotalsSpec)) correlateTotalsUptoCard

/-- THE SECOND FORM's CARD OF 'klippelaw44.CorrelateLists'. -/
def correlateListsUptoCard : Claim7 := { stood := { row := correlateListsUptoRow, standIns := [], harness := (true, "c0ee8b7db5009c05984666c87422f4cf0902508de880061f5e364266c9133f30"), looks := true }, kinds := [], alts := [], laidByText := true, laidKinds := [.data, .data, .data, .sentinel, .sentinel], laidTests := true, laidLooks := .later }
def CorrelateListsUptoCardSaid : Prop := Claim7.holds Tryz.pinned (.plain (OpenSpec.upto correlateListsSpec)) correlateListsUptoCard

/-- THE SECOND FORM's CARD OF 'klippelaw44.CorrelateGraph'. -/
def correlateGraphUptoCard : Claim7 := { stood := { row := correlateGraphUptoRow, standIns := [], harness := (true, "c0ee8b7db5009c05984666c87422f4cf0902508de880061f5e364266c9133f30"), looks := true }, kinds := [], alts := [], laidByText := true, laidKinds := [.data, .data, .data, .sentinel, .sentinel], laidTests := true, laidLooks := .later }
def CorrelateGraphUptoCardSaid : Prop := Claim7.holds Tryz.pinned (.plain (OpenSpec.upto correlateGraphSpec)) correlateGraphUptoCard

/-- THE SECOND FORM's CARD OF 'klippelaw44.CorrelateVerifies'. -/
def correlateVerifiesUptoCard : Claim7 := { stood := { row := correlateVerifiesUptoRow, standIns := [], harness := (true, "c0ee8b7db5009c05984666c87422f4cf0902508de880061f5e364266c9133f30"), looks := true }, kinds := [], alts := [], laidByText := true, laidKinds := [.data, .data, .data, .sentinel, .sentinel], laidTests := true, laidLooks := .later }
def CorrelateVerifiesUptoCardSaid : Prop := Claim7.holds Tryz.pinned (.plain (OpenSpec.upto correlateVerifiesSpec)) correlateVerifiesUptoCard

/-- THE SECOND FORM's CARD OF 'klippelaw44.CorrelateGrows'. -/
def correlateGrowsUptoCard : Claim7 := { stood := { row := correlateGrowsUptoRow, standIns := [], harness := (true, "c0ee8b7db5009c05984666c87422f4cf0902508de880061f5e364266c9133f30"), looks := true }, kinds := [], alts := [], laidByText := true, laidKinds := [.data, .data, .data, .sentinel, .sentinel], laidTests := true, laidLooks := .later }
def CorrelateGrowsUptoCardSaid : Prop := Claim7.holds Tryz.pinned (.plain (OpenSpec.upto correlateGrowsSpec)) correlateGrowsUptoCard

/-- THE SECOND FORM's CARD OF 'klippelaw44.CorrelateChecks'. -/
def correlateChecksUptoCard : Claim7 := { stood := { row := correlateChecksUptoRow, standIns := [], harness := (true, "c0ee8b7db5009c05984666c87422f4cf0902508de880061f5e364266c9133f30"), looks := true }, kinds := [], alts := [], laidByText := true, laidKinds := [.data, .data, .data, .sentinel, .sentinel], laidTests := true, laidLooks := .later }
def CorrelateChecksUptoCardSaid : Prop := Claim7.holds Tryz.pinned (.plain (OpenSpec.upto correlateChecksSpec)) correlateChecksUptoCard
end Rows
end Go.Proofs.YthhkmihjnnfpgaaGreatDoor
