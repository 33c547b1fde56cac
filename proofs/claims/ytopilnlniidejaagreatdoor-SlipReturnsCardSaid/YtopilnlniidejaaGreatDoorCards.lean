/-
  DERIVED. GIVEN WITH THE SEED: THE CARDS: each row of YtopilnlniidejaaGreatDoorRows.lean that lists a variable, with what it lists TIED to the program's text (the seventh form; the later family's looks); each row that meets fmt, with fmt's text TOLD by the authors' own Lean function (tested against real Go, not proved from fmt's source: count such statements apart). THE CARD IS WHAT COUNTS. Prove the row's statement (the work); the ties are given (YtopilnlniidejaaGreatDoorTie.lean); close each card by the builder's one call (the guide's Derived/Test/ToyasCard.lean, 'card_holds'). Laid BY PROGRAM, IN A SANDBOX (cutbox-door.mjs). By AI agents, Wed Nov 11 2026. No macro, syntax, notation, axiom, sorry.
-/
import Derived.Test.YtopilnlniidejaaGreatDoorRows
import GoSem.ClaimSeven
namespace Go.Proofs.YtopilnlniidejaaGreatDoor
namespace Rows

/-- THE TIED CARD OF 'klippelaw42.SlipSolves'. -/
def slipSolvesCard : Claim7 := { stood := { row := slipSolvesRow, standIns := [], harness := (true, "91d69774c9f95da06cb7021bc31a8ff7ad5bf6714ffeab63c68e326b4216fdab"), looks := true }, kinds := [], alts := [], laidByText := true, laidKinds := [.data, .data, .data, .sentinel, .sentinel], laidTests := true, laidLooks := .later }
def SlipSolvesCardSaid : Prop := Claim7.holds Tryz.pinned (.plain (OpenSpec.ofChange slipSolvesSpec)) slipSolvesCard

/-- THE TIED CARD OF 'klippelaw42.SlipPierces'. -/
def slipPiercesCard : Claim7 := { stood := { row := slipPiercesRow, standIns := [], harness := (true, "91d69774c9f95da06cb7021bc31a8ff7ad5bf6714ffeab63c68e326b4216fdab"), looks := true }, kinds := [], alts := [], laidByText := true, laidKinds := [.data, .data, .data, .sentinel, .sentinel], laidTests := true, laidLooks := .later }
def SlipPiercesCardSaid : Prop := Claim7.holds Tryz.pinned (.plain (OpenSpec.ofChange slipPiercesSpec)) slipPiercesCard

/-- THE TIED CARD OF 'klippelaw42.SlipReturns'. -/
def slipReturnsCard : Claim7 := { stood := { row := slipReturnsRow, standIns := [], harness := (true, "91d69774c9f95da06cb7021bc31a8ff7ad5bf6714ffeab63c68e326b4216fdab"), looks := true }, kinds := [], alts := [], laidByText := true, laidKinds := [.data, .data, .data, .sentinel, .sentinel], laidTests := true, laidLooks := .later }
def SlipReturnsCardSaid : Prop := Claim7.holds Tryz.pinned (.plain (OpenSpec.ofChange slipReturnsSpec)) slipReturnsCard

/-- THE TIED CARD OF 'klippelaw42.SlipChecks'. -/
def slipChecksCard : Claim7 := { stood := { row := slipChecksRow, standIns := [], harness := (true, "91d69774c9f95da06cb7021bc31a8ff7ad5bf6714ffeab63c68e326b4216fdab"), looks := true }, kinds := [], alts := [], laidByText := true, laidKinds := [.data, .data, .data, .sentinel, .sentinel], laidTests := true, laidLooks := .later }
def SlipChecksCardSaid : Prop := Claim7.holds Tryz.pinned (.plain (OpenSpec.ofChange slipChecksSpec)) slipChecksCard

/-- THE TIED CARD OF 'klippelaw42.SlipParts'. -/
def slipPartsCard : Claim7 := { stood := { row := slipPartsRow, standIns := [], harness := (true, "91d69774c9f95da06cb7021bc31a8ff7ad5bf6714ffeab63c68e326b4216fdab"), looks := true }, kinds := [], alts := [], laidByText := true, laidKinds := [.data, .data, .data, .sentinel, .sentinel], laidTests := true, laidLooks := .later }
def SlipPartsCardSaid : Prop := Claim7.holds Tryz.pinned (.plain (OpenSpec.ofChange slipPartsSpec)) slipPartsCard

/-- THE TIED CARD OF 'klippelaw42.SlipCutoffs'. -/
def slipCutoffsCard : Claim7 := { stood := { row := slipCutoffsRow, standIns := [], harness := (true, "91d69774c9f95da06cb7021bc31a8ff7ad5bf6714ffeab63c68e326b4216fdab"), looks := true }, kinds := [], alts := [], laidByText := true, laidKinds := [.data, .data, .data, .sentinel, .sentinel], laidTests := true, laidLooks := .later }
def SlipCutoffsCardSaid : Prop := Claim7.holds Tryz.pinned (.plain (OpenSpec.ofChange slipCutoffsSpec)) slipCutoffsCard

/-- THE TIED CARD OF 'klippelaw42.SlipSeparations'. -/
def slipSeparationsCard : Claim7 := { stood := { row := slipSeparationsRow, standIns := [], harness := (true, "91d69774c9f95da06cb7021bc31a8ff7ad5bf6714ffeab63c68e326b4216fdab"), looks := true }, kinds := [], alts := [], laidByText := true, laidKinds := [.data, .data, .data, .sentinel, .sentinel], laidTests := true, laidLooks := .later }
def SlipSeparationsCardSaid : Prop := Claim7.holds Tryz.pinned (.plain (OpenSpec.ofChange slipSeparationsSpec)) slipSeparationsCard

/-- THE TIED CARD OF 'klippelaw42.SlipDilations'. -/
def slipDilationsCard : Claim7 := { stood := { row := slipDilationsRow, standIns := [], harness := (true, "91d69774c9f95da06cb7021bc31a8ff7ad5bf6714ffeab63c68e326b4216fdab"), looks := true }, kinds := [], alts := [], laidByText := true, laidKinds := [.data, .data, .data, .sentinel, .sentinel], laidTests := true, laidLooks := .later }
def SlipDilationsCardSaid : Prop := Claim7.holds Tryz.pinned (.plain (OpenSpec.ofChange slipDilationsSpec)) slipDilationsCard

/-- THE SECOND FORM's CARD OF 'klippelaw42.SlipSolves'. -/
def slipSolvesUptoCard : Claim7 := { stood := { row := slipSolvesUptoRow, standIns := [], harness := (true, "91d69774c9f95da06cb7021bc31a8ff7ad5bf6714ffeab63c68e326b4216fdab"), looks := true }, kinds := [], alts := [], laidByText := true, laidKinds := [.data, .data, .data, .sentinel, .sentinel], laidTests := true, laidLooks := .later }
def SlipSolvesUptoCardSaid : Prop := Claim7.holds Tryz.pinned (.plain (OpenSpec.upto slipSolvesSpec)) slipSolvesUptoCard

/-- THE SECOND FORM's CARD OF 'klippelaw42.SlipPierces'. -/
def slipPiercesUptoCard : Claim7 := { stood := { row := slipPiercesUptoRow, standIns := [], harness := (true, "91d69774c9f95da06cb7021bc31a8ff7ad5bf6714ffeab63c68e326b4216fdab"), looks := true }, kinds := [], alts := [], laidByText := true, laidKinds := [.data, .data, .data, .sentinel, .sentinel], laidTests := true, laidLooks := .later }
def SlipPiercesUptoCardSaid : Prop := Claim7.holds Tryz.pinned (.plain (OpenSpec.upto slipPiercesSpec)) slipPiercesUptoCard

/-- THE SECOND FORM's CARD OF 'klippelaw42.SlipReturns'. -/
def slipReturnsUptoCard : Claim7 := { stood := { row := slipReturnsUptoRow, standIns := [], harness := (true, "91d69774c9f95da06cb7021bc31a8ff7ad5bf6714ffeab63c68e326b4216fdab"), looks := true }, kinds := [], alts := [], laidByText := true, laidKinds := [.data, .data, .data, .sentinel, .sentinel], laidTests := true, laidLooks := .later }
def SlipReturnsUptoCardSaid : Prop := Claim7.holds Tryz.pinned (.plain (OpenSpec.upto slipReturnsSpec)) slipReturnsUptoCard

/-- THE SECOND FORM's CARD OF 'klippelaw42.SlipChecks'. -/
def slipChecksUptoCard : Claim7 := { stood := { row := slipChecksUptoRow, standIns := [], harness := (true, "91d69774c9f95da06cb7021bc31a8ff7ad5bf6714ffeab63c68e326b4216fdab"), looks := true }, kinds := [], alts := [], laidByText := true, laidKinds := [.data, .data, .data, .sentinel, .sentinel], laidTests := true, laidLooks := .later }
def SlipChecksUptoCardSaid : Prop := Claim7.holds Tryz.pinned (.plain (OpenSpec.upto slipChecksSpec)) slipChecksUptoCard

/-- THE SECOND FORM's CARD OF 'klippelaw42.SlipParts'. -/
def slipPartsUptoCard : Claim7 := { stood := { row := slipPartsUptoRow, standIns := [], harness := (true, "91d69774c9f95da06cb7021bc31a8ff7ad5bf6714ffeab63c68e326b4216fdab"), looks := true }, kinds := [], alts := [], laidByText := true, laidKinds := [.data, .data, .data, .sentinel, .sentinel], laidTests := true, laidLooks := .later }
def SlipPartsUptoCardSaid : Prop := Claim7.holds Tryz.pinned (.plain (OpenSpec.upto slipPartsSpec)) slipPartsUptoCard

/-- THE SECOND FORM's CARD OF 'klippelaw42.SlipCutoffs'. -/
def slipCutoffsUptoCard : Claim7 := { stood := { row := slipCutoffsUptoRow, standIns := [], harness := (true, "91d69774c9f95da06cb7021bc31a8ff7ad5bf6714ffeab63c68e326b4216fdab"), looks := true }, kinds := [], alts := [], laidByText := true, laidKinds := [.data, .data, .data, .sentinel, .sentinel], laidTests := true, laidLooks := .later }
def SlipCutoffsUptoCardSaid : Prop := Claim7.holds Tryz.pinned (.plain (OpenSpec.upto slipCutoffsSpec)) slipCutoffsUptoCard

/-- THE SECOND FORM's CARD OF 'klippelaw42.SlipSeparations'. -/
def slipSeparationsUptoCard : Claim7 := { stood := { row := slipSeparationsUptoRow, standIns := [], harness := (true, "91d69774c9f95da06cb7021bc31a8ff7ad5bf6714ffeab63c68e326b4216fdab"), looks := true }, kinds := [], alts := [], laidByText := true, laidKinds := [.data, .data, .data, .sentinel, .sentinel], laidTests := true, laidLooks := .later }
def SlipSeparationsUptoCardSaid : Prop := Claim7.holds Tryz.pinned (.plain (OpenSpec.upto slipSeparationsSpec)) slipSeparationsUptoCard

/-- THE SECOND FORM's CARD OF 'klippelaw42.SlipDilations'. -/
def slipDilationsUptoCard : Claim7 := { stood := { row := slipDilationsUptoRow, standIns := [], harness := (true, "91d69774c9f95da06cb7021bc31a8ff7ad5bf6714ffeab63c68e326b4216fdab"), looks := true }, kinds := [], alts := [], laidByText := true, laidKinds := [.data, .data, .data, .sentinel, .sentinel], laidTests := true, laidLooks := .later }
def SlipDilationsUptoCardSaid : Prop := Claim7.holds Tryz.pinned (.plain (OpenSpec.upto slipDilationsSpec)) slipDilationsUptoCard
end Rows
end Go.Proofs.YtopilnlniidejaaGreatDoor
