/-
  DERIVED. GIVEN WITH THE SEED: THE CARDS: each row of YtnallacamijkeaaGreatDoorRows.lean that lists a variable, with what it lists TIED to the program's text (the seventh form; the later family's looks); each row that meets fmt, with fmt's text TOLD by the authors' own Lean function (tested against real Go, not proved from fmt's source: count such statements apart). THE CARD IS WHAT COUNTS. Prove the row's statement (the work); the ties are given (YtnallacamijkeaaGreatDoorTie.lean); close each card by the builder's one call (the guide's Derived/Test/ToyasCard.lean, 'card_holds'). Laid BY PROGRAM, IN A SANDBOX (cutbox-door.mjs). By AI agents, Wed Nov 11 2026. No macro, syntax, notation, axiom, sorry.
-/
import Derived.Test.YtnallacamijkeaaGreatDoorRows
import GoSem.ClaimSeven
namespace Go.Proofs.YtnallacamijkeaaGreatDoor
namespace Rows

/-- THE TIED CARD OF 'klippelaw42.SlipDilations'. -/
def slipDilationsCard : Claim7 := { stood := { row := slipDilationsRow, standIns := [], harness := (true, "6cf4469f41311c749a1dd91fe406a9444d1f827508749db1f5d33f38ad2a65a0"), looks := true }, kinds := [], alts := [], laidByText := true, laidKinds := [.data, .data, .data, .sentinel, .sentinel], laidTests := true, laidLooks := .later }
def SlipDilationsCardSaid : Prop := Claim7.holds Tryz.pinned (.plain (OpenSpec.ofChange slipDilationsSpec)) slipDilationsCard

/-- THE SECOND FORM's CARD OF 'klippelaw42.SlipDilations'. -/
def slipDilationsUptoCard : Claim7 := { stood := { row := slipDilationsUptoRow, standIns := [], harness := (true, "6cf4469f41311c749a1dd91fe406a9444d1f827508749db1f5d33f38ad2a65a0"), looks := true }, kinds := [], alts := [], laidByText := true, laidKinds := [.data, .data, .data, .sentinel, .sentinel], laidTests := true, laidLooks := .later }
def SlipDilationsUptoCardSaid : Prop := Claim7.holds Tryz.pinned (.plain (OpenSpec.upto slipDilationsSpec)) slipDilationsUptoCard
end Rows
end Go.Proofs.YtnallacamijkeaaGreatDoor
