/-
  DERIVED. GIVEN WITH THE SEED: THE CARDS: each row of YtjkbgjjfchhpfaaGreatDoorRows.lean that lists a variable, with what it lists TIED to the program's text (the seventh form; the later family's looks); each row that meets fmt, with fmt's text TOLD by the authors' own Lean function (tested against real Go, not proved from fmt's source: count such statements apart). THE CARD IS WHAT COUNTS. Prove the row's statement (the work); the ties are given (YtjkbgjjfchhpfaaGreatDoorTie.lean); close each card by the builder's one call (the guide's Derived/Test/ToyasCard.lean, 'card_holds'). Laid BY PROGRAM, IN A SANDBOX (cutbox-door.mjs). By AI agents, Wed Nov 11 2026. No macro, syntax, notation, axiom, sorry.
-/
import Derived.Test.YtjkbgjjfchhpfaaGreatDoorRows
import GoSem.ClaimSeven
namespace Go.Proofs.YtjkbgjjfchhpfaaGreatDoor
namespace Rows

/-- THE TIED CARD OF 'klippelaw02.RationalParses'. -/
def rationalParsesCard : Claim7 := { stood := { row := rationalParsesRow, standIns := [], harness := (true, "c1acbaf09ece26cd564a3d19789db294907fb5f6c200ee34255c9344abf734e4"), looks := true }, kinds := [], alts := [], laidByText := true, laidKinds := [.data, .data, .data, .data, .sentinel, .sentinel, .pinned], laidTests := true, laidLooks := .later }
def RationalParsesCardSaid : Prop := Claim7.holds Tryz.pinned (.plain (OpenSpec.ofChange rationalParsesSpec)) rationalParsesCard

/-- THE TIED CARD OF 'klippelaw02.RationalDecimals'. -/
def rationalDecimalsCard : Claim7 := { stood := { row := rationalDecimalsRow, standIns := [], harness := (true, "c1acbaf09ece26cd564a3d19789db294907fb5f6c200ee34255c9344abf734e4"), looks := true }, kinds := [], alts := [], laidByText := true, laidKinds := [.data, .data, .data, .data, .sentinel, .sentinel, .pinned], laidTests := true, laidLooks := .later }
def RationalDecimalsCardSaid : Prop := Claim7.holds Tryz.pinned (.plain (OpenSpec.ofChange rationalDecimalsSpec)) rationalDecimalsCard

/-- THE TIED CARD OF 'klippelaw02.RationalRoots'. -/
def rationalRootsCard : Claim7 := { stood := { row := rationalRootsRow, standIns := [], harness := (true, "c1acbaf09ece26cd564a3d19789db294907fb5f6c200ee34255c9344abf734e4"), looks := true }, kinds := [], alts := [], laidByText := true, laidKinds := [.data, .data, .data, .data, .sentinel, .sentinel, .pinned], laidTests := true, laidLooks := .later }
def RationalRootsCardSaid : Prop := Claim7.holds Tryz.pinned (.plain (OpenSpec.ofChange rationalRootsSpec)) rationalRootsCard

/-- THE TIED CARD OF 'klippelaw02.RationalNews'. -/
def rationalNewsCard : Claim7 := { stood := { row := rationalNewsRow, standIns := [], harness := (true, "c1acbaf09ece26cd564a3d19789db294907fb5f6c200ee34255c9344abf734e4"), looks := true }, kinds := [], alts := [], laidByText := true, laidKinds := [.data, .data, .data, .data, .sentinel, .sentinel, .pinned], laidTests := true, laidLooks := .later }
def RationalNewsCardSaid : Prop := Claim7.holds Tryz.pinned (.plain (OpenSpec.ofChange rationalNewsSpec)) rationalNewsCard

/-- THE TIED CARD OF 'klippelaw02.RationalRounds'. -/
def rationalRoundsCard : Claim7 := { stood := { row := rationalRoundsRow, standIns := [], harness := (true, "c1acbaf09ece26cd564a3d19789db294907fb5f6c200ee34255c9344abf734e4"), looks := true }, kinds := [], alts := [], laidByText := true, laidKinds := [.data, .data, .data, .data, .sentinel, .sentinel, .pinned], laidTests := true, laidLooks := .later }
def RationalRoundsCardSaid : Prop := Claim7.holds Tryz.pinned (.plain (OpenSpec.ofChange rationalRoundsSpec)) rationalRoundsCard

/-- THE TIED CARD OF 'klippelaw02.RationalMultiplies'. -/
def rationalMultipliesCard : Claim7 := { stood := { row := rationalMultipliesRow, standIns := [], harness := (true, "c1acbaf09ece26cd564a3d19789db294907fb5f6c200ee34255c9344abf734e4"), looks := true }, kinds := [], alts := [], laidByText := true, laidKinds := [.data, .data, .data, .data, .sentinel, .sentinel, .pinned], laidTests := true, laidLooks := .later }
def RationalMultipliesCardSaid : Prop := Claim7.holds Tryz.pinned (.plain (OpenSpec.ofChange rationalMultipliesSpec)) rationalMultipliesCard

/-- THE TIED CARD OF 'klippelaw02.RationalAdds'. -/
def rationalAddsCard : Claim7 := { stood := { row := rationalAddsRow, standIns := [], harness := (true, "c1acbaf09ece26cd564a3d19789db294907fb5f6c200ee34255c9344abf734e4"), looks := true }, kinds := [], alts := [], laidByText := true, laidKinds := [.data, .data, .data, .data, .sentinel, .sentinel, .pinned], laidTests := true, laidLooks := .later }
def RationalAddsCardSaid : Prop := Claim7.holds Tryz.pinned (.plain (OpenSpec.ofChange rationalAddsSpec)) rationalAddsCard

/-- THE TIED CARD OF 'klippelaw02.RationalCompares'. -/
def rationalComparesCard : Claim7 := { stood := { row := rationalComparesRow, standIns := [], harness := (true, "c1acbaf09ece26cd564a3d19789db294907fb5f6c200ee34255c9344abf734e4"), looks := true }, kinds := [], alts := [], laidByText := true, laidKinds := [.data, .data, .data, .data, .sentinel, .sentinel, .pinned], laidTests := true, laidLooks := .later }
def RationalComparesCardSaid : Prop := Claim7.holds Tryz.pinned (.plain (OpenSpec.ofChange rationalComparesSpec)) rationalComparesCard

/-- THE TIED CARD OF 'klippelaw02.RationalField'. -/
def rationalFieldCard : Claim7 := { stood := { row := rationalFieldRow, standIns := [], harness := (true, "c1acbaf09ece26cd564a3d19789db294907fb5f6c200ee34255c9344abf734e4"), looks := true }, kinds := [], alts := [], laidByText := true, laidKinds := [.data, .data, .data, .data, .sentinel, .sentinel, .pinned], laidTests := true, laidLooks := .later }
def RationalFieldCardSaid : Prop := Claim7.holds Tryz.pinned (.plain (OpenSpec.ofChange rationalFieldSpec)) rationalFieldCard

/-- THE TIED CARD OF 'klippelaw02.RationalChecks'. -/
def rationalChecksCard : Claim7 := { stood := { row := rationalChecksRow, standIns := [], harness := (true, "c1acbaf09ece26cd564a3d19789db294907fb5f6c200ee34255c9344abf734e4"), looks := true }, kinds := [], alts := [], laidByText := true, laidKinds := [.data, .data, .data, .data, .sentinel, .sentinel, .pinned], laidTests := true, laidLooks := .later }
def RationalChecksCardSaid : Prop := Claim7.holds Tryz.pinned (.plain (OpenSpec.ofChange rationalChecksSpec)) rationalChecksCard

/-- THE SECOND FORM's CARD OF 'klippelaw02.RationalParses'. -/
def rationalParsesUptoCard : Claim7 := { stood := { row := rationalParsesUptoRow, standIns := [], harness := (true, "c1acbaf09ece26cd564a3d19789db294907fb5f6c200ee34255c9344abf734e4"), looks := true }, kinds := [], alts := [], laidByText := true, laidKinds := [.data, .data, .data, .data, .sentinel, .sentinel, .pinned], laidTests := true, laidLooks := .later }
def RationalParsesUptoCardSaid : Prop := Claim7.holds Tryz.pinned (.plain (OpenSpec.upto rationalParsesSpec)) rationalParsesUptoCard

/-- THE SECOND FORM's CARD OF 'klippelaw02.RationalDecimals'. -/
def rationalDecimalsUptoCard : Claim7 := { stood := { row := rationalDecimalsUptoRow, standIns := [], harness := (true, "c1acbaf09ece26cd564a3d19789db294907fb5f6c200ee34255c9344abf734e4"), looks := true }, kinds := [], alts := [], laidByText := true, laidKinds := [.data, .data, .data, .data, .sentinel, .sentinel, .pinned], laidTests := true, laidLooks := .later }
def RationalDecimalsUptoCardSaid : Prop := Claim7.holds Tryz.pinned (.plain (OpenSpec.upto rationalDecimalsSpec)) rationalDecimalsUptoCard

/-- THE SECOND FORM's CARD OF 'klippelaw02.RationalRoots'. -/
def rationalRootsUptoCard : Claim7 := { stood := { row := rationalRootsUptoRow, standIns := [], harness := (true, "c1acbaf09ece26cd564a3d19789db294907fb5f6c200ee34255c9344abf734e4"), looks := true }, kinds := [], alts := [], laidByText := true, laidKinds := [.data, .data, .data, .data, .sentinel, .sentinel, .pinned], laidTests := true, laidLooks := .later }
def RationalRootsUptoCardSaid : Prop := Claim7.holds Tryz.pinned (.plain (OpenSpec.upto rationalRootsSpec)) rationalRootsUptoCard

/-- THE SECOND FORM's CARD OF 'klippelaw02.RationalNews'. -/
def rationalNewsUptoCard : Claim7 := { stood := { row := rationalNewsUptoRow, standIns := [], harness := (true, "c1acbaf09ece26cd564a3d19789db294907fb5f6c200ee34255c9344abf734e4"), looks := true }, kinds := [], alts := [], laidByText := true, laidKinds := [.data, .data, .data, .data, .sentinel, .sentinel, .pinned], laidTests := true, laidLooks := .later }
def RationalNewsUptoCardSaid : Prop := Claim7.holds Tryz.pinned (.plain (OpenSpec.upto rationalNewsSpec)) rationalNewsUptoCard

/-- THE SECOND FORM's CARD OF 'klippelaw02.RationalRounds'. -/
def rationalRoundsUptoCard : Claim7 := { stood := { row := rationalRoundsUptoRow, standIns := [], harness := (true, "c1acbaf09ece26cd564a3d19789db294907fb5f6c200ee34255c9344abf734e4"), looks := true }, kinds := [], alts := [], laidByText := true, laidKinds := [.data, .data, .data, .data, .sentinel, .sentinel, .pinned], laidTests := true, laidLooks := .later }
def RationalRoundsUptoCardSaid : Prop := Claim7.holds Tryz.pinned (.plain (OpenSpec.upto rationalRoundsSpec)) rationalRoundsUptoCard

/-- THE SECOND FORM's CARD OF 'klippelaw02.RationalMultiplies'. -/
def rationalMultipliesUptoCard : Claim7 := { stood := { row := rationalMultipliesUptoRow, standIns := [], harness := (true, "c1acbaf09ece26cd564a3d19789db294907fb5f6c200ee34255c9344abf734e4"), looks := true }, kinds := [], alts := [], laidByText := true, laidKinds := [.data, .data, .data, .data, .sentinel, .sentinel, .pinned], laidTests := true, laidLooks := .later }
def RationalMultipliesUptoCardSaid : Prop := Claim7.holds Tryz.pinned (.plain (OpenSpec.upto rationalMultipliesSpec)) rationalMultipliesUptoCard

/-- THE SECOND FORM's CARD OF 'klippelaw02.RationalAdds'. -/
def rationalAddsUptoCard : Claim7 := { stood := { row := rationalAddsUptoRow, standIns := [], harness := (true, "c1acbaf09ece26cd564a3d19789db294907fb5f6c200ee34255c9344abf734e4"), looks := true }, kinds := [], alts := [], laidByText := true, laidKinds := [.data, .data, .data, .data, .sentinel, .sentinel, .pinned], laidTests := true, laidLooks := .later }
def RationalAddsUptoCardSaid : Prop := Claim7.holds Tryz.pinned (.plain (OpenSpec.upto rationalAddsSpec)) rationalAddsUptoCard

/-- THE SECOND FORM's CARD OF 'klippelaw02.RationalCompares'. -/
def rationalComparesUptoCard : Claim7 := { stood := { row := rationalComparesUptoRow, standIns := [], harness := (true, "c1acbaf09ece26cd564a3d19789db294907fb5f6c200ee34255c9344abf734e4"), looks := true }, kinds := [], alts := [], laidByText := true, laidKinds := [.data, .data, .data, .data, .sentinel, .sentinel, .pinned], laidTests := true, laidLooks := .later }
def RationalComparesUptoCardSaid : Prop := Claim7.holds Tryz.pinned (.plain (OpenSpec.upto rationalComparesSpec)) rationalComparesUptoCard

/-- THE SECOND FORM's CARD OF 'klippelaw02.RationalField'. -/
def rationalFieldUptoCard : Claim7 := { stood := { row := rationalFieldUptoRow, standIns := [], harness := (true, "c1acbaf09ece26cd564a3d19789db294907fb5f6c200ee34255c9344abf734e4"), looks := true }, kinds := [], alts := [], laidByText := true, laidKinds := [.data, .data, .data, .data, .sentinel, .sentinel, .pinned], laidTests := true, laidLooks := .later }
def RationalFieldUptoCardSaid : Prop := Claim7.holds Tryz.pinned (.plain (OpenSpec.upto rationalFieldSpec)) rationalFieldUptoCard

/-- THE SECOND FORM's CARD OF 'klippelaw02.RationalChecks'. -/
def rationalChecksUptoCard : Claim7 := { stood := { row := rationalChecksUptoRow, standIns := [], harness := (true, "c1acbaf09ece26cd564a3d19789db294907fb5f6c200ee34255c9344abf734e4"), looks := true }, kinds := [], alts := [], laidByText := true, laidKinds := [.data, .data, .data, .data, .sentinel, .sentinel, .pinned], laidTests := true, laidLooks := .later }
def RationalChecksUptoCardSaid : Prop := Claim7.holds Tryz.pinned (.plain (OpenSpec.upto rationalChecksSpec)) rationalChecksUptoCard
end Rows
end Go.Proofs.YtjkbgjjfchhpfaaGreatDoor
