/-
  DERIVED. GIVEN WITH THE SEED: THE CARDS: each row of YtfhmgkicccfghaaGreatDoorRows.lean that lists a variable, with what it lists TIED to the program's text (the seventh form; the later family's looks); each row that meets fmt, with fmt's text TOLD by the authors' own Lean function (tested against real Go, not proved from fmt's source: count such statements apart). THE CARD IS WHAT COUNTS. Prove the row's statement (the work); the ties are given (YtfhmgkicccfghaaGreatDoorTie.lean); close each card by the builder's one call (the guide's Derived/Test/ToyasCard.lean, 'card_holds'). Laid BY PROGRAM, IN A SANDBOX (cutbox-door.mjs). By AI agents, Wed Nov 11 2026. No macro, syntax, notation, axiom, sorry.
-/
import Derived.Test.YtfhmgkicccfghaaGreatDoorRows
import GoSem.ClaimSeven
namespace Go.Proofs.YtfhmgkicccfghaaGreatDoor
namespace Rows

/-- THE TIED CARD OF 'klippelaw51.LexerScans'. -/
def lexerScansCard : Claim7 := { stood := { row := lexerScansRow, standIns := [], harness := (true, "8bf43b34359ead971e2817d127ae0b00e5a5caa35488ebe60b7ca56e0f837f92"), looks := true }, kinds := [], alts := [], laidByText := true, laidKinds := [.data, .data, .data, .data, .sentinel, .sentinel, .pinned], laidTests := true, laidLooks := .later }
def LexerScansCardSaid : Prop := Claim7.holds Tryz.pinned (.plain (OpenSpec.ofChange lexerScansSpec)) lexerScansCard

/-- THE TIED CARD OF 'klippelaw51.LexerBytes'. -/
def lexerBytesCard : Claim7 := { stood := { row := lexerBytesRow, standIns := [], harness := (true, "8bf43b34359ead971e2817d127ae0b00e5a5caa35488ebe60b7ca56e0f837f92"), looks := true }, kinds := [], alts := [], laidByText := true, laidKinds := [.data, .data, .data, .data, .sentinel, .sentinel, .pinned], laidTests := true, laidLooks := .later }
def LexerBytesCardSaid : Prop := Claim7.holds Tryz.pinned (.plain (OpenSpec.ofChange lexerBytesSpec)) lexerBytesCard

/-- THE TIED CARD OF 'klippelaw51.LexerLimits'. -/
def lexerLimitsCard : Claim7 := { stood := { row := lexerLimitsRow, standIns := [], harness := (true, "8bf43b34359ead971e2817d127ae0b00e5a5caa35488ebe60b7ca56e0f837f92"), looks := true }, kinds := [], alts := [], laidByText := true, laidKinds := [.data, .data, .data, .data, .sentinel, .sentinel, .pinned], laidTests := true, laidLooks := .later }
def LexerLimitsCardSaid : Prop := Claim7.holds Tryz.pinned (.plain (OpenSpec.ofChange lexerLimitsSpec)) lexerLimitsCard

/-- THE TIED CARD OF 'klippelaw51.LexerBlanks'. -/
def lexerBlanksCard : Claim7 := { stood := { row := lexerBlanksRow, standIns := [], harness := (true, "8bf43b34359ead971e2817d127ae0b00e5a5caa35488ebe60b7ca56e0f837f92"), looks := true }, kinds := [], alts := [], laidByText := true, laidKinds := [.data, .data, .data, .data, .sentinel, .sentinel, .pinned], laidTests := true, laidLooks := .later }
def LexerBlanksCardSaid : Prop := Claim7.holds Tryz.pinned (.plain (OpenSpec.ofChange lexerBlanksSpec)) lexerBlanksCard

/-- THE TIED CARD OF 'klippelaw51.LexerReads'. -/
def lexerReadsCard : Claim7 := { stood := { row := lexerReadsRow, standIns := [], harness := (true, "8bf43b34359ead971e2817d127ae0b00e5a5caa35488ebe60b7ca56e0f837f92"), looks := true }, kinds := [], alts := [], laidByText := true, laidKinds := [.data, .data, .data, .data, .sentinel, .sentinel, .pinned], laidTests := true, laidLooks := .later }
def LexerReadsCardSaid : Prop := Claim7.holds Tryz.pinned (.plain (OpenSpec.ofChange lexerReadsSpec)) lexerReadsCard

/-- THE TIED CARD OF 'klippelaw51.LexerNil'. -/
def lexerNilCard : Claim7 := { stood := { row := lexerNilRow, standIns := [], harness := (true, "8bf43b34359ead971e2817d127ae0b00e5a5caa35488ebe60b7ca56e0f837f92"), looks := true }, kinds := [], alts := [], laidByText := true, laidKinds := [.data, .data, .data, .data, .sentinel, .sentinel, .pinned], laidTests := true, laidLooks := .later }
def LexerNilCardSaid : Prop := Claim7.holds Tryz.pinned (.plain (OpenSpec.ofChange lexerNilSpec)) lexerNilCard

/-- THE TIED CARD OF 'klippelaw51.LexerPrints'. -/
def lexerPrintsCard : Claim7 := { stood := { row := lexerPrintsRow, standIns := [], harness := (true, "8bf43b34359ead971e2817d127ae0b00e5a5caa35488ebe60b7ca56e0f837f92"), looks := true }, kinds := [], alts := [], laidByText := true, laidKinds := [.data, .data, .data, .data, .sentinel, .sentinel, .pinned], laidTests := true, laidLooks := .later }
def LexerPrintsCardSaid : Prop := Claim7.holds Tryz.pinned (.plain (OpenSpec.ofChange lexerPrintsSpec)) lexerPrintsCard

/-- THE TIED CARD OF 'klippelaw51.LexerRefuses'. -/
def lexerRefusesCard : Claim7 := { stood := { row := lexerRefusesRow, standIns := [], harness := (true, "8bf43b34359ead971e2817d127ae0b00e5a5caa35488ebe60b7ca56e0f837f92"), looks := true }, kinds := [], alts := [], laidByText := true, laidKinds := [.data, .data, .data, .data, .sentinel, .sentinel, .pinned], laidTests := true, laidLooks := .later }
def LexerRefusesCardSaid : Prop := Claim7.holds Tryz.pinned (.plain (OpenSpec.ofChange lexerRefusesSpec)) lexerRefusesCard

/-- THE SECOND FORM's CARD OF 'klippelaw51.LexerScans'. -/
def lexerScansUptoCard : Claim7 := { stood := { row := lexerScansUptoRow, standIns := [], harness := (true, "8bf43b34359ead971e2817d127ae0b00e5a5caa35488ebe60b7ca56e0f837f92"), looks := true }, kinds := [], alts := [], laidByText := true, laidKinds := [.data, .data, .data, .data, .sentinel, .sentinel, .pinned], laidTests := true, laidLooks := .later }
def LexerScansUptoCardSaid : Prop := Claim7.holds Tryz.pinned (.plain (OpenSpec.upto lexerScansSpec)) lexerScansUptoCard

/-- THE SECOND FORM's CARD OF 'klippelaw51.LexerBytes'. -/
def lexerBytesUptoCard : Claim7 := { stood := { row := lexerBytesUptoRow, standIns := [], harness := (true, "8bf43b34359ead971e2817d127ae0b00e5a5caa35488ebe60b7ca56e0f837f92"), looks := true }, kinds := [], alts := [], laidByText := true, laidKinds := [.data, .data, .data, .data, .sentinel, .sentinel, .pinned], laidTests := true, laidLooks := .later }
def LexerBytesUptoCardSaid : Prop := Claim7.holds Tryz.pinned (.plain (OpenSpec.upto lexerBytesSpec)) lexerBytesUptoCard

/-- THE SECOND FORM's CARD OF 'klippelaw51.LexerLimits'. -/
def lexerLimitsUptoCard : Claim7 := { stood := { row := lexerLimitsUptoRow, standIns := [], harness := (true, "8bf43b34359ead971e2817d127ae0b00e5a5caa35488ebe60b7ca56e0f837f92"), looks := true }, kinds := [], alts := [], laidByText := true, laidKinds := [.data, .data, .data, .data, .sentinel, .sentinel, .pinned], laidTests := true, laidLooks := .later }
def LexerLimitsUptoCardSaid : Prop := Claim7.holds Tryz.pinned (.plain (OpenSpec.upto lexerLimitsSpec)) lexerLimitsUptoCard

/-- THE SECOND FORM's CARD OF 'klippelaw51.LexerBlanks'. -/
def lexerBlanksUptoCard : Claim7 := { stood := { row := lexerBlanksUptoRow, standIns := [], harness := (true, "8bf43b34359ead971e2817d127ae0b00e5a5caa35488ebe60b7ca56e0f837f92"), looks := true }, kinds := [], alts := [], laidByText := true, laidKinds := [.data, .data, .data, .data, .sentinel, .sentinel, .pinned], laidTests := true, laidLooks := .later }
def LexerBlanksUptoCardSaid : Prop := Claim7.holds Tryz.pinned (.plain (OpenSpec.upto lexerBlanksSpec)) lexerBlanksUptoCard

/-- THE SECOND FORM's CARD OF 'klippelaw51.LexerReads'. -/
def lexerReadsUptoCard : Claim7 := { stood := { row := lexerReadsUptoRow, standIns := [], harness := (true, "8bf43b34359ead971e2817d127ae0b00e5a5caa35488ebe60b7ca56e0f837f92"), looks := true }, kinds := [], alts := [], laidByText := true, laidKinds := [.data, .data, .data, .data, .sentinel, .sentinel, .pinned], laidTests := true, laidLooks := .later }
def LexerReadsUptoCardSaid : Prop := Claim7.holds Tryz.pinned (.plain (OpenSpec.upto lexerReadsSpec)) lexerReadsUptoCard

/-- THE SECOND FORM's CARD OF 'klippelaw51.LexerNil'. -/
def lexerNilUptoCard : Claim7 := { stood := { row := lexerNilUptoRow, standIns := [], harness := (true, "8bf43b34359ead971e2817d127ae0b00e5a5caa35488ebe60b7ca56e0f837f92"), looks := true }, kinds := [], alts := [], laidByText := true, laidKinds := [.data, .data, .data, .data, .sentinel, .sentinel, .pinned], laidTests := true, laidLooks := .later }
def LexerNilUptoCardSaid : Prop := Claim7.holds Tryz.pinned (.plain (OpenSpec.upto lexerNilSpec)) lexerNilUptoCard

/-- THE SECOND FORM's CARD OF 'klippelaw51.LexerPrints'. -/
def lexerPrintsUptoCard : Claim7 := { stood := { row := lexerPrintsUptoRow, standIns := [], harness := (true, "8bf43b34359ead971e2817d127ae0b00e5a5caa35488ebe60b7ca56e0f837f92"), looks := true }, kinds := [], alts := [], laidByText := true, laidKinds := [.data, .data, .data, .data, .sentinel, .sentinel, .pinned], laidTests := true, laidLooks := .later }
def LexerPrintsUptoCardSaid : Prop := Claim7.holds Tryz.pinned (.plain (OpenSpec.upto lexerPrintsSpec)) lexerPrintsUptoCard

/-- THE SECOND FORM's CARD OF 'klippelaw51.LexerRefuses'. -/
def lexerRefusesUptoCard : Claim7 := { stood := { row := lexerRefusesUptoRow, standIns := [], harness := (true, "8bf43b34359ead971e2817d127ae0b00e5a5caa35488ebe60b7ca56e0f837f92"), looks := true }, kinds := [], alts := [], laidByText := true, laidKinds := [.data, .data, .data, .data, .sentinel, .sentinel, .pinned], laidTests := true, laidLooks := .later }
def LexerRefusesUptoCardSaid : Prop := Claim7.holds Tryz.pinned (.plain (OpenSpec.upto lexerRefusesSpec)) lexerRefusesUptoCard
end Rows
end Go.Proofs.YtfhmgkicccfghaaGreatDoor
