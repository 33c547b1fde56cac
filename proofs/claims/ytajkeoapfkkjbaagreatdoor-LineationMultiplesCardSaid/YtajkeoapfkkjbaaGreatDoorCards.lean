/-
  DERIVED. GIVEN WITH THE SEED: THE CARDS: each row of YtajkeoapfkkjbaaGreatDoorRows.lean that lists a variable, with what it lists TIED to the program's text (the seventh form; the later family's looks); each row that meets fmt, with fmt's text TOLD by the authors' own Lean function (tested against real Go, not proved from fmt's source: count such statements apart). THE CARD IS WHAT COUNTS. Prove the row's statement (the work); the ties are given (YtajkeoapfkkjbaaGreatDoorTie.lean); close each card by the builder's one call (the guide's Derived/Test/ToyasCard.lean, 'card_holds'). Laid BY PROGRAM, IN A SANDBOX (cutbox-door.mjs). By AI agents, Wed Nov 11 2026. No macro, syntax, notation, axiom, sorry.
-/
import Derived.Test.YtajkeoapfkkjbaaGreatDoorRows
import GoSem.ClaimSeven
namespace Go.Proofs.YtajkeoapfkkjbaaGreatDoor
namespace Rows

/-- THE TIED CARD OF 'klippelaw16.LineationFolds'. -/
def lineationFoldsCard : Claim7 := { stood := { row := lineationFoldsRow, standIns := [], harness := (true, "bf39d504d7f397ca6742ec1f13b6c8777440f3ca3bd080eb76a8d96bf94c8c74"), looks := true }, kinds := [], alts := [], laidByText := true, laidKinds := [.data, .data, .data, .sentinel, .sentinel], laidTests := true, laidLooks := .later }
def LineationFoldsCardSaid : Prop := Claim7.holds Tryz.pinned (.plain (OpenSpec.ofChange lineationFoldsSpec)) lineationFoldsCard

/-- THE TIED CARD OF 'klippelaw16.LineationForms'. -/
def lineationFormsCard : Claim7 := { stood := { row := lineationFormsRow, standIns := [], harness := (true, "bf39d504d7f397ca6742ec1f13b6c8777440f3ca3bd080eb76a8d96bf94c8c74"), looks := true }, kinds := [], alts := [], laidByText := true, laidKinds := [.data, .data, .data, .sentinel, .sentinel], laidTests := true, laidLooks := .later }
def LineationFormsCardSaid : Prop := Claim7.holds Tryz.pinned (.plain (OpenSpec.ofChange lineationFormsSpec)) lineationFormsCard

/-- THE TIED CARD OF 'klippelaw16.LineationPlanes'. -/
def lineationPlanesCard : Claim7 := { stood := { row := lineationPlanesRow, standIns := [], harness := (true, "bf39d504d7f397ca6742ec1f13b6c8777440f3ca3bd080eb76a8d96bf94c8c74"), looks := true }, kinds := [], alts := [], laidByText := true, laidKinds := [.data, .data, .data, .sentinel, .sentinel], laidTests := true, laidLooks := .later }
def LineationPlanesCardSaid : Prop := Claim7.holds Tryz.pinned (.plain (OpenSpec.ofChange lineationPlanesSpec)) lineationPlanesCard

/-- THE TIED CARD OF 'klippelaw16.LineationAngles'. -/
def lineationAnglesCard : Claim7 := { stood := { row := lineationAnglesRow, standIns := [], harness := (true, "bf39d504d7f397ca6742ec1f13b6c8777440f3ca3bd080eb76a8d96bf94c8c74"), looks := true }, kinds := [], alts := [], laidByText := true, laidKinds := [.data, .data, .data, .sentinel, .sentinel], laidTests := true, laidLooks := .later }
def LineationAnglesCardSaid : Prop := Claim7.holds Tryz.pinned (.plain (OpenSpec.ofChange lineationAnglesSpec)) lineationAnglesCard

/-- THE TIED CARD OF 'klippelaw16.LineationLimbs'. -/
def lineationLimbsCard : Claim7 := { stood := { row := lineationLimbsRow, standIns := [], harness := (true, "bf39d504d7f397ca6742ec1f13b6c8777440f3ca3bd080eb76a8d96bf94c8c74"), looks := true }, kinds := [], alts := [], laidByText := true, laidKinds := [.data, .data, .data, .sentinel, .sentinel], laidTests := true, laidLooks := .later }
def LineationLimbsCardSaid : Prop := Claim7.holds Tryz.pinned (.plain (OpenSpec.ofChange lineationLimbsSpec)) lineationLimbsCard

/-- THE TIED CARD OF 'klippelaw16.LineationTrends'. -/
def lineationTrendsCard : Claim7 := { stood := { row := lineationTrendsRow, standIns := [], harness := (true, "bf39d504d7f397ca6742ec1f13b6c8777440f3ca3bd080eb76a8d96bf94c8c74"), looks := true }, kinds := [], alts := [], laidByText := true, laidKinds := [.data, .data, .data, .sentinel, .sentinel], laidTests := true, laidLooks := .later }
def LineationTrendsCardSaid : Prop := Claim7.holds Tryz.pinned (.plain (OpenSpec.ofChange lineationTrendsSpec)) lineationTrendsCard

/-- THE TIED CARD OF 'klippelaw16.LineationMultiples'. -/
def lineationMultiplesCard : Claim7 := { stood := { row := lineationMultiplesRow, standIns := [], harness := (true, "bf39d504d7f397ca6742ec1f13b6c8777440f3ca3bd080eb76a8d96bf94c8c74"), looks := true }, kinds := [], alts := [], laidByText := true, laidKinds := [.data, .data, .data, .sentinel, .sentinel], laidTests := true, laidLooks := .later }
def LineationMultiplesCardSaid : Prop := Claim7.holds Tryz.pinned (.plain (OpenSpec.ofChange lineationMultiplesSpec)) lineationMultiplesCard

/-- THE TIED CARD OF 'klippelaw16.LineationPlunges'. -/
def lineationPlungesCard : Claim7 := { stood := { row := lineationPlungesRow, standIns := [], harness := (true, "bf39d504d7f397ca6742ec1f13b6c8777440f3ca3bd080eb76a8d96bf94c8c74"), looks := true }, kinds := [], alts := [], laidByText := true, laidKinds := [.data, .data, .data, .sentinel, .sentinel], laidTests := true, laidLooks := .later }
def LineationPlungesCardSaid : Prop := Claim7.holds Tryz.pinned (.plain (OpenSpec.ofChange lineationPlungesSpec)) lineationPlungesCard

/-- THE TIED CARD OF 'klippelaw16.LineationChecks'. -/
def lineationChecksCard : Claim7 := { stood := { row := lineationChecksRow, standIns := [], harness := (true, "bf39d504d7f397ca6742ec1f13b6c8777440f3ca3bd080eb76a8d96bf94c8c74"), looks := true }, kinds := [], alts := [], laidByText := true, laidKinds := [.data, .data, .data, .sentinel, .sentinel], laidTests := true, laidLooks := .later }
def LineationChecksCardSaid : Prop := Claim7.holds Tryz.pinned (.plain (OpenSpec.ofChange lineationChecksSpec)) lineationChecksCard

/-- THE SECOND FORM's CARD OF 'klippelaw16.LineationFolds'. -/
def lineationFoldsUptoCard : Claim7 := { stood := { row := lineationFoldsUptoRow, standIns := [], harness := (true, "bf39d504d7f397ca6742ec1f13b6c8777440f3ca3bd080eb76a8d96bf94c8c74"), looks := true }, kinds := [], alts := [], laidByText := true, laidKinds := [.data, .data, .data, .sentinel, .sentinel], laidTests := true, laidLooks := .later }
def LineationFoldsUptoCardSaid : Prop := Claim7.holds Tryz.pinned (.plain (OpenSpec.upto lineationFoldsSpec)) lineationFoldsUptoCard

/-- THE SECOND FORM's CARD OF 'klippelaw16.LineationForms'. -/
def lineationFormsUptoCard : Claim7 := { stood := { row := lineationFormsUptoRow, standIns := [], harness := (true, "bf39d504d7f397ca6742ec1f13b6c8777440f3ca3bd080eb76a8d96bf94c8c74"), looks := true }, kinds := [], alts := [], laidByText := true, laidKinds := [.data, .data, .data, .sentinel, .sentinel], laidTests := true, laidLooks := .later }
def LineationFormsUptoCardSaid : Prop := Claim7.holds Tryz.pinned (.plain (OpenSpec.upto lineationFormsSpec)) lineationFormsUptoCard

/-- THE SECOND FORM's CARD OF 'klippelaw16.LineationPlanes'. -/
def lineationPlanesUptoCard : Claim7 := { stood := { row := lineationPlanesUptoRow, standIns := [], harness := (true, "bf39d504d7f397ca6742ec1f13b6c8777440f3ca3bd080eb76a8d96bf94c8c74"), looks := true }, kinds := [], alts := [], laidByText := true, laidKinds := [.data, .data, .data, .sentinel, .sentinel], laidTests := true, laidLooks := .later }
def LineationPlanesUptoCardSaid : Prop := Claim7.holds Tryz.pinned (.plain (OpenSpec.upto lineationPlanesSpec)) lineationPlanesUptoCard

/-- THE SECOND FORM's CARD OF 'klippelaw16.LineationAngles'. -/
def lineationAnglesUptoCard : Claim7 := { stood := { row := lineationAnglesUptoRow, standIns := [], harness := (true, "bf39d504d7f397ca6742ec1f13b6c8777440f3ca3bd080eb76a8d96bf94c8c74"), looks := true }, kinds := [], alts := [], laidByText := true, laidKinds := [.data, .data, .data, .sentinel, .sentinel], laidTests := true, laidLooks := .later }
def LineationAnglesUptoCardSaid : Prop := Claim7.holds Tryz.pinned (.plain (OpenSpec.upto lineationAnglesSpec)) lineationAnglesUptoCard

/-- THE SECOND FORM's CARD OF 'klippelaw16.LineationLimbs'. -/
def lineationLimbsUptoCard : Claim7 := { stood := { row := lineationLimbsUptoRow, standIns := [], harness := (true, "bf39d504d7f397ca6742ec1f13b6c8777440f3ca3bd080eb76a8d96bf94c8c74"), looks := true }, kinds := [], alts := [], laidByText := true, laidKinds := [.data, .data, .data, .sentinel, .sentinel], laidTests := true, laidLooks := .later }
def LineationLimbsUptoCardSaid : Prop := Claim7.holds Tryz.pinned (.plain (OpenSpec.upto lineationLimbsSpec)) lineationLimbsUptoCard

/-- THE SECOND FORM's CARD OF 'klippelaw16.LineationTrends'. -/
def lineationTrendsUptoCard : Claim7 := { stood := { row := lineationTrendsUptoRow, standIns := [], harness := (true, "bf39d504d7f397ca6742ec1f13b6c8777440f3ca3bd080eb76a8d96bf94c8c74"), looks := true }, kinds := [], alts := [], laidByText := true, laidKinds := [.data, .data, .data, .sentinel, .sentinel], laidTests := true, laidLooks := .later }
def LineationTrendsUptoCardSaid : Prop := Claim7.holds Tryz.pinned (.plain (OpenSpec.upto lineationTrendsSpec)) lineationTrendsUptoCard

/-- THE SECOND FORM's CARD OF 'klippelaw16.LineationMultiples'. -/
def lineationMultiplesUptoCard : Claim7 := { stood := { row := lineationMultiplesUptoRow, standIns := [], harness := (true, "bf39d504d7f397ca6742ec1f13b6c8777440f3ca3bd080eb76a8d96bf94c8c74"), looks := true }, kinds := [], alts := [], laidByText := true, laidKinds := [.data, .data, .data, .sentinel, .sentinel], laidTests := true, laidLooks := .later }
def LineationMultiplesUptoCardSaid : Prop := Claim7.holds Tryz.pinned (.plain (OpenSpec.upto lineationMultiplesSpec)) lineationMultiplesUptoCard

/-- THE SECOND FORM's CARD OF 'klippelaw16.LineationPlunges'. -/
def lineationPlungesUptoCard : Claim7 := { stood := { row := lineationPlungesUptoRow, standIns := [], harness := (true, "bf39d504d7f397ca6742ec1f13b6c8777440f3ca3bd080eb76a8d96bf94c8c74"), looks := true }, kinds := [], alts := [], laidByText := true, laidKinds := [.data, .data, .data, .sentinel, .sentinel], laidTests := true, laidLooks := .later }
def LineationPlungesUptoCardSaid : Prop := Claim7.holds Tryz.pinned (.plain (OpenSpec.upto lineationPlungesSpec)) lineationPlungesUptoCard

/-- THE SECOND FORM's CARD OF 'klippelaw16.LineationChecks'. -/
def lineationChecksUptoCard : Claim7 := { stood := { row := lineationChecksUptoRow, standIns := [], harness := (true, "bf39d504d7f397ca6742ec1f13b6c8777440f3ca3bd080eb76a8d96bf94c8c74"), looks := true }, kinds := [], alts := [], laidByText := true, laidKinds := [.data, .data, .data, .sentinel, .sentinel], laidTests := true, laidLooks := .later }
def LineationChecksUptoCardSaid : Prop := Claim7.holds Tryz.pinned (.plain (OpenSpec.upto lineationChecksSpec)) lineationChecksUptoCard
end Rows
end Go.Proofs.YtajkeoapfkkjbaaGreatDoor
