/-
  NARROWER THAN 'FOR EVERY INPUT', by the rows' own cells (each row's printed sentence says how): LineationFolds: laid · LineationForms: laid · LineationPlanes: laid · LineationAngles: laid · LineationLimbs: laid · LineationTrends: laid · LineationMultiples: laid · LineationPlunges: laid · LineationChecks: laid.
  DERIVED. THE GIVEN ROWS OF THIS SEAT. 9 by the template 'for every input the law returns true; each argument reads behind the call as it read before'; 0 by the template 'total and deterministic' (their statements: YtajkeoapfkkjbaaGreatDoorTotals.lean).
  GIVEN WITH THE SEED: the statements are not yours to turn. If you find one false, say at which input.
  Laid BY PROGRAM, IN A SANDBOX (cutbox-rows.mjs): the forced cells as the released guide's own fill.sh prints them over the translation 93d231254a9c76a1… (all of the seat's roots in one cut). By AI agents, Wed Nov 11 2026. No macro, syntax, notation, axiom, sorry.
-/
import Derived.Test.YtajkeoapfkkjbaaGreatDoorChecked
import GoSem.Claim
import GoSem.ClaimJoined
import GoSem.ClaimMapViews
import Derived.JoinedTies
import Derived.KernelRfl
namespace Go.Proofs.YtajkeoapfkkjbaaGreatDoor
/- THE CELL 'sum', in the pinned program and in every row, IS THE sha256 OF THE DUMP (.gsa) THAT YtajkeoapfkkjbaaGreatDoorProg.lean LOADS. Nothing in Lean hashes anything: it is a label: what it is worth is what the hold of that sum in a sandbox is worth. -/
noncomputable def Tryz.pinned : Pinned := { name := "ytajkeoapfkkjbaagreatdoor", sum := "93d231254a9c76a1357e9e0d7e8225ea018a97aeb1b24b637ea2c04d0fc9dda0", checked := Tryz.checked }
namespace Rows
def none {H : Type} : Left H := { results := [], args := [] }

/- WHAT THE LISTED PACKAGE-LEVEL VARIABLES READ AS WHEN THE CALL BEGINS. Each datum BY PROGRAM (the guide's laid-datum.mjs) off the statement by which the dump's own 'gosem.cut.vars' lays the variable. In a bare row this is a premise. The card (YtajkeoapfkkjbaaGreatDoorCards.lean) ties it to the program's text. -/
def laid_math_bits_deBruijn32tab {H : Type} : DataW H := .agg [.lit (.int .u8 0), .lit (.int .u8 1), .lit (.int .u8 28), .lit (.int .u8 2), .lit (.int .u8 29), .lit (.int .u8 14), .lit (.int .u8 24), .lit (.int .u8 3), .lit (.int .u8 30), .lit (.int .u8 22), .lit (.int .u8 20), .lit (.int .u8 15), .lit (.int .u8 25), .lit (.int .u8 17), .lit (.int .u8 4), .lit (.int .u8 8), .lit (.int .u8 31), .lit (.int .u8 27), .lit (.int .u8 13), .lit (.int .u8 23), .lit (.int .u8 21), .lit (.int .u8 19), .lit (.int .u8 16), .lit (.int .u8 7), .lit (.int .u8 26), .lit (.int .u8 12), .lit (.int .u8 18), .lit (.int .u8 6), .lit (.int .u8 11), .lit (.int .u8 5), .lit (.int .u8 10), .lit (.int .u8 9)]
def laid_math_bits_deBruijn64tab {H : Type} : DataW H := .agg [.lit (.int .u8 0), .lit (.int .u8 1), .lit (.int .u8 56), .lit (.int .u8 2), .lit (.int .u8 57), .lit (.int .u8 49), .lit (.int .u8 28), .lit (.int .u8 3), .lit (.int .u8 61), .lit (.int .u8 58), .lit (.int .u8 42), .lit (.int .u8 50), .lit (.int .u8 38), .lit (.int .u8 29), .lit (.int .u8 17), .lit (.int .u8 4), .lit (.int .u8 62), .lit (.int .u8 47), .lit (.int .u8 59), .lit (.int .u8 36), .lit (.int .u8 45), .lit (.int .u8 43), .lit (.int .u8 51), .lit (.int .u8 22), .lit (.int .u8 53), .lit (.int .u8 39), .lit (.int .u8 33), .lit (.int .u8 30), .lit (.int .u8 24), .lit (.int .u8 18), .lit (.int .u8 12), .lit (.int .u8 5), .lit (.int .u8 63), .lit (.int .u8 55), .lit (.int .u8 48), .lit (.int .u8 27), .lit (.int .u8 60), .lit (.int .u8 41), .lit (.int .u8 37), .lit (.int .u8 16), .lit (.int .u8 46), .lit (.int .u8 35), .lit (.int .u8 44), .lit (.int .u8 21), .lit (.int .u8 52), .lit (.int .u8 32), .lit (.int .u8 23), .lit (.int .u8 11), .lit (.int .u8 54), .lit (.int .u8 26), .lit (.int .u8 40), .lit (.int .u8 15), .lit (.int .u8 34), .lit (.int .u8 20), .lit (.int .u8 31), .lit (.int .u8 10), .lit (.int .u8 25), .lit (.int .u8 14), .lit (.int .u8 19), .lit (.int .u8 9), .lit (.int .u8 13), .lit (.int .u8 8), .lit (.int .u8 7), .lit (.int .u8 6)]
def laid_internal_strconv_uint64pow10 {H : Type} : DataW H := .agg [.lit (.int .u64 1), .lit (.int .u64 10), .lit (.int .u64 100), .lit (.int .u64 1000), .lit (.int .u64 10000), .lit (.int .u64 100000), .lit (.int .u64 1000000), .lit (.int .u64 10000000), .lit (.int .u64 100000000), .lit (.int .u64 1000000000), .lit (.int .u64 10000000000), .lit (.int .u64 100000000000), .lit (.int .u64 1000000000000), .lit (.int .u64 10000000000000), .lit (.int .u64 100000000000000), .lit (.int .u64 1000000000000000), .lit (.int .u64 10000000000000000), .lit (.int .u64 100000000000000000), .lit (.int .u64 1000000000000000000), .lit (.int .u64 10000000000000000000)]
def laid_strconv_ErrRange {H : Type} : DataW H := .iface "*errors.errorString" (.ptr (.agg [.lit (.string [118, 97, 108, 117, 101, 32, 111, 117, 116, 32, 111, 102, 32, 114, 97, 110, 103, 101])]))
def laid_strconv_ErrSyntax {H : Type} : DataW H := .iface "*errors.errorString" (.ptr (.agg [.lit (.string [105, 110, 118, 97, 108, 105, 100, 32, 115, 121, 110, 116, 97, 120])]))

/-- 'klippelaw16.LineationFolds': WHATEVER THE INPUT: true; the input reads as it did. -/
def lineationFoldsSpec : ChangeSpec := { name := "lineationFolds", fn := fun _ => fun
  | [d1, d2] => { results := [.lit (.bool true)], args := [d1, d2] }
  | _ => none }
def lineationFoldsRow : OpenClaim := { program := "ytajkeoapfkkjbaagreatdoor", sum := "93d231254a9c76a1357e9e0d7e8225ea018a97aeb1b24b637ea2c04d0fc9dda0", func := "klippe/klippelaw16.LineationFolds", spec := "lineationFolds", inPlace := ["internal/bytealg.IndexByteString", "internal/bytealg.IndexString", "internal/bytealg.abigen_runtime_cmpstring", "internal/abi.NoEscape"], unfollowed := true, recurses := true, named := ["internal/strconv.uint64pow10", "math/bits.deBruijn32tab", "math/bits.deBruijn64tab", "internal/bytealg.MaxLen", "strconv.ErrSyntax", "strconv.ErrRange"], apart := false, laid := [("math/bits.deBruijn32tab", laid_math_bits_deBruijn32tab), ("math/bits.deBruijn64tab", laid_math_bits_deBruijn64tab), ("internal/strconv.uint64pow10", laid_internal_strconv_uint64pow10), ("strconv.ErrRange", laid_strconv_ErrRange), ("strconv.ErrSyntax", laid_strconv_ErrSyntax)] }
def LineationFoldsSaid : Prop := lineationFoldsRow.holds Tryz.pinned (OpenSpec.ofChange lineationFoldsSpec)

/-- ITS FALSE NEIGHBOUR: 'it returns false'. Refute it at one input. -/
def lineationFoldsWrong : ChangeSpec := { name := "lineationFolds", fn := fun _ => fun
  | [d1, d2] => { results := [.lit (.bool false)], args := [d1, d2] }
  | _ => none }
def LineationFoldsWrongFalsely : Prop := lineationFoldsRow.holds Tryz.pinned (OpenSpec.ofChange lineationFoldsWrong)

/-- 'klippelaw16.LineationForms': WHATEVER THE INPUT: true; the input reads as it did. -/
def lineationFormsSpec : ChangeSpec := { name := "lineationForms", fn := fun _ => fun
  | [d1, d2] => { results := [.lit (.bool true)], args := [d1, d2] }
  | _ => none }
def lineationFormsRow : OpenClaim := { program := "ytajkeoapfkkjbaagreatdoor", sum := "93d231254a9c76a1357e9e0d7e8225ea018a97aeb1b24b637ea2c04d0fc9dda0", func := "klippe/klippelaw16.LineationForms", spec := "lineationForms", inPlace := ["internal/bytealg.IndexByteString", "internal/bytealg.IndexString", "internal/bytealg.abigen_runtime_cmpstring", "internal/abi.NoEscape"], unfollowed := true, recurses := true, named := ["internal/strconv.uint64pow10", "math/bits.deBruijn32tab", "math/bits.deBruijn64tab", "internal/bytealg.MaxLen", "strconv.ErrSyntax", "strconv.ErrRange"], apart := false, laid := [("math/bits.deBruijn32tab", laid_math_bits_deBruijn32tab), ("math/bits.deBruijn64tab", laid_math_bits_deBruijn64tab), ("internal/strconv.uint64pow10", laid_internal_strconv_uint64pow10), ("strconv.ErrRange", laid_strconv_ErrRange), ("strconv.ErrSyntax", laid_strconv_ErrSyntax)] }
def LineationFormsSaid : Prop := lineationFormsRow.holds Tryz.pinned (OpenSpec.ofChange lineationFormsSpec)

/-- ITS FALSE NEIGHBOUR: 'it returns false'. Refute it at one input. -/
def lineationFormsWrong : ChangeSpec := { name := "lineationForms", fn := fun _ => fun
  | [d1, d2] => { results := [.lit (.bool false)], args := [d1, d2] }
  | _ => none }
def LineationFormsWrongFalsely : Prop := lineationFormsRow.holds Tryz.pinned (OpenSpec.ofChange lineationFormsWrong)

/-- 'klippelaw16.LineationPlanes': WHATEVER THE INPUT: true; the input reads as it did. -/
def lineationPlanesSpec : ChangeSpec := { name := "lineationPlanes", fn := fun _ => fun
  | [d1, d2, d3] => { results := [.lit (.bool true)], args := [d1, d2, d3] }
  | _ => none }
def lineationPlanesRow : OpenClaim := { program := "ytajkeoapfkkjbaagreatdoor", sum := "93d231254a9c76a1357e9e0d7e8225ea018a97aeb1b24b637ea2c04d0fc9dda0", func := "klippe/klippelaw16.LineationPlanes", spec := "lineationPlanes", inPlace := ["internal/bytealg.IndexByteString", "internal/bytealg.IndexString", "internal/bytealg.abigen_runtime_cmpstring", "internal/abi.NoEscape"], unfollowed := true, recurses := true, named := ["internal/strconv.uint64pow10", "math/bits.deBruijn32tab", "math/bits.deBruijn64tab", "internal/bytealg.MaxLen", "strconv.ErrSyntax", "strconv.ErrRange"], apart := false, laid := [("math/bits.deBruijn32tab", laid_math_bits_deBruijn32tab), ("math/bits.deBruijn64tab", laid_math_bits_deBruijn64tab), ("internal/strconv.uint64pow10", laid_internal_strconv_uint64pow10), ("strconv.ErrRange", laid_strconv_ErrRange), ("strconv.ErrSyntax", laid_strconv_ErrSyntax)] }
def LineationPlanesSaid : Prop := lineationPlanesRow.holds Tryz.pinned (OpenSpec.ofChange lineationPlanesSpec)

/-- ITS FALSE NEIGHBOUR: 'it returns false'. Refute it at one input. -/
def lineationPlanesWrong : ChangeSpec := { name := "lineationPlanes", fn := fun _ => fun
  | [d1, d2, d3] => { results := [.lit (.bool false)], args := [d1, d2, d3] }
  | _ => none }
def LineationPlanesWrongFalsely : Prop := lineationPlanesRow.holds Tryz.pinned (OpenSpec.ofChange lineationPlanesWrong)

/-- 'klippelaw16.LineationAngles': WHATEVER THE INPUT: true; the input reads as it did. -/
def lineationAnglesSpec : ChangeSpec := { name := "lineationAngles", fn := fun _ => fun
  | [d1, d2, d3] => { results := [.lit (.bool true)], args := [d1, d2, d3] }
  | _ => none }
def lineationAnglesRow : OpenClaim := { program := "ytajkeoapfkkjbaagreatdoor", sum := "93d231254a9c76a1357e9e0d7e8225ea018a97aeb1b24b637ea2c04d0fc9dda0", func := "klippe/klippelaw16.LineationAngles", spec := "lineationAngles", inPlace := ["internal/bytealg.IndexByteString", "internal/bytealg.IndexString", "internal/bytealg.abigen_runtime_cmpstring", "internal/abi.NoEscape"], unfollowed := true, recurses := true, named := ["internal/strconv.uint64pow10", "math/bits.deBruijn32tab", "math/bits.deBruijn64tab", "internal/bytealg.MaxLen", "strconv.ErrSyntax", "strconv.ErrRange"], apart := false, laid := [("math/bits.deBruijn32tab", laid_math_bits_deBruijn32tab), ("math/bits.deBruijn64tab", laid_math_bits_deBruijn64tab), ("internal/strconv.uint64pow10", laid_internal_strconv_uint64pow10), ("strconv.ErrRange", laid_strconv_ErrRange), ("strconv.ErrSyntax", laid_strconv_ErrSyntax)] }
def LineationAnglesSaid : Prop := lineationAnglesRow.holds Tryz.pinned (OpenSpec.ofChange lineationAnglesSpec)

/-- ITS FALSE NEIGHBOUR: 'it returns false'. Refute it at one input. -/
def lineationAnglesWrong : ChangeSpec := { name := "lineationAngles", fn := fun _ => fun
  | [d1, d2, d3] => { results := [.lit (.bool false)], args := [d1, d2, d3] }
  | _ => none }
def LineationAnglesWrongFalsely : Prop := lineationAnglesRow.holds Tryz.pinned (OpenSpec.ofChange lineationAnglesWrong)

/-- 'klippelaw16.LineationLimbs': WHATEVER THE INPUT: true; the input reads as it did. -/
def lineationLimbsSpec : ChangeSpec := { name := "lineationLimbs", fn := fun _ => fun
  | [d1, d2] => { results := [.lit (.bool true)], args := [d1, d2] }
  | _ => none }
def lineationLimbsRow : OpenClaim := { program := "ytajkeoapfkkjbaagreatdoor", sum := "93d231254a9c76a1357e9e0d7e8225ea018a97aeb1b24b637ea2c04d0fc9dda0", func := "klippe/klippelaw16.LineationLimbs", spec := "lineationLimbs", inPlace := ["internal/bytealg.IndexByteString", "internal/bytealg.IndexString", "internal/bytealg.abigen_runtime_cmpstring", "internal/abi.NoEscape"], unfollowed := true, recurses := true, named := ["internal/strconv.uint64pow10", "math/bits.deBruijn32tab", "math/bits.deBruijn64tab", "internal/bytealg.MaxLen", "strconv.ErrSyntax", "strconv.ErrRange"], apart := false, laid := [("math/bits.deBruijn32tab", laid_math_bits_deBruijn32tab), ("math/bits.deBruijn64tab", laid_math_bits_deBruijn64tab), ("internal/strconv.uint64pow10", laid_internal_strconv_uint64pow10), ("strconv.ErrRange", laid_strconv_ErrRange), ("strconv.ErrSyntax", laid_strconv_ErrSyntax)] }
def LineationLimbsSaid : Prop := lineationLimbsRow.holds Tryz.pinned (OpenSpec.ofChange lineationLimbsSpec)

/-- ITS FALSE NEIGHBOUR: 'it returns false'. Refute it at one input. -/
def lineationLimbsWrong : ChangeSpec := { name := "lineationLimbs", fn := fun _ => fun
  | [d1, d2] => { results := [.lit (.bool false)], args := [d1, d2] }
  | _ => none }
def LineationLimbsWrongFalsely : Prop := lineationLimbsRow.holds Tryz.pinned (OpenSpec.ofChange lineationLimbsWrong)

/-- 'klippelaw16.LineationTrends': WHATEVER THE INPUT: true; the input reads as it did. -/
def lineationTrendsSpec : ChangeSpec := { name := "lineationTrends", fn := fun _ => fun
  | [d1, d2] => { results := [.lit (.bool true)], args := [d1, d2] }
  | _ => none }
def lineationTrendsRow : OpenClaim := { program := "ytajkeoapfkkjbaagreatdoor", sum := "93d231254a9c76a1357e9e0d7e8225ea018a97aeb1b24b637ea2c04d0fc9dda0", func := "klippe/klippelaw16.LineationTrends", spec := "lineationTrends", inPlace := ["internal/bytealg.IndexByteString", "internal/bytealg.IndexString", "internal/bytealg.abigen_runtime_cmpstring", "internal/abi.NoEscape"], unfollowed := true, recurses := true, named := ["internal/strconv.uint64pow10", "math/bits.deBruijn32tab", "math/bits.deBruijn64tab", "internal/bytealg.MaxLen", "strconv.ErrSyntax", "strconv.ErrRange"], apart := false, laid := [("math/bits.deBruijn32tab", laid_math_bits_deBruijn32tab), ("math/bits.deBruijn64tab", laid_math_bits_deBruijn64tab), ("internal/strconv.uint64pow10", laid_internal_strconv_uint64pow10), ("strconv.ErrRange", laid_strconv_ErrRange), ("strconv.ErrSyntax", laid_strconv_ErrSyntax)] }
def LineationTrendsSaid : Prop := lineationTrendsRow.holds Tryz.pinned (OpenSpec.ofChange lineationTrendsSpec)

/-- ITS FALSE NEIGHBOUR: 'it returns false'. Refute it at one input. -/
def lineationTrendsWrong : ChangeSpec := { name := "lineationTrends", fn := fun _ => fun
  | [d1, d2] => { results := [.lit (.bool false)], args := [d1, d2] }
  | _ => none }
def LineationTrendsWrongFalsely : Prop := lineationTrendsRow.holds Tryz.pinned (OpenSpec.ofChange lineationTrendsWrong)

/-- 'klippelaw16.LineationMultiples': WHATEVER THE INPUT: true; the input reads as it did. -/
def lineationMultiplesSpec : ChangeSpec := { name := "lineationMultiples", fn := fun _ => fun
  | [d1, d2] => { results := [.lit (.bool true)], args := [d1, d2] }
  | _ => none }
def lineationMultiplesRow : OpenClaim := { program := "ytajkeoapfkkjbaagreatdoor", sum := "93d231254a9c76a1357e9e0d7e8225ea018a97aeb1b24b637ea2c04d0fc9dda0", func := "klippe/klippelaw16.LineationMultiples", spec := "lineationMultiples", inPlace := ["internal/bytealg.IndexByteString", "internal/bytealg.IndexString", "internal/bytealg.abigen_runtime_cmpstring", "internal/abi.NoEscape"], unfollowed := true, recurses := true, named := ["internal/strconv.uint64pow10", "math/bits.deBruijn32tab", "math/bits.deBruijn64tab", "internal/bytealg.MaxLen", "strconv.ErrSyntax", "strconv.ErrRange"], apart := false, laid := [("math/bits.deBruijn32tab", laid_math_bits_deBruijn32tab), ("math/bits.deBruijn64tab", laid_math_bits_deBruijn64tab), ("internal/strconv.uint64pow10", laid_internal_strconv_uint64pow10), ("strconv.ErrRange", laid_strconv_ErrRange), ("strconv.ErrSyntax", laid_strconv_ErrSyntax)] }
def LineationMultiplesSaid : Prop := lineationMultiplesRow.holds Tryz.pinned (OpenSpec.ofChange lineationMultiplesSpec)

/-- ITS FALSE NEIGHBOUR: 'it returns false'. Refute it at one input. -/
def lineationMultiplesWrong : ChangeSpec := { name := "lineationMultiples", fn := fun _ => fun
  | [d1, d2] => { results := [.lit (.bool false)], args := [d1, d2] }
  | _ => none }
def LineationMultiplesWrongFalsely : Prop := lineationMultiplesRow.holds Tryz.pinned (OpenSpec.ofChange lineationMultiplesWrong)

/-- 'klippelaw16.LineationPlunges': WHATEVER THE INPUT: true; the input reads as it did. -/
def lineationPlungesSpec : ChangeSpec := { name := "lineationPlunges", fn := fun _ => fun
  | [d1, d2] => { results := [.lit (.bool true)], args := [d1, d2] }
  | _ => none }
def lineationPlungesRow : OpenClaim := { program := "ytajkeoapfkkjbaagreatdoor", sum := "93d231254a9c76a1357e9e0d7e8225ea018a97aeb1b24b637ea2c04d0fc9dda0", func := "klippe/klippelaw16.LineationPlunges", spec := "lineationPlunges", inPlace := ["internal/bytealg.IndexByteString", "internal/bytealg.IndexString", "internal/bytealg.abigen_runtime_cmpstring", "internal/abi.NoEscape"], unfollowed := true, recurses := true, named := ["internal/strconv.uint64pow10", "math/bits.deBruijn32tab", "math/bits.deBruijn64tab", "internal/bytealg.MaxLen", "strconv.ErrSyntax", "strconv.ErrRange"], apart := false, laid := [("math/bits.deBruijn32tab", laid_math_bits_deBruijn32tab), ("math/bits.deBruijn64tab", laid_math_bits_deBruijn64tab), ("internal/strconv.uint64pow10", laid_internal_strconv_uint64pow10), ("strconv.ErrRange", laid_strconv_ErrRange), ("strconv.ErrSyntax", laid_strconv_ErrSyntax)] }
def LineationPlungesSaid : Prop := lineationPlungesRow.holds Tryz.pinned (OpenSpec.ofChange lineationPlungesSpec)

/-- ITS FALSE NEIGHBOUR: 'it returns false'. Refute it at one input. -/
def lineationPlungesWrong : ChangeSpec := { name := "lineationPlunges", fn := fun _ => fun
  | [d1, d2] => { results := [.lit (.bool false)], args := [d1, d2] }
  | _ => none }
def LineationPlungesWrongFalsely : Prop := lineationPlungesRow.holds Tryz.pinned (OpenSpec.ofChange lineationPlungesWrong)

/-- 'klippelaw16.LineationChecks': WHATEVER THE INPUT: true; the input reads as it did. -/
def lineationChecksSpec : ChangeSpec := { name := "lineationChecks", fn := fun _ => fun
  | [d1, d2] => { results := [.lit (.bool true)], args := [d1, d2] }
  | _ => none }
def lineationChecksRow : OpenClaim := { program := "ytajkeoapfkkjbaagreatdoor", sum := "93d231254a9c76a1357e9e0d7e8225ea018a97aeb1b24b637ea2c04d0fc9dda0", func := "klippe/klippelaw16.LineationChecks", spec := "lineationChecks", inPlace := ["internal/bytealg.IndexByteString", "internal/bytealg.IndexString", "internal/bytealg.abigen_runtime_cmpstring", "internal/abi.NoEscape"], unfollowed := true, recurses := true, named := ["internal/strconv.uint64pow10", "math/bits.deBruijn32tab", "math/bits.deBruijn64tab", "internal/bytealg.MaxLen", "strconv.ErrSyntax", "strconv.ErrRange"], apart := false, laid := [("math/bits.deBruijn32tab", laid_math_bits_deBruijn32tab), ("math/bits.deBruijn64tab", laid_math_bits_deBruijn64tab), ("internal/strconv.uint64pow10", laid_internal_strconv_uint64pow10), ("strconv.ErrRange", laid_strconv_ErrRange), ("strconv.ErrSyntax", laid_strconv_ErrSyntax)] }
def LineationChecksSaid : Prop := lineationChecksRow.holds Tryz.pinned (OpenSpec.ofChange lineationChecksSpec)

/-- ITS FALSE NEIGHBOUR: 'it returns false'. Refute it at one input. -/
def lineationChecksWrong : ChangeSpec := { name := "lineationChecks", fn := fun _ => fun
  | [d1, d2] => { results := [.lit (.bool false)], args := [d1, d2] }
  | _ => none }
def LineationChecksWrongFalsely : Prop := lineationChecksRow.holds Tryz.pinned (OpenSpec.ofChange lineationChecksWrong)

/- THE SECOND FORM. 'bulk': how many values and letters a reading holds, each counted each time it is reached (what is shared counts as often as it is met; a slice's spare places count too). A statement '..UptoSaid' is the law's where the arguments, and the package variables that the reading takes, are together of bulk at most 1048576: NARROWER than '..Said'. Prove '..Said' where nothing that the law and all that it calls make is longer than what came in: it says more and counts as full. Else prove '..UptoSaid'. A law counts once. -/
mutual
def uptoBulk {H : Type} : DataW H → Nat
  | .lit (.string bytes) => bytes.length + 1
  | .lit _ => 1
  | .nil => 1
  | .ptr d => uptoBulk d + 1
  | .slice elems spare => uptoBulkAll elems + uptoBulkAll spare + 1
  | .agg parts => uptoBulkAll parts + 1
  | .iface _ d => uptoBulk d + 1
  | .map entries => uptoBulkEntries entries + 1
  | .held _ => 1
def uptoBulkAll {H : Type} : List (DataW H) → Nat
  | [] => 0
  | d :: r => uptoBulk d + uptoBulkAll r
def uptoBulkEntries {H : Type} : List (Lit × DataW H) → Nat
  | [] => 0
  | x :: r => uptoBulkEntry x + uptoBulkEntries r
def uptoBulkEntry {H : Type} : Lit × DataW H → Nat
  | (.string bytes, d) => bytes.length + uptoBulk d + 1
  | (_, d) => uptoBulk d + 1
 end
def uptoSmall : (H : Type) → List (DataW H) → Bool := fun _ ds => decide (uptoBulkAll ds ≤ 1048576)
def OpenSpec.upto (s : _root_.Go.ChangeSpec) : _root_.Go.OpenSpec := { _root_.Go.OpenSpec.ofChange s with cond := some uptoSmall }

/-- 'klippelaw16.LineationFolds', WHERE WHAT IT READS IS OF BULK AT MOST 1048576: true; the input reads as it did. -/
def lineationFoldsUptoRow : OpenClaim := { program := "ytajkeoapfkkjbaagreatdoor", sum := "93d231254a9c76a1357e9e0d7e8225ea018a97aeb1b24b637ea2c04d0fc9dda0", func := "klippe/klippelaw16.LineationFolds", spec := "lineationFolds", inPlace := ["internal/bytealg.IndexByteString", "internal/bytealg.IndexString", "internal/bytealg.abigen_runtime_cmpstring", "internal/abi.NoEscape"], unfollowed := true, recurses := true, named := ["internal/strconv.uint64pow10", "math/bits.deBruijn32tab", "math/bits.deBruijn64tab", "internal/bytealg.MaxLen", "strconv.ErrSyntax", "strconv.ErrRange"], apart := false, laid := [("math/bits.deBruijn32tab", laid_math_bits_deBruijn32tab), ("math/bits.deBruijn64tab", laid_math_bits_deBruijn64tab), ("internal/strconv.uint64pow10", laid_internal_strconv_uint64pow10), ("strconv.ErrRange", laid_strconv_ErrRange), ("strconv.ErrSyntax", laid_strconv_ErrSyntax)], narrowed := true }
def LineationFoldsUptoSaid : Prop := lineationFoldsUptoRow.holds Tryz.pinned (OpenSpec.upto lineationFoldsSpec)

/-- 'klippelaw16.LineationForms', WHERE WHAT IT READS IS OF BULK AT MOST 1048576: true; the input reads as it did. -/
def lineationFormsUptoRow : OpenClaim := { program := "ytajkeoapfkkjbaagreatdoor", sum := "93d231254a9c76a1357e9e0d7e8225ea018a97aeb1b24b637ea2c04d0fc9dda0", func := "klippe/klippelaw16.LineationForms", spec := "lineationForms", inPlace := ["internal/bytealg.IndexByteString", "internal/bytealg.IndexString", "internal/bytealg.abigen_runtime_cmpstring", "internal/abi.NoEscape"], unfollowed := true, recurses := true, named := ["internal/strconv.uint64pow10", "math/bits.deBruijn32tab", "math/bits.deBruijn64tab", "internal/bytealg.MaxLen", "strconv.ErrSyntax", "strconv.ErrRange"], apart := false, laid := [("math/bits.deBruijn32tab", laid_math_bits_deBruijn32tab), ("math/bits.deBruijn64tab", laid_math_bits_deBruijn64tab), ("internal/strconv.uint64pow10", laid_internal_strconv_uint64pow10), ("strconv.ErrRange", laid_strconv_ErrRange), ("strconv.ErrSyntax", laid_strconv_ErrSyntax)], narrowed := true }
def LineationFormsUptoSaid : Prop := lineationFormsUptoRow.holds Tryz.pinned (OpenSpec.upto lineationFormsSpec)

/-- 'klippelaw16.LineationPlanes', WHERE WHAT IT READS IS OF BULK AT MOST 1048576: true; the input reads as it did. -/
def lineationPlanesUptoRow : OpenClaim := { program := "ytajkeoapfkkjbaagreatdoor", sum := "93d231254a9c76a1357e9e0d7e8225ea018a97aeb1b24b637ea2c04d0fc9dda0", func := "klippe/klippelaw16.LineationPlanes", spec := "lineationPlanes", inPlace := ["internal/bytealg.IndexByteString", "internal/bytealg.IndexString", "internal/bytealg.abigen_runtime_cmpstring", "internal/abi.NoEscape"], unfollowed := true, recurses := true, named := ["internal/strconv.uint64pow10", "math/bits.deBruijn32tab", "math/bits.deBruijn64tab", "internal/bytealg.MaxLen", "strconv.ErrSyntax", "strconv.ErrRange"], apart := false, laid := [("math/bits.deBruijn32tab", laid_math_bits_deBruijn32tab), ("math/bits.deBruijn64tab", laid_math_bits_deBruijn64tab), ("internal/strconv.uint64pow10", laid_internal_strconv_uint64pow10), ("strconv.ErrRange", laid_strconv_ErrRange), ("strconv.ErrSyntax", laid_strconv_ErrSyntax)], narrowed := true }
def LineationPlanesUptoSaid : Prop := lineationPlanesUptoRow.holds Tryz.pinned (OpenSpec.upto lineationPlanesSpec)

/-- 'klippelaw16.LineationAngles', WHERE WHAT IT READS IS OF BULK AT MOST 1048576: true; the input reads as it did. -/
def lineationAnglesUptoRow : OpenClaim := { program := "ytajkeoapfkkjbaagreatdoor", sum := "93d231254a9c76a1357e9e0d7e8225ea018a97aeb1b24b637ea2c04d0fc9dda0", func := "klippe/klippelaw16.LineationAngles", spec := "lineationAngles", inPlace := ["internal/bytealg.IndexByteString", "internal/bytealg.IndexString", "internal/bytealg.abigen_runtime_cmpstring", "internal/abi.NoEscape"], unfollowed := true, recurses := true, named := ["internal/strconv.uint64pow10", "math/bits.deBruijn32tab", "math/bits.deBruijn64tab", "internal/bytealg.MaxLen", "strconv.ErrSyntax", "strconv.ErrRange"], apart := false, laid := [("math/bits.deBruijn32tab", laid_math_bits_deBruijn32tab), ("math/bits.deBruijn64tab", laid_math_bits_deBruijn64tab), ("internal/strconv.uint64pow10", laid_internal_strconv_uint64pow10), ("strconv.ErrRange", laid_strconv_ErrRange), ("strconv.ErrSyntax", laid_strconv_ErrSyntax)], narrowed := true }
def LineationAnglesUptoSaid : Prop := lineationAnglesUptoRow.holds Tryz.pinned (OpenSpec.upto lineationAnglesSpec)

/-- 'klippelaw16.LineationLimbs', WHERE WHAT IT READS IS OF BULK AT MOST 1048576: true; the input reads as it did. -/
def lineationLimbsUptoRow : OpenClaim := { program := "ytajkeoapfkkjbaagreatdoor", sum := "93d231254a9c76a1357e9e0d7e8225ea018a97aeb1b24b637ea2c04d0fc9dda0", func := "klippe/klippelaw16.LineationLimbs", spec := "lineationLimbs", inPlace := ["internal/bytealg.IndexByteString", "internal/bytealg.IndexString", "internal/bytealg.abigen_runtime_cmpstring", "internal/abi.NoEscape"], unfollowed := true, recurses := true, named := ["internal/strconv.uint64pow10", "math/bits.deBruijn32tab", "math/bits.deBruijn64tab", "internal/bytealg.MaxLen", "strconv.ErrSyntax", "strconv.ErrRange"], apart := false, laid := [("math/bits.deBruijn32tab", laid_math_bits_deBruijn32tab), ("math/bits.deBruijn64tab", laid_math_bits_deBruijn64tab), ("internal/strconv.uint64pow10", laid_internal_strconv_uint64pow10), ("strconv.ErrRange", laid_strconv_ErrRange), ("strconv.ErrSyntax", laid_strconv_ErrSyntax)], narrowed := true }
def LineationLimbsUptoSaid : Prop := lineationLimbsUptoRow.holds Tryz.pinned (OpenSpec.upto lineationLimbsSpec)

/-- 'klippelaw16.LineationTrends', WHERE WHAT IT READS IS OF BULK AT MOST 1048576: true; the input reads as it did. -/
def lineationTrendsUptoRow : OpenClaim := { program := "ytajkeoapfkkjbaagreatdoor", sum := "93d231254a9c76a1357e9e0d7e8225ea018a97aeb1b24b637ea2c04d0fc9dda0", func := "klippe/klippelaw16.LineationTrends", spec := "lineationTrends", inPlace := ["internal/bytealg.IndexByteString", "internal/bytealg.IndexString", "internal/bytealg.abigen_runtime_cmpstring", "internal/abi.NoEscape"], unfollowed := true, recurses := true, named := ["internal/strconv.uint64pow10", "math/bits.deBruijn32tab", "math/bits.deBruijn64tab", "internal/bytealg.MaxLen", "strconv.ErrSyntax", "strconv.ErrRange"], apart := false, laid := [("math/bits.deBruijn32tab", laid_math_bits_deBruijn32tab), ("math/bits.deBruijn64tab", laid_math_bits_deBruijn64tab), ("internal/strconv.uint64pow10", laid_internal_strconv_uint64pow10), ("strconv.ErrRange", laid_strconv_ErrRange), ("strconv.ErrSyntax", laid_strconv_ErrSyntax)], narrowed := true }
def LineationTrendsUptoSaid : Prop := lineationTrendsUptoRow.holds Tryz.pinned (OpenSpec.upto lineationTrendsSpec)

/-- 'klippelaw16.LineationMultiples', WHERE WHAT IT READS IS OF BULK AT MOST 1048576: true; the input reads as it did. -/
def lineationMultiplesUptoRow : OpenClaim := { program := "ytajkeoapfkkjbaagreatdoor", sum := "93d231254a9c76a1357e9e0d7e8225ea018a97aeb1b24b637ea2c04d0fc9dda0", func := "klippe/klippelaw16.LineationMultiples", spec := "lineationMultiples", inPlace := ["internal/bytealg.IndexByteString", "internal/bytealg.IndexString", "internal/bytealg.abigen_runtime_cmpstring", "internal/abi.NoEscape"], unfollowed := true, recurses := true, named := ["internal/strconv.uint64pow10", "math/bits.deBruijn32tab", "math/bits.deBruijn64tab", "internal/bytealg.MaxLen", "strconv.ErrSyntax", "strconv.ErrRange"], apart := false, laid := [("math/bits.deBruijn32tab", laid_math_bits_deBruijn32tab), ("math/bits.deBruijn64tab", laid_math_bits_deBruijn64tab), ("internal/strconv.uint64pow10", laid_internal_strconv_uint64pow10), ("strconv.ErrRange", laid_strconv_ErrRange), ("strconv.ErrSyntax", laid_strconv_ErrSyntax)], narrowed := true }
def LineationMultiplesUptoSaid : Prop := lineationMultiplesUptoRow.holds Tryz.pinned (OpenSpec.upto lineationMultiplesSpec)

/-- 'klippelaw16.LineationPlunges', WHERE WHAT IT READS IS OF BULK AT MOST 1048576: true; the input reads as it did. -/
def lineationPlungesUptoRow : OpenClaim := { program := "ytajkeoapfkkjbaagreatdoor", sum := "93d231254a9c76a1357e9e0d7e8225ea018a97aeb1b24b637ea2c04d0fc9dda0", func := "klippe/klippelaw16.LineationPlunges", spec := "lineationPlunges", inPlace := ["internal/bytealg.IndexByteString", "internal/bytealg.IndexString", "internal/bytealg.abigen_runtime_cmpstring", "internal/abi.NoEscape"], unfollowed := true, recurses := true, named := ["internal/strconv.uint64pow10", "math/bits.deBruijn32tab", "math/bits.deBruijn64tab", "internal/bytealg.MaxLen", "strconv.ErrSyntax", "strconv.ErrRange"], apart := false, laid := [("math/bits.deBruijn32tab", laid_math_bits_deBruijn32tab), ("math/bits.deBruijn64tab", laid_math_bits_deBruijn64tab), ("internal/strconv.uint64pow10", laid_internal_strconv_uint64pow10), ("strconv.ErrRange", laid_strconv_ErrRange), ("strconv.ErrSyntax", laid_strconv_ErrSyntax)], narrowed := true }
def LineationPlungesUptoSaid : Prop := lineationPlungesUptoRow.holds Tryz.pinned (OpenSpec.upto lineationPlungesSpec)

/-- 'klippelaw16.LineationChecks', WHERE WHAT IT READS IS OF BULK AT MOST 1048576: true; the input reads as it did. -/
def lineationChecksUptoRow : OpenClaim := { program := "ytajkeoapfkkjbaagreatdoor", sum := "93d231254a9c76a1357e9e0d7e8225ea018a97aeb1b24b637ea2c04d0fc9dda0", func := "klippe/klippelaw16.LineationChecks", spec := "lineationChecks", inPlace := ["internal/bytealg.IndexByteString", "internal/bytealg.IndexString", "internal/bytealg.abigen_runtime_cmpstring", "internal/abi.NoEscape"], unfollowed := true, recurses := true, named := ["internal/strconv.uint64pow10", "math/bits.deBruijn32tab", "math/bits.deBruijn64tab", "internal/bytealg.MaxLen", "strconv.ErrSyntax", "strconv.ErrRange"], apart := false, laid := [("math/bits.deBruijn32tab", laid_math_bits_deBruijn32tab), ("math/bits.deBruijn64tab", laid_math_bits_deBruijn64tab), ("internal/strconv.uint64pow10", laid_internal_strconv_uint64pow10), ("strconv.ErrRange", laid_strconv_ErrRange), ("strconv.ErrSyntax", laid_strconv_ErrSyntax)], narrowed := true }
def LineationChecksUptoSaid : Prop := lineationChecksUptoRow.holds Tryz.pinned (OpenSpec.upto lineationChecksSpec)

end Rows
end Go.Proofs.YtajkeoapfkkjbaaGreatDoor
