/-
  DERIVED: THE SHELF's CONTRACTS AT THIS DUMP, IN PLAIN WORDS (tools/lay-plain.mjs out of 'TryzShelf.lean', which tools/lay-shelf.mjs wrote): THE SAME DECLARATIONS UNDER THE SAME NAMES: 'import', 'namespace', 'open', 'def', 'theorem' AND NOTHING ELSE: no command of the shelf's: FOR A HAND-IN. Each laying: the table of numbers ('.._ren') and one theorem, a field a fact of the dump's own or the kernel's comparison; each contract: ONE APPLICATION.
-/
import Derived.Shelf.Strings.Builder1
import Derived.Shelf.Strings.Builder2
import Derived.Shelf.Strings.Trim
import Derived.Shelf.Small.Utf8
import Derived.Shelf.Small.Strs
import Derived.Shelf.Small.Wraps
import Derived.Shelf.Strings.BuilderF
import Derived.Shelf.Strings.BuilderK
import Derived.Shelf.Strconv.Atoi
import Derived.Shelf.Strconv.Itoa0
import Derived.Shelf.Strconv.Itoa1
import Derived.Shelf.LaysM
import Derived.Shelf.Strconv.Itoa2
import Derived.Shelf.Strconv.Itoa3
import Derived.Shelf.Strconv.AtoiErrFast
import Derived.Shelf.Strconv.ParseIntEmpty
import Derived.Shelf.Strconv.AtoiFail
import Derived.Shelf.Strconv.Clone
import Derived.Shelf.Strconv.SyntaxError
import Derived.Shelf.LaysC
import Derived.Shelf.Strconv.ToError
import Derived.Shelf.Strconv.Lower
import Derived.Shelf.Strconv.ParseUint10
import Derived.Shelf.Strconv.ParseUint10Empty
import Derived.Shelf.Strconv.ParseUint10Any
import Derived.Shelf.Strconv.ParseInt10
import Derived.Shelf.Strconv.AtoiLong
import Derived.Shelf.Strconv.AtoiInnerAll
import Derived.Shelf.Strconv.RangeError
import Derived.Shelf.Strconv.ToErrorRange
import Derived.Shelf.Strconv.AtoiAll
import Derived.Shelf.Strconv.ErrVarAll
import Derived.Shelf.Strconv.ParseUintEmpty
import Derived.Shelf.Strconv.ParseUint10b64
import Derived.Shelf.Strconv.ParseUint10b32
import Derived.Shelf.Strconv.ParseUint10b16
import Derived.Shelf.Strconv.ParseUint10b8
import Derived.Shelf.Strconv.ParseUint10At
import Derived.Shelf.Strconv.ParseInt10At64
import Derived.Shelf.Strconv.ParseInt10At32
import Derived.Shelf.Strconv.ParseInt10At16
import Derived.Shelf.Strconv.ParseInt10At8
import Derived.Shelf.Strconv.ParseInt10All
import Derived.Shelf.Strconv.ParseIntPublic10
import Derived.Shelf.Strconv.ErrVarParseInt
import Derived.Ground.MpProg
import Derived.Shelf.Pu.ParseUintPublic10
import Derived.Shelf.Pu.ErrVarParseUint
import Derived.Shelf.Strings.Search1
import Derived.Shelf.Strings.Search2
import Derived.Shelf.Strings.Cut
import Derived.Shelf.Strings.Shaped
import Derived.Shelf.Strings.Prefix
import Derived.Shelf.Strings.Runes
import Derived.Shelf.Strings.IndexAny
import Derived.Shelf.Strings.AsciiSet
import Derived.Shelf.Strings.IndexAnyAll
import Derived.Shelf.Bits.Mul64
import Derived.Shelf.Strings.Repeat
import Derived.Shelf.Unicode.DecodeSlow
import Derived.Shelf.Unicode.DecodeAny
import Derived.Test.YtjkbgjjfchhpfaaGreatDoorProg
namespace Go.Proofs
open Go.Shelf
def Tryz.lays169_ren : Go.Shelf.Ren := ⟨fun | 169 => 66 | n => n, fun | 70 => 73 | 9 => 9 | 0 => 0 | 72 => 76 | 37 => 74 | 127 => 116 | 3 => 3 | 5 => 5 | n => n, fun | n => n⟩
theorem Tryz.lays169 : Go.Proofs.Lays.n169 Tryz.prog Tryz.lays169_ren := {
  mixed := by kernel_rfl
  f169 := Tryz.func66.trans (congrArg some (by kernel_rfl))
  t0 := Tryz.underlying0
  a0 := Tryz.isAgg0
  z0 := Tryz.sizeOf0
  v0 := Tryz.zeroValue0
  t3 := Tryz.underlying3
  a3 := Tryz.isAgg3
  z3 := Tryz.sizeOf3
  v3 := Tryz.zeroValue3
  t9 := Tryz.underlying9
  a9 := Tryz.isAgg9
  z9 := Tryz.sizeOf9
  v9 := Tryz.zeroValue9
  t37 := Tryz.underlying74
  a37 := Tryz.isAgg74
  z37 := Tryz.sizeOf74
  v37 := Tryz.zeroValue74
  t70 := Tryz.underlying73
  a70 := Tryz.isAgg73
  z70 := Tryz.sizeOf73
  v70 := Tryz.zeroValue73
  t72 := Tryz.underlying76
  a72 := Tryz.isAgg76
  z72 := Tryz.sizeOf76
  v72 := Tryz.zeroValue76
  t127 := Tryz.underlying116
  a127 := Tryz.isAgg116
  z127 := Tryz.sizeOf116
  v127 := Tryz.zeroValue116 }
theorem Tryz.Builder_Extra_169 : Builder.Extra Tryz.prog Tryz.lays169_ren := {
  sizeBuilder := by kernel_rfl
  liesBuilder := by kernel_rfl
  t5 := Tryz.underlying5
  a5 := Tryz.isAgg5
  z5 := Tryz.sizeOf5
  v5 := Tryz.zeroValue5
  infoByte := by kernel_rfl
  cellsByte := by kernel_rfl
  sizeByte := by kernel_rfl
  neB5 := by decide }
def Tryz.lays161_ren : Go.Shelf.Ren := ⟨fun | 161 => 117 | 231 => 148 | 227 => 115 | 233 => 149 | 235 => 150 | 228 => 116 | 197 => 167 | 151 => 168 | 260 => 182 | 152 => 113 | 137 => 75 | 119 => 145 | 224 => 146 | 225 => 147 | 217 => 118 | 266 => 151 | n => n, fun | 9 => 9 | 4 => 4 | 3 => 3 | 5 => 5 | 117 => 121 | 116 => 120 | 0 => 0 | 124 => 150 | 105 => 166 | 21 => 21 | 119 => 189 | 46 => 69 | 139 => 192 | 138 => 191 | n => n, fun | 3 => 4 | 4 => 5 | n => n⟩
theorem Tryz.lays161 : Go.Proofs.Lays.n161 Tryz.prog Tryz.lays161_ren := {
  mixed := by kernel_rfl
  f119 := Tryz.func145.trans (congrArg some (by kernel_rfl))
  f137 := Tryz.func75.trans (congrArg some (by kernel_rfl))
  f151 := Tryz.func168.trans (congrArg some (by kernel_rfl))
  f152 := Tryz.func113.trans (congrArg some (by kernel_rfl))
  f161 := Tryz.func117.trans (congrArg some (by kernel_rfl))
  f197 := Tryz.func167.trans (congrArg some (by kernel_rfl))
  f217 := Tryz.func118.trans (congrArg some (by kernel_rfl))
  f224 := Tryz.func146.trans (congrArg some (by kernel_rfl))
  f225 := Tryz.func147.trans (congrArg some (by kernel_rfl))
  f227 := Tryz.func115.trans (congrArg some (by kernel_rfl))
  f228 := Tryz.func116.trans (congrArg some (by kernel_rfl))
  f231 := Tryz.func148.trans (congrArg some (by kernel_rfl))
  f233 := Tryz.func149.trans (congrArg some (by kernel_rfl))
  f235 := Tryz.func150.trans (congrArg some (by kernel_rfl))
  f260 := Tryz.func182.trans (congrArg some (by kernel_rfl))
  f266 := Tryz.func151.trans (congrArg some (by kernel_rfl))
  t0 := Tryz.underlying0
  a0 := Tryz.isAgg0
  z0 := Tryz.sizeOf0
  v0 := Tryz.zeroValue0
  t3 := Tryz.underlying3
  a3 := Tryz.isAgg3
  z3 := Tryz.sizeOf3
  v3 := Tryz.zeroValue3
  t4 := Tryz.underlying4
  a4 := Tryz.isAgg4
  z4 := Tryz.sizeOf4
  v4 := Tryz.zeroValue4
  t5 := Tryz.underlying5
  a5 := Tryz.isAgg5
  z5 := Tryz.sizeOf5
  v5 := Tryz.zeroValue5
  t9 := Tryz.underlying9
  a9 := Tryz.isAgg9
  z9 := Tryz.sizeOf9
  v9 := Tryz.zeroValue9
  t21 := Tryz.underlying21
  a21 := Tryz.isAgg21
  z21 := Tryz.sizeOf21
  v21 := Tryz.zeroValue21
  t46 := Tryz.underlying69
  a46 := Tryz.isAgg69
  z46 := Tryz.sizeOf69
  v46 := Tryz.zeroValue69
  t105 := Tryz.underlying166
  a105 := Tryz.isAgg166
  z105 := Tryz.sizeOf166
  v105 := Tryz.zeroValue166
  t116 := Tryz.underlying120
  a116 := Tryz.isAgg120
  z116 := Tryz.sizeOf120
  t117 := Tryz.underlying121
  a117 := Tryz.isAgg121
  z117 := Tryz.sizeOf121
  v117 := Tryz.zeroValue121
  t119 := Tryz.underlying189
  a119 := Tryz.isAgg189
  z119 := Tryz.sizeOf189
  t124 := Tryz.underlying150
  a124 := Tryz.isAgg150
  z124 := Tryz.sizeOf150
  v124 := Tryz.zeroValue150
  t138 := Tryz.underlying191
  a138 := Tryz.isAgg191
  z138 := Tryz.sizeOf191
  v138 := Tryz.zeroValue191
  t139 := Tryz.underlying192
  a139 := Tryz.isAgg192
  z139 := Tryz.sizeOf192
  v139 := Tryz.zeroValue192
  g3 := by kernel_rfl
  g4 := by kernel_rfl }
open Go.RowKit in
theorem Tryz.strings_TrimLeft_one (s : ByteArray) (c : UInt8) (hc : c.toNat < 128) (w : World) :
    Calls Tryz.prog 117 #[.string s, .string ⟨#[c]⟩] w fun e w' => e = .returned (.string ⟨(Lib.trimLeftB s.data.toList c).toArray⟩) ∧ w' = w := Any.strings_TrimLeft_one Tryz.lays161 s c hc w
def Tryz.lays119_ren : Go.Shelf.Ren := ⟨fun | 119 => 145 | n => n, fun | 21 => 21 | 4 => 4 | n => n, fun | n => n⟩
theorem Tryz.lays119 : Go.Proofs.Lays.n119 Tryz.prog Tryz.lays119_ren := {
  mixed := by kernel_rfl
  f119 := Tryz.func145.trans (congrArg some (by kernel_rfl))
  t4 := Tryz.underlying4
  a4 := Tryz.isAgg4
  z4 := Tryz.sizeOf4
  v4 := Tryz.zeroValue4
  t21 := Tryz.underlying21
  a21 := Tryz.isAgg21
  z21 := Tryz.sizeOf21
  v21 := Tryz.zeroValue21 }
theorem Tryz.utf8_ValidRune (r : Int) (w : World) :
    Calls Tryz.prog 145 #[.int .i32 r] w fun e w' => e = .returned (.bool (Lib.validRune r)) ∧ w' = w := Any.utf8_ValidRune Tryz.lays119 r w
def Tryz.lays106_ren : Go.Shelf.Ren := ⟨fun | 106 => 140 | 213 => 164 | 265 => 180 | n => n, fun | 9 => 9 | 3 => 3 | n => n, fun | n => n⟩
theorem Tryz.lays106 : Go.Proofs.Lays.n106 Tryz.prog Tryz.lays106_ren := {
  mixed := by kernel_rfl
  f106 := Tryz.func140.trans (congrArg some (by kernel_rfl))
  f213 := Tryz.func164.trans (congrArg some (by kernel_rfl))
  f265 := Tryz.func180.trans (congrArg some (by kernel_rfl))
  t3 := Tryz.underlying3
  a3 := Tryz.isAgg3
  z3 := Tryz.sizeOf3
  v3 := Tryz.zeroValue3
  t9 := Tryz.underlying9
  a9 := Tryz.isAgg9
  z9 := Tryz.sizeOf9
  v9 := Tryz.zeroValue9 }
open Go.RowKit in
theorem Tryz.strings_Compare (a b : ByteArray) (w : World) :
    Calls Tryz.prog 140 #[.string a, .string b] w fun e w' => e = .returned (.int .i64 (Lib.compareBytes a.data.toList b.data.toList)) ∧ w' = w := Any.strings_Compare Tryz.lays106 a b w
def Tryz.lays137_ren : Go.Shelf.Ren := ⟨fun | 137 => 75 | 217 => 118 | 266 => 151 | n => n, fun | 9 => 9 | 5 => 5 | 3 => 3 | n => n, fun | n => n⟩
theorem Tryz.lays137 : Go.Proofs.Lays.n137 Tryz.prog Tryz.lays137_ren := {
  mixed := by kernel_rfl
  f137 := Tryz.func75.trans (congrArg some (by kernel_rfl))
  f217 := Tryz.func118.trans (congrArg some (by kernel_rfl))
  f266 := Tryz.func151.trans (congrArg some (by kernel_rfl))
  t3 := Tryz.underlying3
  a3 := Tryz.isAgg3
  z3 := Tryz.sizeOf3
  v3 := Tryz.zeroValue3
  t5 := Tryz.underlying5
  a5 := Tryz.isAgg5
  z5 := Tryz.sizeOf5
  v5 := Tryz.zeroValue5
  t9 := Tryz.underlying9
  a9 := Tryz.isAgg9
  z9 := Tryz.sizeOf9
  v9 := Tryz.zeroValue9 }
open Go.RowKit in
theorem Tryz.strings_IndexByte (s : ByteArray) (c : Int) (w : World) :
    Calls Tryz.prog 75 #[.string s, .int .u8 c] w fun e w' => e = .returned (.int .i64 (Lib.indexByte s.data.toList c.toNat.toUInt8)) ∧ w' = w := Any.strings_IndexByte Tryz.lays137 s c w
def Tryz.lays103_ren : Go.Shelf.Ren := ⟨fun | 103 => 67 | 210 => 112 | 206 => 109 | n => n, fun | 9 => 9 | 4 => 4 | 24 => 84 | 3 => 3 | n => n, fun | n => n⟩
theorem Tryz.lays103 : Go.Proofs.Lays.n103 Tryz.prog Tryz.lays103_ren := {
  mixed := by kernel_rfl
  f103 := Tryz.func67.trans (congrArg some (by kernel_rfl))
  f206 := Tryz.func109.trans (congrArg some (by kernel_rfl))
  f210 := Tryz.func112.trans (congrArg some (by kernel_rfl))
  t3 := Tryz.underlying3
  a3 := Tryz.isAgg3
  z3 := Tryz.sizeOf3
  v3 := Tryz.zeroValue3
  t4 := Tryz.underlying4
  a4 := Tryz.isAgg4
  z4 := Tryz.sizeOf4
  v4 := Tryz.zeroValue4
  t9 := Tryz.underlying9
  a9 := Tryz.isAgg9
  z9 := Tryz.sizeOf9
  v9 := Tryz.zeroValue9
  t24 := Tryz.underlying84
  a24 := Tryz.isAgg84
  z24 := Tryz.sizeOf84
  v24 := Tryz.zeroValue84 }
open Go.RowKit in
theorem Tryz.strings_CutPrefix (s p : ByteArray) (w : World) :
    Calls Tryz.prog 67 #[.string s, .string p] w fun e w' => e = .returned (.tuple #[.string ⟨(Lib.trimPrefix s.data.toList p.data.toList).toArray⟩, .bool (Lib.hasPrefix s.data.toList p.data.toList)]) ∧ w' = w := Any.strings_CutPrefix Tryz.lays103 s p w
open Go.RowKit in
theorem Tryz.Builder_String_any_k (B b : Nat) (l : List UInt8) (w : World) (h : Lib.IsBuilderF 76 5 B b (Lib.byteCells l) w) (hBw : B ≤ w.heap.size) :
    Calls Tryz.prog 66 #[.pointer (some ⟨b, 0, none⟩)] w fun e w' => e = .returned (.string ⟨l.toArray⟩) ∧ (Lib.IsBuilderF 76 5 B b (Lib.byteCells l) w' ∧ Below B w w' ∧ Lib.OthersKept 5 (some b) w w') := Any.Builder_String_any_k Tryz.lays169 Tryz.Builder_Extra_169 B b l w h hBw
def Tryz.lays283_ren : Go.Shelf.Ren := ⟨fun | 283 => 173 | n => n, fun | 3 => 3 | 9 => 9 | 4 => 4 | n => n, fun | n => n⟩
theorem Tryz.lays283 : Go.Proofs.Lays.n283 Tryz.prog Tryz.lays283_ren := {
  mixed := by kernel_rfl
  f283 := Tryz.func173.trans (congrArg some (by kernel_rfl))
  t3 := Tryz.underlying3
  a3 := Tryz.isAgg3
  z3 := Tryz.sizeOf3
  v3 := Tryz.zeroValue3
  t4 := Tryz.underlying4
  a4 := Tryz.isAgg4
  z4 := Tryz.sizeOf4
  v4 := Tryz.zeroValue4
  t9 := Tryz.underlying9
  a9 := Tryz.isAgg9
  z9 := Tryz.sizeOf9
  v9 := Tryz.zeroValue9 }
open Go.Lib in
theorem Tryz.internal_strconv_small (i : Nat) (h : i < 100) (w : World) :
    Calls Tryz.prog 173 #[.int .i64 i] w fun e w' => e = .returned (.string ⟨(Lib.decDigits i).toArray⟩) ∧ w' = w := Any.internal_strconv_small Tryz.lays283 i h w
def Tryz.laysM284_ren : Go.Shelf.Ren := ⟨fun | 284 => 174 | 129 => 186 | 317 => 185 | 318 => 187 | n => n, fun | 53 => 113 | 3 => 3 | 212 => 184 | 0 => 0 | 4 => 4 | 46 => 69 | 5 => 5 | 9 => 9 | n => n, fun | 17 => 3 | n => n⟩
theorem Tryz.laysM284 : Go.Proofs.LaysM.n284 Tryz.prog Tryz.laysM284_ren := {
  mixed := by kernel_rfl
  f129 := Tryz.func186.trans (congrArg some (by kernel_rfl))
  f284 := Tryz.func174.trans (congrArg some (by kernel_rfl))
  f317 := Tryz.func185.trans (congrArg some (by kernel_rfl))
  f318 := Tryz.func187.trans (congrArg some (by kernel_rfl))
  t0 := Tryz.underlying0
  a0 := Tryz.isAgg0
  z0 := Tryz.sizeOf0
  v0 := Tryz.zeroValue0
  t3 := Tryz.underlying3
  a3 := Tryz.isAgg3
  z3 := Tryz.sizeOf3
  v3 := Tryz.zeroValue3
  t4 := Tryz.underlying4
  a4 := Tryz.isAgg4
  z4 := Tryz.sizeOf4
  v4 := Tryz.zeroValue4
  t5 := Tryz.underlying5
  a5 := Tryz.isAgg5
  z5 := Tryz.sizeOf5
  v5 := Tryz.zeroValue5
  t9 := Tryz.underlying9
  a9 := Tryz.isAgg9
  z9 := Tryz.sizeOf9
  v9 := Tryz.zeroValue9
  t46 := Tryz.underlying69
  a46 := Tryz.isAgg69
  z46 := Tryz.sizeOf69
  v46 := Tryz.zeroValue69
  t53 := Tryz.underlying113
  a53 := Tryz.isAgg113
  z53 := Tryz.sizeOf113
  v53 := Tryz.zeroValue113
  t212 := Tryz.underlying184
  a212 := Tryz.isAgg184
  z212 := Tryz.sizeOf184
  v212 := Tryz.zeroValue184
  g17 := by kernel_rfl
  i0 := by kernel_rfl
  i3 := by kernel_rfl
  i4 := by kernel_rfl
  i5 := by kernel_rfl
  i9 := by kernel_rfl
  i46 := by kernel_rfl
  i53 := by kernel_rfl
  i212 := by kernel_rfl
  m17 := by kernel_rfl }
open Go.Lib in
theorem Tryz.internal_strconv_numDigits (u : Nat) (h1 : 1 ≤ u) (h2 : u < 18446744073709551616) (w : World) (htab : Lib.TabIs Tryz.prog w "internal/strconv.uint64pow10" .u64 Lib.pow10Tab) :
    Calls Tryz.prog 174 #[.int .u64 u] w fun e w' => e = .returned (.int .i64 (Lib.nDigits u)) ∧ w' = w := Any.internal_strconv_numDigits Tryz.laysM284 u h1 h2 w htab
def Tryz.lays285_ren : Go.Shelf.Ren := ⟨fun | 285 => 175 | n => n, fun | 37 => 74 | 53 => 113 | 3 => 3 | 4 => 4 | 51 => 110 | 9 => 9 | 5 => 5 | 0 => 0 | n => n, fun | n => n⟩
theorem Tryz.lays285 : Go.Proofs.Lays.n285 Tryz.prog Tryz.lays285_ren := {
  mixed := by kernel_rfl
  f285 := Tryz.func175.trans (congrArg some (by kernel_rfl))
  t0 := Tryz.underlying0
  a0 := Tryz.isAgg0
  z0 := Tryz.sizeOf0
  v0 := Tryz.zeroValue0
  t3 := Tryz.underlying3
  a3 := Tryz.isAgg3
  z3 := Tryz.sizeOf3
  v3 := Tryz.zeroValue3
  t4 := Tryz.underlying4
  a4 := Tryz.isAgg4
  z4 := Tryz.sizeOf4
  v4 := Tryz.zeroValue4
  t5 := Tryz.underlying5
  a5 := Tryz.isAgg5
  z5 := Tryz.sizeOf5
  v5 := Tryz.zeroValue5
  t9 := Tryz.underlying9
  a9 := Tryz.isAgg9
  z9 := Tryz.sizeOf9
  v9 := Tryz.zeroValue9
  t37 := Tryz.underlying74
  a37 := Tryz.isAgg74
  z37 := Tryz.sizeOf74
  v37 := Tryz.zeroValue74
  t51 := Tryz.underlying110
  a51 := Tryz.isAgg110
  z51 := Tryz.sizeOf110
  v51 := Tryz.zeroValue110
  t53 := Tryz.underlying113
  a53 := Tryz.isAgg113
  z53 := Tryz.sizeOf113
  v53 := Tryz.zeroValue113 }
open Go.RowKit Go.Sort Go.Lib in
theorem Tryz.internal_strconv_formatBase10 (blk off cap : Nat) (u : Nat) (d : Array UInt8) (w : World) (hH : Holds (fun (b : UInt8) => Value.int .u8 (b.toNat : Int)) w blk off d) (hu : u < 10 ^ d.size) (hu64 : u < 18446744073709551616) (hsz : d.size < 4611686018427387904) :
    Calls Tryz.prog 175 #[.slice (some ⟨blk, off, none⟩) d.size cap, .int .u64 u] w fun e w' =>
      e = .returned (.tuple #[]) ∧ ∃ (n v' : Nat) (dk : Array UInt8), w' = (putRow (fun (b : UInt8) => Value.int .u8 (b.toNat : Int)) w blk off dk).drewN n ∧ FmtInv d.size u 0 v' dk := Any.internal_strconv_formatBase10 Tryz.lays285 blk off cap u d w hH hu hu64 hsz
def Tryz.laysM171_ren : Go.Shelf.Ren := ⟨fun | 171 => 89 | 243 => 129 | 246 => 157 | 283 => 173 | 284 => 174 | 285 => 175 | 286 => 176 | 129 => 186 | 317 => 185 | 318 => 187 | 319 => 188 | 320 => 189 | 337 => 193 | 338 => 194 | n => n, fun | 3 => 3 | 9 => 9 | 2 => 2 | 4 => 4 | 171 => 173 | 0 => 0 | 53 => 113 | 37 => 74 | 5 => 5 | 173 => 176 | 212 => 184 | 51 => 110 | 20 => 20 | 213 => 185 | 46 => 69 | 232 => 197 | 233 => 198 | n => n, fun | 17 => 3 | 18 => 6 | 19 => 7 | n => n⟩
theorem Tryz.laysM171 : Go.Proofs.LaysM.n171 Tryz.prog Tryz.laysM171_ren := {
  mixed := by kernel_rfl
  f129 := Tryz.func186.trans (congrArg some (by kernel_rfl))
  f171 := Tryz.func89.trans (congrArg some (by kernel_rfl))
  f243 := Tryz.func129.trans (congrArg some (by kernel_rfl))
  f246 := Tryz.func157.trans (congrArg some (by kernel_rfl))
  f283 := Tryz.func173.trans (congrArg some (by kernel_rfl))
  f284 := Tryz.func174.trans (congrArg some (by kernel_rfl))
  f285 := Tryz.func175.trans (congrArg some (by kernel_rfl))
  f286 := Tryz.func176.trans (congrArg some (by kernel_rfl))
  f317 := Tryz.func185.trans (congrArg some (by kernel_rfl))
  f318 := Tryz.func187.trans (congrArg some (by kernel_rfl))
  f319 := Tryz.func188.trans (congrArg some (by kernel_rfl))
  f320 := Tryz.func189.trans (congrArg some (by kernel_rfl))
  f337 := Tryz.func193.trans (congrArg some (by kernel_rfl))
  f338 := Tryz.func194.trans (congrArg some (by kernel_rfl))
  t0 := Tryz.underlying0
  a0 := Tryz.isAgg0
  z0 := Tryz.sizeOf0
  v0 := Tryz.zeroValue0
  t2 := Tryz.underlying2
  a2 := Tryz.isAgg2
  z2 := Tryz.sizeOf2
  v2 := Tryz.zeroValue2
  t3 := Tryz.underlying3
  a3 := Tryz.isAgg3
  z3 := Tryz.sizeOf3
  v3 := Tryz.zeroValue3
  t4 := Tryz.underlying4
  a4 := Tryz.isAgg4
  z4 := Tryz.sizeOf4
  v4 := Tryz.zeroValue4
  t5 := Tryz.underlying5
  a5 := Tryz.isAgg5
  z5 := Tryz.sizeOf5
  v5 := Tryz.zeroValue5
  t9 := Tryz.underlying9
  a9 := Tryz.isAgg9
  z9 := Tryz.sizeOf9
  v9 := Tryz.zeroValue9
  t20 := Tryz.underlying20
  a20 := Tryz.isAgg20
  z20 := Tryz.sizeOf20
  v20 := Tryz.zeroValue20
  t37 := Tryz.underlying74
  a37 := Tryz.isAgg74
  z37 := Tryz.sizeOf74
  v37 := Tryz.zeroValue74
  t46 := Tryz.underlying69
  a46 := Tryz.isAgg69
  z46 := Tryz.sizeOf69
  v46 := Tryz.zeroValue69
  t51 := Tryz.underlying110
  a51 := Tryz.isAgg110
  z51 := Tryz.sizeOf110
  v51 := Tryz.zeroValue110
  t53 := Tryz.underlying113
  a53 := Tryz.isAgg113
  z53 := Tryz.sizeOf113
  v53 := Tryz.zeroValue113
  t171 := Tryz.underlying173
  a171 := Tryz.isAgg173
  z171 := Tryz.sizeOf173
  v171 := Tryz.zeroValue173
  t173 := Tryz.underlying176
  a173 := Tryz.isAgg176
  z173 := Tryz.sizeOf176
  v173 := Tryz.zeroValue176
  t212 := Tryz.underlying184
  a212 := Tryz.isAgg184
  z212 := Tryz.sizeOf184
  v212 := Tryz.zeroValue184
  t213 := Tryz.underlying185
  a213 := Tryz.isAgg185
  z213 := Tryz.sizeOf185
  t232 := Tryz.underlying197
  a232 := Tryz.isAgg197
  z232 := Tryz.sizeOf197
  v232 := Tryz.zeroValue197
  t233 := Tryz.underlying198
  a233 := Tryz.isAgg198
  z233 := Tryz.sizeOf198
  v233 := Tryz.zeroValue198
  g17 := by kernel_rfl
  g18 := by kernel_rfl
  g19 := by kernel_rfl
  i0 := by kernel_rfl
  i2 := by kernel_rfl
  i3 := by kernel_rfl
  i4 := by kernel_rfl
  i5 := by kernel_rfl
  i9 := by kernel_rfl
  i20 := by kernel_rfl
  i37 := by kernel_rfl
  i46 := by kernel_rfl
  i51 := by kernel_rfl
  i53 := by kernel_rfl
  i171 := by kernel_rfl
  i173 := by kernel_rfl
  i212 := by kernel_rfl
  i232 := by kernel_rfl
  i233 := by kernel_rfl
  m17 := by kernel_rfl
  m18 := by kernel_rfl
  m19 := by kernel_rfl }
open Go.RowKit Go.Sort Go.Lib in
theorem Tryz.strconv_Itoa (n : Int) (h0 : -9223372036854775808 ≤ n) (h1 : n ≤ 9223372036854775807) (w : World) (htab : Lib.TabIs Tryz.prog w "internal/strconv.uint64pow10" .u64 Lib.pow10Tab) :
    Calls Tryz.prog 89 #[.int .i64 n] w fun e w' => e = .returned (.string ⟨(Lib.itoa n).toArray⟩) ∧ ∃ k os, w' = grow (w.drewN k) os := Any.strconv_Itoa Tryz.laysM171 n h0 h1 w htab
def Tryz.laysC172_ren : Go.Shelf.Ren := ⟨fun | 172 => 121 | 244 => 152 | 245 => 153 | 247 => 166 | 279 => 169 | 280 => 170 | 281 => 171 | 282 => 172 | 287 => 177 | 316 => 183 | 171 => 89 | 205 => 184 | 321 => 190 | 322 => 191 | 243 => 129 | 246 => 157 | 283 => 173 | 284 => 174 | 285 => 175 | 286 => 176 | 129 => 186 | 317 => 185 | 318 => 187 | 319 => 188 | 320 => 189 | 337 => 193 | 338 => 194 | n => n, fun | 9 => 9 | 3 => 3 | 75 => 79 | 76 => 80 | 4 => 4 | 5 => 5 | 167 => 169 | 37 => 74 | 0 => 0 | 85 => 143 | 2 => 2 | 168 => 170 | 53 => 113 | 175 => 157 | 46 => 69 | 210 => 181 | 127 => 116 | 145 => 195 | 143 => 193 | 21 => 21 | 171 => 173 | 173 => 176 | 212 => 184 | 51 => 110 | 20 => 20 | 213 => 185 | 232 => 197 | 233 => 198 | 80 => 83 | n => n, fun | 15 => 1 | 16 => 2 | 17 => 3 | 18 => 6 | 19 => 7 | n => n⟩
theorem Tryz.laysC172 : Go.Proofs.LaysC.n172 Tryz.prog Tryz.laysC172_ren := {
  mixed := by kernel_rfl
  f129 := Tryz.func186.trans (congrArg some (by kernel_rfl))
  f171 := Tryz.func89.trans (congrArg some (by kernel_rfl))
  f172 := Tryz.func121.trans (congrArg some (by kernel_rfl))
  f205 := Tryz.func184.trans (congrArg some (by kernel_rfl))
  f243 := Tryz.func129.trans (congrArg some (by kernel_rfl))
  f244 := Tryz.func152.trans (congrArg some (by kernel_rfl))
  f245 := Tryz.func153.trans (congrArg some (by kernel_rfl))
  f246 := Tryz.func157.trans (congrArg some (by kernel_rfl))
  f247 := Tryz.func166.trans (congrArg some (by kernel_rfl))
  f279 := Tryz.func169.trans (congrArg some (by kernel_rfl))
  f280 := Tryz.func170.trans (congrArg some (by kernel_rfl))
  f281 := Tryz.func171.trans (congrArg some (by kernel_rfl))
  f282 := Tryz.func172.trans (congrArg some (by kernel_rfl))
  f283 := Tryz.func173.trans (congrArg some (by kernel_rfl))
  f284 := Tryz.func174.trans (congrArg some (by kernel_rfl))
  f285 := Tryz.func175.trans (congrArg some (by kernel_rfl))
  f286 := Tryz.func176.trans (congrArg some (by kernel_rfl))
  f287 := Tryz.func177.trans (congrArg some (by kernel_rfl))
  f316 := Tryz.func183.trans (congrArg some (by kernel_rfl))
  f317 := Tryz.func185.trans (congrArg some (by kernel_rfl))
  f318 := Tryz.func187.trans (congrArg some (by kernel_rfl))
  f319 := Tryz.func188.trans (congrArg some (by kernel_rfl))
  f320 := Tryz.func189.trans (congrArg some (by kernel_rfl))
  f321 := Tryz.func190.trans (congrArg some (by kernel_rfl))
  f322 := Tryz.func191.trans (congrArg some (by kernel_rfl))
  f337 := Tryz.func193.trans (congrArg some (by kernel_rfl))
  f338 := Tryz.func194.trans (congrArg some (by kernel_rfl))
  t0 := Tryz.underlying0
  a0 := Tryz.isAgg0
  z0 := Tryz.sizeOf0
  v0 := Tryz.zeroValue0
  t2 := Tryz.underlying2
  a2 := Tryz.isAgg2
  z2 := Tryz.sizeOf2
  v2 := Tryz.zeroValue2
  t3 := Tryz.underlying3
  a3 := Tryz.isAgg3
  z3 := Tryz.sizeOf3
  v3 := Tryz.zeroValue3
  t4 := Tryz.underlying4
  a4 := Tryz.isAgg4
  z4 := Tryz.sizeOf4
  v4 := Tryz.zeroValue4
  t5 := Tryz.underlying5
  a5 := Tryz.isAgg5
  z5 := Tryz.sizeOf5
  v5 := Tryz.zeroValue5
  t9 := Tryz.underlying9
  a9 := Tryz.isAgg9
  z9 := Tryz.sizeOf9
  v9 := Tryz.zeroValue9
  t20 := Tryz.underlying20
  a20 := Tryz.isAgg20
  z20 := Tryz.sizeOf20
  v20 := Tryz.zeroValue20
  t21 := Tryz.underlying21
  a21 := Tryz.isAgg21
  z21 := Tryz.sizeOf21
  v21 := Tryz.zeroValue21
  t37 := Tryz.underlying74
  a37 := Tryz.isAgg74
  z37 := Tryz.sizeOf74
  v37 := Tryz.zeroValue74
  t46 := Tryz.underlying69
  a46 := Tryz.isAgg69
  z46 := Tryz.sizeOf69
  v46 := Tryz.zeroValue69
  t51 := Tryz.underlying110
  a51 := Tryz.isAgg110
  z51 := Tryz.sizeOf110
  v51 := Tryz.zeroValue110
  t53 := Tryz.underlying113
  a53 := Tryz.isAgg113
  z53 := Tryz.sizeOf113
  v53 := Tryz.zeroValue113
  t75 := Tryz.underlying79
  a75 := Tryz.isAgg79
  z75 := Tryz.sizeOf79
  v75 := Tryz.zeroValue79
  t76 := Tryz.underlying80
  a76 := Tryz.isAgg80
  z76 := Tryz.sizeOf80
  v76 := Tryz.zeroValue80
  t85 := Tryz.underlying143
  a85 := Tryz.isAgg143
  z85 := Tryz.sizeOf143
  v85 := Tryz.zeroValue143
  t127 := Tryz.underlying116
  a127 := Tryz.isAgg116
  z127 := Tryz.sizeOf116
  v127 := Tryz.zeroValue116
  t143 := Tryz.underlying193
  a143 := Tryz.isAgg193
  z143 := Tryz.sizeOf193
  v143 := Tryz.zeroValue193
  t145 := Tryz.underlying195
  a145 := Tryz.isAgg195
  z145 := Tryz.sizeOf195
  v145 := Tryz.zeroValue195
  t167 := Tryz.underlying169
  a167 := Tryz.isAgg169
  z167 := Tryz.sizeOf169
  v167 := Tryz.zeroValue169
  t168 := Tryz.underlying170
  a168 := Tryz.isAgg170
  z168 := Tryz.sizeOf170
  v168 := Tryz.zeroValue170
  t171 := Tryz.underlying173
  a171 := Tryz.isAgg173
  z171 := Tryz.sizeOf173
  v171 := Tryz.zeroValue173
  t173 := Tryz.underlying176
  a173 := Tryz.isAgg176
  z173 := Tryz.sizeOf176
  v173 := Tryz.zeroValue176
  t175 := Tryz.underlying157
  a175 := Tryz.isAgg157
  z175 := Tryz.sizeOf157
  v175 := Tryz.zeroValue157
  t210 := Tryz.underlying181
  a210 := Tryz.isAgg181
  z210 := Tryz.sizeOf181
  v210 := Tryz.zeroValue181
  t212 := Tryz.underlying184
  a212 := Tryz.isAgg184
  z212 := Tryz.sizeOf184
  v212 := Tryz.zeroValue184
  t213 := Tryz.underlying185
  a213 := Tryz.isAgg185
  z213 := Tryz.sizeOf185
  t232 := Tryz.underlying197
  a232 := Tryz.isAgg197
  z232 := Tryz.sizeOf197
  v232 := Tryz.zeroValue197
  t233 := Tryz.underlying198
  a233 := Tryz.isAgg198
  z233 := Tryz.sizeOf198
  v233 := Tryz.zeroValue198
  g15 := by kernel_rfl
  g16 := by kernel_rfl
  g17 := by kernel_rfl
  g18 := by kernel_rfl
  g19 := by kernel_rfl
  t80 := Tryz.underlying83
  a80 := Tryz.isAgg83
  z80 := Tryz.sizeOf83
  v80 := Tryz.zeroValue83
  i0 := by kernel_rfl
  i2 := by kernel_rfl
  i3 := by kernel_rfl
  i4 := by kernel_rfl
  i5 := by kernel_rfl
  i9 := by kernel_rfl
  i20 := by kernel_rfl
  i21 := by kernel_rfl
  i37 := by kernel_rfl
  i46 := by kernel_rfl
  i51 := by kernel_rfl
  i53 := by kernel_rfl
  i75 := by kernel_rfl
  i76 := by kernel_rfl
  i80 := by kernel_rfl
  i85 := by kernel_rfl
  i127 := by kernel_rfl
  i143 := by kernel_rfl
  i145 := by kernel_rfl
  i167 := by kernel_rfl
  i168 := by kernel_rfl
  i171 := by kernel_rfl
  i173 := by kernel_rfl
  i175 := by kernel_rfl
  i210 := by kernel_rfl
  i212 := by kernel_rfl
  i232 := by kernel_rfl
  i233 := by kernel_rfl
  m15 := by kernel_rfl
  m16 := by kernel_rfl
  m17 := by kernel_rfl
  m18 := by kernel_rfl
  m19 := by kernel_rfl
  c0 := by kernel_rfl
  c2 := by kernel_rfl
  c3 := by kernel_rfl
  c4 := by kernel_rfl
  c5 := by kernel_rfl
  c9 := by kernel_rfl
  c20 := by kernel_rfl
  c21 := by kernel_rfl
  c37 := by kernel_rfl
  c46 := by kernel_rfl
  c51 := by kernel_rfl
  c53 := by kernel_rfl
  c75 := by kernel_rfl
  c76 := by kernel_rfl
  c80 := by kernel_rfl
  c85 := by kernel_rfl
  c127 := by kernel_rfl
  c143 := by kernel_rfl
  c145 := by kernel_rfl
  c167 := by kernel_rfl
  c168 := by kernel_rfl
  c171 := by kernel_rfl
  c173 := by kernel_rfl
  c175 := by kernel_rfl
  c210 := by kernel_rfl
  c212 := by kernel_rfl
  c213 := by kernel_rfl
  c232 := by kernel_rfl
  c233 := by kernel_rfl }
open Go.RowKit in
theorem Tryz.strconv_Atoi_ok (s : ByteArray) (hmax : s.size ≤ 9223372036854775806) (v : Int) (h : Lib.atoiAll s.data.toList = .ok v) (w : World) :
    Calls Tryz.prog 121 #[.string s] w fun e w' => e = .returned (.tuple #[.int .i64 v, .nilIface]) ∧ (w' = w ∨ ∃ t, w' = Lib.bytesWorld w 5 t) := Any.strconv_Atoi_ok Tryz.laysC172 s hmax v h w
def Tryz.laysC174_ren : Go.Shelf.Ren := ⟨fun | 174 => 142 | 247 => 166 | 245 => 153 | 287 => 177 | 279 => 169 | 280 => 170 | 281 => 171 | 282 => 172 | 321 => 190 | 322 => 191 | 316 => 183 | 171 => 89 | 205 => 184 | 243 => 129 | 246 => 157 | 283 => 173 | 284 => 174 | 285 => 175 | 286 => 176 | 129 => 186 | 317 => 185 | 318 => 187 | 319 => 188 | 320 => 189 | 337 => 193 | 338 => 194 | n => n, fun | 9 => 9 | 3 => 3 | 2 => 2 | 75 => 79 | 85 => 143 | 4 => 4 | 167 => 169 | 5 => 5 | 53 => 113 | 175 => 157 | 46 => 69 | 168 => 170 | 37 => 74 | 0 => 0 | 210 => 181 | 21 => 21 | 127 => 116 | 145 => 195 | 143 => 193 | 171 => 173 | 173 => 176 | 212 => 184 | 51 => 110 | 20 => 20 | 213 => 185 | 232 => 197 | 233 => 198 | 80 => 83 | n => n, fun | 15 => 1 | 16 => 2 | 17 => 3 | 18 => 6 | 19 => 7 | n => n⟩
theorem Tryz.laysC174 : Go.Proofs.LaysC.n174 Tryz.prog Tryz.laysC174_ren := {
  mixed := by kernel_rfl
  f129 := Tryz.func186.trans (congrArg some (by kernel_rfl))
  f171 := Tryz.func89.trans (congrArg some (by kernel_rfl))
  f174 := Tryz.func142.trans (congrArg some (by kernel_rfl))
  f205 := Tryz.func184.trans (congrArg some (by kernel_rfl))
  f243 := Tryz.func129.trans (congrArg some (by kernel_rfl))
  f245 := Tryz.func153.trans (congrArg some (by kernel_rfl))
  f246 := Tryz.func157.trans (congrArg some (by kernel_rfl))
  f247 := Tryz.func166.trans (congrArg some (by kernel_rfl))
  f279 := Tryz.func169.trans (congrArg some (by kernel_rfl))
  f280 := Tryz.func170.trans (congrArg some (by kernel_rfl))
  f281 := Tryz.func171.trans (congrArg some (by kernel_rfl))
  f282 := Tryz.func172.trans (congrArg some (by kernel_rfl))
  f283 := Tryz.func173.trans (congrArg some (by kernel_rfl))
  f284 := Tryz.func174.trans (congrArg some (by kernel_rfl))
  f285 := Tryz.func175.trans (congrArg some (by kernel_rfl))
  f286 := Tryz.func176.trans (congrArg some (by kernel_rfl))
  f287 := Tryz.func177.trans (congrArg some (by kernel_rfl))
  f316 := Tryz.func183.trans (congrArg some (by kernel_rfl))
  f317 := Tryz.func185.trans (congrArg some (by kernel_rfl))
  f318 := Tryz.func187.trans (congrArg some (by kernel_rfl))
  f319 := Tryz.func188.trans (congrArg some (by kernel_rfl))
  f320 := Tryz.func189.trans (congrArg some (by kernel_rfl))
  f321 := Tryz.func190.trans (congrArg some (by kernel_rfl))
  f322 := Tryz.func191.trans (congrArg some (by kernel_rfl))
  f337 := Tryz.func193.trans (congrArg some (by kernel_rfl))
  f338 := Tryz.func194.trans (congrArg some (by kernel_rfl))
  t0 := Tryz.underlying0
  a0 := Tryz.isAgg0
  z0 := Tryz.sizeOf0
  v0 := Tryz.zeroValue0
  t2 := Tryz.underlying2
  a2 := Tryz.isAgg2
  z2 := Tryz.sizeOf2
  v2 := Tryz.zeroValue2
  t3 := Tryz.underlying3
  a3 := Tryz.isAgg3
  z3 := Tryz.sizeOf3
  v3 := Tryz.zeroValue3
  t4 := Tryz.underlying4
  a4 := Tryz.isAgg4
  z4 := Tryz.sizeOf4
  v4 := Tryz.zeroValue4
  t5 := Tryz.underlying5
  a5 := Tryz.isAgg5
  z5 := Tryz.sizeOf5
  v5 := Tryz.zeroValue5
  t9 := Tryz.underlying9
  a9 := Tryz.isAgg9
  z9 := Tryz.sizeOf9
  v9 := Tryz.zeroValue9
  t20 := Tryz.underlying20
  a20 := Tryz.isAgg20
  z20 := Tryz.sizeOf20
  v20 := Tryz.zeroValue20
  t21 := Tryz.underlying21
  a21 := Tryz.isAgg21
  z21 := Tryz.sizeOf21
  v21 := Tryz.zeroValue21
  t37 := Tryz.underlying74
  a37 := Tryz.isAgg74
  z37 := Tryz.sizeOf74
  v37 := Tryz.zeroValue74
  t46 := Tryz.underlying69
  a46 := Tryz.isAgg69
  z46 := Tryz.sizeOf69
  v46 := Tryz.zeroValue69
  t51 := Tryz.underlying110
  a51 := Tryz.isAgg110
  z51 := Tryz.sizeOf110
  v51 := Tryz.zeroValue110
  t53 := Tryz.underlying113
  a53 := Tryz.isAgg113
  z53 := Tryz.sizeOf113
  v53 := Tryz.zeroValue113
  t75 := Tryz.underlying79
  a75 := Tryz.isAgg79
  z75 := Tryz.sizeOf79
  v75 := Tryz.zeroValue79
  t85 := Tryz.underlying143
  a85 := Tryz.isAgg143
  z85 := Tryz.sizeOf143
  v85 := Tryz.zeroValue143
  t127 := Tryz.underlying116
  a127 := Tryz.isAgg116
  z127 := Tryz.sizeOf116
  v127 := Tryz.zeroValue116
  t143 := Tryz.underlying193
  a143 := Tryz.isAgg193
  z143 := Tryz.sizeOf193
  v143 := Tryz.zeroValue193
  t145 := Tryz.underlying195
  a145 := Tryz.isAgg195
  z145 := Tryz.sizeOf195
  v145 := Tryz.zeroValue195
  t167 := Tryz.underlying169
  a167 := Tryz.isAgg169
  z167 := Tryz.sizeOf169
  v167 := Tryz.zeroValue169
  t168 := Tryz.underlying170
  a168 := Tryz.isAgg170
  z168 := Tryz.sizeOf170
  v168 := Tryz.zeroValue170
  t171 := Tryz.underlying173
  a171 := Tryz.isAgg173
  z171 := Tryz.sizeOf173
  v171 := Tryz.zeroValue173
  t173 := Tryz.underlying176
  a173 := Tryz.isAgg176
  z173 := Tryz.sizeOf176
  v173 := Tryz.zeroValue176
  t175 := Tryz.underlying157
  a175 := Tryz.isAgg157
  z175 := Tryz.sizeOf157
  v175 := Tryz.zeroValue157
  t210 := Tryz.underlying181
  a210 := Tryz.isAgg181
  z210 := Tryz.sizeOf181
  v210 := Tryz.zeroValue181
  t212 := Tryz.underlying184
  a212 := Tryz.isAgg184
  z212 := Tryz.sizeOf184
  v212 := Tryz.zeroValue184
  t213 := Tryz.underlying185
  a213 := Tryz.isAgg185
  z213 := Tryz.sizeOf185
  t232 := Tryz.underlying197
  a232 := Tryz.isAgg197
  z232 := Tryz.sizeOf197
  v232 := Tryz.zeroValue197
  t233 := Tryz.underlying198
  a233 := Tryz.isAgg198
  z233 := Tryz.sizeOf198
  v233 := Tryz.zeroValue198
  g15 := by kernel_rfl
  g16 := by kernel_rfl
  g17 := by kernel_rfl
  g18 := by kernel_rfl
  g19 := by kernel_rfl
  t80 := Tryz.underlying83
  a80 := Tryz.isAgg83
  z80 := Tryz.sizeOf83
  v80 := Tryz.zeroValue83
  i0 := by kernel_rfl
  i2 := by kernel_rfl
  i3 := by kernel_rfl
  i4 := by kernel_rfl
  i5 := by kernel_rfl
  i9 := by kernel_rfl
  i20 := by kernel_rfl
  i21 := by kernel_rfl
  i37 := by kernel_rfl
  i46 := by kernel_rfl
  i51 := by kernel_rfl
  i53 := by kernel_rfl
  i75 := by kernel_rfl
  i80 := by kernel_rfl
  i85 := by kernel_rfl
  i127 := by kernel_rfl
  i143 := by kernel_rfl
  i145 := by kernel_rfl
  i167 := by kernel_rfl
  i168 := by kernel_rfl
  i171 := by kernel_rfl
  i173 := by kernel_rfl
  i175 := by kernel_rfl
  i210 := by kernel_rfl
  i212 := by kernel_rfl
  i232 := by kernel_rfl
  i233 := by kernel_rfl
  m15 := by kernel_rfl
  m16 := by kernel_rfl
  m17 := by kernel_rfl
  m18 := by kernel_rfl
  m19 := by kernel_rfl
  c0 := by kernel_rfl
  c2 := by kernel_rfl
  c3 := by kernel_rfl
  c4 := by kernel_rfl
  c5 := by kernel_rfl
  c9 := by kernel_rfl
  c20 := by kernel_rfl
  c21 := by kernel_rfl
  c37 := by kernel_rfl
  c46 := by kernel_rfl
  c51 := by kernel_rfl
  c53 := by kernel_rfl
  c75 := by kernel_rfl
  c80 := by kernel_rfl
  c85 := by kernel_rfl
  c127 := by kernel_rfl
  c143 := by kernel_rfl
  c145 := by kernel_rfl
  c167 := by kernel_rfl
  c168 := by kernel_rfl
  c171 := by kernel_rfl
  c173 := by kernel_rfl
  c175 := by kernel_rfl
  c210 := by kernel_rfl
  c212 := by kernel_rfl
  c213 := by kernel_rfl
  c232 := by kernel_rfl
  c233 := by kernel_rfl }
open Go.RowKit in
theorem Tryz.strconv_ParseInt_10_at64_ok (s : ByteArray) (hmax : s.size ≤ 9223372036854775806) (v : Int) (h : Lib.parseIntB 64 s.data.toList = .ok v) (w : World) :
    Calls Tryz.prog 142 #[.string s, .int .i64 10, .int .i64 64] w fun e w' => e = .returned (.tuple #[.int .i64 v, .nilIface]) ∧ (w' = w ∨ ∃ t, w' = Lib.bytesWorld w 5 t) := Any.strconv_ParseInt_10_at64_ok Tryz.laysC174 s hmax v h w
open Go.RowKit in
theorem Tryz.strconv_ParseInt_10_at64_range_var (s : ByteArray) (hlim : s.size ≤ 281474976710656) (h : Lib.parseIntB 64 s.data.toList = .range) (tp : TypeId) (p : Value) (w : World) (hvar : w.var? Tryz.prog "strconv.ErrRange" = some #[.iface tp p]) :
    Calls Tryz.prog 142 #[.string s, .int .i64 10, .int .i64 64] w fun e w' => ∃ N, e = .returned (.tuple #[.int .i64 (Lib.intSat 64 s.data.toList), .iface 170 (.pointer (some ⟨N, 0, none⟩))]) ∧ w.heap.size ≤ N ∧ w'.heap[N]? = some (.cells #[.string ⟨#[80, 97, 114, 115, 101, 73, 110, 116]⟩, .string s, .iface tp p] 181 (0, 0)) ∧ Below w.heap.size w w' := Any.strconv_ParseInt_10_at64_range_var Tryz.laysC174 s hlim h tp p w hvar
def Tryz.laysPu14_ren : Go.Shelf.Ren := ⟨fun | 14 => 158 | 16 => 177 | 17 => 153 | 19 => 190 | 20 => 191 | 21 => 169 | 22 => 170 | 23 => 171 | 24 => 172 | 25 => 183 | 27 => 89 | 26 => 184 | 28 => 129 | 29 => 157 | 30 => 173 | 31 => 174 | 32 => 175 | 33 => 176 | 35 => 186 | 34 => 185 | 36 => 187 | 37 => 188 | 38 => 189 | 39 => 193 | 40 => 194 | n => n, fun | 9 => 9 | 3 => 3 | 22 => 113 | 24 => 79 | 25 => 157 | 4 => 4 | 34 => 169 | 5 => 5 | 36 => 69 | 37 => 74 | 0 => 0 | 39 => 170 | 21 => 21 | 44 => 181 | 47 => 116 | 50 => 195 | 48 => 193 | 2 => 2 | 52 => 173 | 55 => 176 | 59 => 184 | 60 => 110 | 20 => 20 | 61 => 185 | 65 => 197 | 66 => 198 | 67 => 83 | n => n, fun | 0 => 1 | 1 => 2 | 2 => 3 | 3 => 6 | 4 => 7 | n => n⟩
theorem Tryz.laysPu14 : Go.Proofs.LaysPu.n14 Tryz.prog Tryz.laysPu14_ren := {
  mixed := by kernel_rfl
  f14 := Tryz.func158.trans (congrArg some (by kernel_rfl))
  f16 := Tryz.func177.trans (congrArg some (by kernel_rfl))
  f17 := Tryz.func153.trans (congrArg some (by kernel_rfl))
  f19 := Tryz.func190.trans (congrArg some (by kernel_rfl))
  f20 := Tryz.func191.trans (congrArg some (by kernel_rfl))
  f21 := Tryz.func169.trans (congrArg some (by kernel_rfl))
  f22 := Tryz.func170.trans (congrArg some (by kernel_rfl))
  f23 := Tryz.func171.trans (congrArg some (by kernel_rfl))
  f24 := Tryz.func172.trans (congrArg some (by kernel_rfl))
  f25 := Tryz.func183.trans (congrArg some (by kernel_rfl))
  f26 := Tryz.func184.trans (congrArg some (by kernel_rfl))
  f27 := Tryz.func89.trans (congrArg some (by kernel_rfl))
  f28 := Tryz.func129.trans (congrArg some (by kernel_rfl))
  f29 := Tryz.func157.trans (congrArg some (by kernel_rfl))
  f30 := Tryz.func173.trans (congrArg some (by kernel_rfl))
  f31 := Tryz.func174.trans (congrArg some (by kernel_rfl))
  f32 := Tryz.func175.trans (congrArg some (by kernel_rfl))
  f33 := Tryz.func176.trans (congrArg some (by kernel_rfl))
  f34 := Tryz.func185.trans (congrArg some (by kernel_rfl))
  f35 := Tryz.func186.trans (congrArg some (by kernel_rfl))
  f36 := Tryz.func187.trans (congrArg some (by kernel_rfl))
  f37 := Tryz.func188.trans (congrArg some (by kernel_rfl))
  f38 := Tryz.func189.trans (congrArg some (by kernel_rfl))
  f39 := Tryz.func193.trans (congrArg some (by kernel_rfl))
  f40 := Tryz.func194.trans (congrArg some (by kernel_rfl))
  t0 := Tryz.underlying0
  a0 := Tryz.isAgg0
  z0 := Tryz.sizeOf0
  v0 := Tryz.zeroValue0
  i0 := by kernel_rfl
  t2 := Tryz.underlying2
  a2 := Tryz.isAgg2
  z2 := Tryz.sizeOf2
  v2 := Tryz.zeroValue2
  i2 := by kernel_rfl
  t3 := Tryz.underlying3
  a3 := Tryz.isAgg3
  z3 := Tryz.sizeOf3
  v3 := Tryz.zeroValue3
  i3 := by kernel_rfl
  t4 := Tryz.underlying4
  a4 := Tryz.isAgg4
  z4 := Tryz.sizeOf4
  v4 := Tryz.zeroValue4
  i4 := by kernel_rfl
  t5 := Tryz.underlying5
  a5 := Tryz.isAgg5
  z5 := Tryz.sizeOf5
  v5 := Tryz.zeroValue5
  i5 := by kernel_rfl
  t9 := Tryz.underlying9
  a9 := Tryz.isAgg9
  z9 := Tryz.sizeOf9
  v9 := Tryz.zeroValue9
  i9 := by kernel_rfl
  t20 := Tryz.underlying20
  a20 := Tryz.isAgg20
  z20 := Tryz.sizeOf20
  v20 := Tryz.zeroValue20
  i20 := by kernel_rfl
  t21 := Tryz.underlying21
  a21 := Tryz.isAgg21
  z21 := Tryz.sizeOf21
  v21 := Tryz.zeroValue21
  i21 := by kernel_rfl
  t22 := Tryz.underlying113
  a22 := Tryz.isAgg113
  z22 := Tryz.sizeOf113
  v22 := Tryz.zeroValue113
  i22 := by kernel_rfl
  t24 := Tryz.underlying79
  a24 := Tryz.isAgg79
  z24 := Tryz.sizeOf79
  v24 := Tryz.zeroValue79
  i24 := by kernel_rfl
  t25 := Tryz.underlying157
  a25 := Tryz.isAgg157
  z25 := Tryz.sizeOf157
  v25 := Tryz.zeroValue157
  i25 := by kernel_rfl
  t34 := Tryz.underlying169
  a34 := Tryz.isAgg169
  z34 := Tryz.sizeOf169
  v34 := Tryz.zeroValue169
  i34 := by kernel_rfl
  c34 := by kernel_rfl
  t36 := Tryz.underlying69
  a36 := Tryz.isAgg69
  z36 := Tryz.sizeOf69
  v36 := Tryz.zeroValue69
  i36 := by kernel_rfl
  t37 := Tryz.underlying74
  a37 := Tryz.isAgg74
  z37 := Tryz.sizeOf74
  v37 := Tryz.zeroValue74
  i37 := by kernel_rfl
  t39 := Tryz.underlying170
  a39 := Tryz.isAgg170
  z39 := Tryz.sizeOf170
  v39 := Tryz.zeroValue170
  i39 := by kernel_rfl
  t44 := Tryz.underlying181
  a44 := Tryz.isAgg181
  z44 := Tryz.sizeOf181
  v44 := Tryz.zeroValue181
  i44 := by kernel_rfl
  t47 := Tryz.underlying116
  a47 := Tryz.isAgg116
  z47 := Tryz.sizeOf116
  v47 := Tryz.zeroValue116
  i47 := by kernel_rfl
  t48 := Tryz.underlying193
  a48 := Tryz.isAgg193
  z48 := Tryz.sizeOf193
  v48 := Tryz.zeroValue193
  i48 := by kernel_rfl
  t50 := Tryz.underlying195
  a50 := Tryz.isAgg195
  z50 := Tryz.sizeOf195
  v50 := Tryz.zeroValue195
  i50 := by kernel_rfl
  t52 := Tryz.underlying173
  a52 := Tryz.isAgg173
  z52 := Tryz.sizeOf173
  v52 := Tryz.zeroValue173
  i52 := by kernel_rfl
  t55 := Tryz.underlying176
  a55 := Tryz.isAgg176
  z55 := Tryz.sizeOf176
  v55 := Tryz.zeroValue176
  i55 := by kernel_rfl
  t59 := Tryz.underlying184
  a59 := Tryz.isAgg184
  z59 := Tryz.sizeOf184
  v59 := Tryz.zeroValue184
  i59 := by kernel_rfl
  t60 := Tryz.underlying110
  a60 := Tryz.isAgg110
  z60 := Tryz.sizeOf110
  v60 := Tryz.zeroValue110
  i60 := by kernel_rfl
  t61 := Tryz.underlying185
  a61 := Tryz.isAgg185
  z61 := Tryz.sizeOf185
  t65 := Tryz.underlying197
  a65 := Tryz.isAgg197
  z65 := Tryz.sizeOf197
  v65 := Tryz.zeroValue197
  i65 := by kernel_rfl
  t66 := Tryz.underlying198
  a66 := Tryz.isAgg198
  z66 := Tryz.sizeOf198
  v66 := Tryz.zeroValue198
  i66 := by kernel_rfl
  t67 := Tryz.underlying83
  a67 := Tryz.isAgg83
  z67 := Tryz.sizeOf83
  v67 := Tryz.zeroValue83
  i67 := by kernel_rfl
  g0 := by kernel_rfl
  m0 := by kernel_rfl
  g1 := by kernel_rfl
  m1 := by kernel_rfl
  g2 := by kernel_rfl
  m2 := by kernel_rfl
  g3 := by kernel_rfl
  m3 := by kernel_rfl
  g4 := by kernel_rfl
  m4 := by kernel_rfl }
open Go.RowKit in
theorem Tryz.strconv_ParseUint_10_at64_ok (s : ByteArray) (hmax : s.size ≤ 9223372036854775806) (u : Nat) (h : Lib.parseUintB 64 s.data.toList = .ok u) (w : World) :
    Calls Tryz.prog 158 #[.string s, .int .i64 10, .int .i64 64] w fun e w' => e = .returned (.tuple #[.int .u64 u, .nilIface]) ∧ (w' = w ∨ w' = Lib.bytesWorld w 5 s) := Any.strconv_ParseUint_10_at64_ok Tryz.laysPu14 s hmax u h w
def Tryz.lays145_ren : Go.Shelf.Ren := ⟨fun | 145 => 102 | 220 => 141 | 219 => 165 | 217 => 118 | 225 => 147 | 224 => 146 | 267 => 181 | 266 => 151 | 314 => 192 | n => n, fun | 9 => 9 | 4 => 4 | 59 => 105 | 3 => 3 | 5 => 5 | 46 => 69 | 146 => 111 | 51 => 110 | n => n, fun | 1 => 0 | n => n⟩
theorem Tryz.lays145 : Go.Proofs.Lays.n145 Tryz.prog Tryz.lays145_ren := {
  mixed := by kernel_rfl
  f145 := Tryz.func102.trans (congrArg some (by kernel_rfl))
  f217 := Tryz.func118.trans (congrArg some (by kernel_rfl))
  f219 := Tryz.func165.trans (congrArg some (by kernel_rfl))
  f220 := Tryz.func141.trans (congrArg some (by kernel_rfl))
  f224 := Tryz.func146.trans (congrArg some (by kernel_rfl))
  f225 := Tryz.func147.trans (congrArg some (by kernel_rfl))
  f266 := Tryz.func151.trans (congrArg some (by kernel_rfl))
  f267 := Tryz.func181.trans (congrArg some (by kernel_rfl))
  f314 := Tryz.func192.trans (congrArg some (by kernel_rfl))
  t3 := Tryz.underlying3
  a3 := Tryz.isAgg3
  z3 := Tryz.sizeOf3
  v3 := Tryz.zeroValue3
  t4 := Tryz.underlying4
  a4 := Tryz.isAgg4
  z4 := Tryz.sizeOf4
  v4 := Tryz.zeroValue4
  t5 := Tryz.underlying5
  a5 := Tryz.isAgg5
  z5 := Tryz.sizeOf5
  v5 := Tryz.zeroValue5
  t9 := Tryz.underlying9
  a9 := Tryz.isAgg9
  z9 := Tryz.sizeOf9
  v9 := Tryz.zeroValue9
  t46 := Tryz.underlying69
  a46 := Tryz.isAgg69
  z46 := Tryz.sizeOf69
  v46 := Tryz.zeroValue69
  t51 := Tryz.underlying110
  a51 := Tryz.isAgg110
  z51 := Tryz.sizeOf110
  v51 := Tryz.zeroValue110
  t59 := Tryz.underlying105
  a59 := Tryz.isAgg105
  z59 := Tryz.sizeOf105
  v59 := Tryz.zeroValue105
  t146 := Tryz.underlying111
  a146 := Tryz.isAgg111
  z146 := Tryz.sizeOf111
  v146 := Tryz.zeroValue111
  g1 := by kernel_rfl }
open Go.RowKit Go.Lib in
theorem Tryz.strings_Cut (s sep : ByteArray) (m : Int) (w : World) (hs : s.size < 4294967281) (hm : w.cell? ⟨0, 0, none⟩ = some (.int .i64 m)) :
    Calls Tryz.prog 102 #[.string s, .string sep] w fun e w' => e = .returned (.tuple #[.string ⟨(Lib.cut s.data.toList sep.data.toList).1.toArray⟩, .string ⟨(Lib.cut s.data.toList sep.data.toList).2.1.toArray⟩, .bool (Lib.cut s.data.toList sep.data.toList).2.2]) ∧ ∃ n, w' = w.drewN n := Any.strings_Cut Tryz.lays145 s sep m w hs hm
def Tryz.lays99_ren : Go.Shelf.Ren := ⟨fun | 99 => 62 | 206 => 109 | n => n, fun | 9 => 9 | 4 => 4 | 3 => 3 | n => n, fun | n => n⟩
theorem Tryz.lays99 : Go.Proofs.Lays.n99 Tryz.prog Tryz.lays99_ren := {
  mixed := by kernel_rfl
  f99 := Tryz.func62.trans (congrArg some (by kernel_rfl))
  f206 := Tryz.func109.trans (congrArg some (by kernel_rfl))
  t3 := Tryz.underlying3
  a3 := Tryz.isAgg3
  z3 := Tryz.sizeOf3
  v3 := Tryz.zeroValue3
  t4 := Tryz.underlying4
  a4 := Tryz.isAgg4
  z4 := Tryz.sizeOf4
  v4 := Tryz.zeroValue4
  t9 := Tryz.underlying9
  a9 := Tryz.isAgg9
  z9 := Tryz.sizeOf9
  v9 := Tryz.zeroValue9 }
open Go.RowKit Go.Lib in
theorem Tryz.strings_HasPrefix (s p : ByteArray) (w : World) :
    Calls Tryz.prog 62 #[.string s, .string p] w fun e w' => e = .returned (.bool (Lib.hasPrefix s.data.toList p.data.toList)) ∧ w' = w := Any.strings_HasPrefix Tryz.lays99 s p w
def Tryz.lays101_ren : Go.Shelf.Ren := ⟨fun | 101 => 60 | 208 => 106 | 206 => 109 | n => n, fun | 9 => 9 | 4 => 4 | 3 => 3 | n => n, fun | n => n⟩
theorem Tryz.lays101 : Go.Proofs.Lays.n101 Tryz.prog Tryz.lays101_ren := {
  mixed := by kernel_rfl
  f101 := Tryz.func60.trans (congrArg some (by kernel_rfl))
  f206 := Tryz.func109.trans (congrArg some (by kernel_rfl))
  f208 := Tryz.func106.trans (congrArg some (by kernel_rfl))
  t3 := Tryz.underlying3
  a3 := Tryz.isAgg3
  z3 := Tryz.sizeOf3
  v3 := Tryz.zeroValue3
  t4 := Tryz.underlying4
  a4 := Tryz.isAgg4
  z4 := Tryz.sizeOf4
  v4 := Tryz.zeroValue4
  t9 := Tryz.underlying9
  a9 := Tryz.isAgg9
  z9 := Tryz.sizeOf9
  v9 := Tryz.zeroValue9 }
open Go.RowKit Go.Lib in
theorem Tryz.strings_TrimPrefix (s p : ByteArray) (w : World) :
    Calls Tryz.prog 60 #[.string s, .string p] w fun e w' => e = .returned (.string ⟨(Lib.trimPrefix s.data.toList p.data.toList).toArray⟩) ∧ w' = w := Any.strings_TrimPrefix Tryz.lays101 s p w
def Tryz.lays152_ren : Go.Shelf.Ren := ⟨fun | 152 => 113 | 137 => 75 | 119 => 145 | 224 => 146 | 225 => 147 | 217 => 118 | 266 => 151 | n => n, fun | 9 => 9 | 21 => 21 | 3 => 3 | 4 => 4 | 5 => 5 | 0 => 0 | 46 => 69 | n => n, fun | n => n⟩
theorem Tryz.lays152 : Go.Proofs.Lays.n152 Tryz.prog Tryz.lays152_ren := {
  mixed := by kernel_rfl
  f119 := Tryz.func145.trans (congrArg some (by kernel_rfl))
  f137 := Tryz.func75.trans (congrArg some (by kernel_rfl))
  f152 := Tryz.func113.trans (congrArg some (by kernel_rfl))
  f217 := Tryz.func118.trans (congrArg some (by kernel_rfl))
  f224 := Tryz.func146.trans (congrArg some (by kernel_rfl))
  f225 := Tryz.func147.trans (congrArg some (by kernel_rfl))
  f266 := Tryz.func151.trans (congrArg some (by kernel_rfl))
  t0 := Tryz.underlying0
  a0 := Tryz.isAgg0
  z0 := Tryz.sizeOf0
  v0 := Tryz.zeroValue0
  t3 := Tryz.underlying3
  a3 := Tryz.isAgg3
  z3 := Tryz.sizeOf3
  v3 := Tryz.zeroValue3
  t4 := Tryz.underlying4
  a4 := Tryz.isAgg4
  z4 := Tryz.sizeOf4
  v4 := Tryz.zeroValue4
  t5 := Tryz.underlying5
  a5 := Tryz.isAgg5
  z5 := Tryz.sizeOf5
  v5 := Tryz.zeroValue5
  t9 := Tryz.underlying9
  a9 := Tryz.isAgg9
  z9 := Tryz.sizeOf9
  v9 := Tryz.zeroValue9
  t21 := Tryz.underlying21
  a21 := Tryz.isAgg21
  z21 := Tryz.sizeOf21
  v21 := Tryz.zeroValue21
  t46 := Tryz.underlying69
  a46 := Tryz.isAgg69
  z46 := Tryz.sizeOf69
  v46 := Tryz.zeroValue69 }
open Go.RowKit Go.Lib in
theorem Tryz.strings_IndexRune_ascii (s : ByteArray) (r : Int) (w : World) (h0 : 0 ≤ r) (h1 : r < 128) :
    Calls Tryz.prog 113 #[.string s, .int .i32 r] w fun e w' => e = .returned (.int .i64 (Lib.indexByte s.data.toList r.toNat.toUInt8)) ∧ w' = w := Any.strings_IndexRune_ascii Tryz.lays152 s r w h0 h1
def Tryz.lays153_ren : Go.Shelf.Ren := ⟨fun | 153 => 68 | 152 => 113 | 226 => 114 | 227 => 115 | 228 => 116 | 137 => 75 | 119 => 145 | 224 => 146 | 225 => 147 | 217 => 118 | 266 => 151 | n => n, fun | 9 => 9 | 3 => 3 | 4 => 4 | 5 => 5 | 21 => 21 | 117 => 121 | 116 => 120 | 0 => 0 | 46 => 69 | 124 => 150 | n => n, fun | n => n⟩
theorem Tryz.lays153 : Go.Proofs.Lays.n153 Tryz.prog Tryz.lays153_ren := {
  mixed := by kernel_rfl
  f119 := Tryz.func145.trans (congrArg some (by kernel_rfl))
  f137 := Tryz.func75.trans (congrArg some (by kernel_rfl))
  f152 := Tryz.func113.trans (congrArg some (by kernel_rfl))
  f153 := Tryz.func68.trans (congrArg some (by kernel_rfl))
  f217 := Tryz.func118.trans (congrArg some (by kernel_rfl))
  f224 := Tryz.func146.trans (congrArg some (by kernel_rfl))
  f225 := Tryz.func147.trans (congrArg some (by kernel_rfl))
  f226 := Tryz.func114.trans (congrArg some (by kernel_rfl))
  f227 := Tryz.func115.trans (congrArg some (by kernel_rfl))
  f228 := Tryz.func116.trans (congrArg some (by kernel_rfl))
  f266 := Tryz.func151.trans (congrArg some (by kernel_rfl))
  t0 := Tryz.underlying0
  a0 := Tryz.isAgg0
  z0 := Tryz.sizeOf0
  v0 := Tryz.zeroValue0
  t3 := Tryz.underlying3
  a3 := Tryz.isAgg3
  z3 := Tryz.sizeOf3
  v3 := Tryz.zeroValue3
  t4 := Tryz.underlying4
  a4 := Tryz.isAgg4
  z4 := Tryz.sizeOf4
  v4 := Tryz.zeroValue4
  t5 := Tryz.underlying5
  a5 := Tryz.isAgg5
  z5 := Tryz.sizeOf5
  v5 := Tryz.zeroValue5
  t9 := Tryz.underlying9
  a9 := Tryz.isAgg9
  z9 := Tryz.sizeOf9
  v9 := Tryz.zeroValue9
  t21 := Tryz.underlying21
  a21 := Tryz.isAgg21
  z21 := Tryz.sizeOf21
  v21 := Tryz.zeroValue21
  t46 := Tryz.underlying69
  a46 := Tryz.isAgg69
  z46 := Tryz.sizeOf69
  v46 := Tryz.zeroValue69
  t116 := Tryz.underlying120
  a116 := Tryz.isAgg120
  z116 := Tryz.sizeOf120
  t117 := Tryz.underlying121
  a117 := Tryz.isAgg121
  z117 := Tryz.sizeOf121
  v117 := Tryz.zeroValue121
  t124 := Tryz.underlying150
  a124 := Tryz.isAgg150
  z124 := Tryz.sizeOf150
  v124 := Tryz.zeroValue150 }
open Go.RowKit Go.Lib in
theorem Tryz.strings_IndexAny_short (s chars : ByteArray) (w : World) (h2 : 2 ≤ chars.size) (h8 : s.size ≤ 8) (hascii : ∀ (j : Nat) b, s.data.toList[j]? = some b → b.toNat < 128) :
    Calls Tryz.prog 68 #[.string s, .string chars] w fun e w' => e = .returned (.int .i64 (Lib.indexAny s.data.toList chars.data.toList)) ∧ ∃ pos, w' = w.iter s pos := Any.strings_IndexAny_short Tryz.lays153 s chars w h2 h8 hascii
open Go.RowKit Go.Lib in
theorem Tryz.strings_IndexAny_long (hv116 : ∀ w, (zeroValue 120).run Tryz.prog w = .ok (.agg (Array.replicate 256 (.bool false))) w) (s chars : ByteArray) (w : World) (h2 : 2 ≤ chars.size) (h8 : 8 < s.size) (hs : s.size < 4294967281) (hcs : chars.size < 4294967281) (hascii : ∀ (j : Nat) b, chars.data.toList[j]? = some b → b.toNat < 128) :
    Calls Tryz.prog 68 #[.string s, .string chars] w fun e w' => e = .returned (.int .i64 (Lib.indexAny s.data.toList chars.data.toList)) ∧ w' = ((w.alloc (.cells (Lib.setCells chars.data.toList) 120)).alloc (.cells (Lib.setCells chars.data.toList) 120)) := Any.strings_IndexAny_long Tryz.lays153 hv116 (by kernel_rfl) s chars w h2 h8 hs hcs hascii
open Go.RowKit Go.Lib in
theorem Tryz.strings_IndexAny_laid (s chars : ByteArray) (w : World) (hs : s.size < 4294967281) (hcs : chars.size < 4294967281) (has : ∀ (j : Nat) b, s.data.toList[j]? = some b → b.toNat < 128) (hac : ∀ (j : Nat) b, chars.data.toList[j]? = some b → b.toNat < 128) :
    Calls Tryz.prog 68 #[.string s, .string chars] w fun e w' => e = .returned (.int .i64 (Lib.indexAny s.data.toList chars.data.toList)) ∧ Below w.heap.size w w' := Any.strings_IndexAny_laid Tryz.lays153 (by kernel_rfl) s chars w hs hcs has hac
def Tryz.lays105_ren : Go.Shelf.Ren := ⟨fun | 105 => 14 | 212 => 61 | 99 => 62 | 165 => 63 | 166 => 64 | 170 => 65 | 169 => 66 | 263 => 107 | 264 => 108 | 206 => 109 | 240 => 110 | 241 => 111 | 276 => 143 | 277 => 144 | n => n, fun | 9 => 9 | 3 => 3 | 4 => 4 | 20 => 20 | 0 => 0 | 46 => 69 | 109 => 70 | 5 => 5 | 72 => 76 | 76 => 80 | 51 => 110 | 146 => 111 | 53 => 113 | 148 => 114 | 70 => 73 | 37 => 74 | 75 => 79 | 127 => 116 | 164 => 145 | 80 => 83 | n => n, fun | n => n⟩
theorem Tryz.lays105 : Go.Proofs.Lays.n105 Tryz.prog Tryz.lays105_ren := {
  mixed := by kernel_rfl
  f99 := Tryz.func62.trans (congrArg some (by kernel_rfl))
  f105 := Tryz.func14.trans (congrArg some (by kernel_rfl))
  f165 := Tryz.func63.trans (congrArg some (by kernel_rfl))
  f166 := Tryz.func64.trans (congrArg some (by kernel_rfl))
  f169 := Tryz.func66.trans (congrArg some (by kernel_rfl))
  f170 := Tryz.func65.trans (congrArg some (by kernel_rfl))
  f206 := Tryz.func109.trans (congrArg some (by kernel_rfl))
  f212 := Tryz.func61.trans (congrArg some (by kernel_rfl))
  f240 := Tryz.func110.trans (congrArg some (by kernel_rfl))
  f241 := Tryz.func111.trans (congrArg some (by kernel_rfl))
  f263 := Tryz.func107.trans (congrArg some (by kernel_rfl))
  f264 := Tryz.func108.trans (congrArg some (by kernel_rfl))
  f276 := Tryz.func143.trans (congrArg some (by kernel_rfl))
  f277 := Tryz.func144.trans (congrArg some (by kernel_rfl))
  t0 := Tryz.underlying0
  a0 := Tryz.isAgg0
  z0 := Tryz.sizeOf0
  v0 := Tryz.zeroValue0
  t3 := Tryz.underlying3
  a3 := Tryz.isAgg3
  z3 := Tryz.sizeOf3
  v3 := Tryz.zeroValue3
  t4 := Tryz.underlying4
  a4 := Tryz.isAgg4
  z4 := Tryz.sizeOf4
  v4 := Tryz.zeroValue4
  t5 := Tryz.underlying5
  a5 := Tryz.isAgg5
  z5 := Tryz.sizeOf5
  v5 := Tryz.zeroValue5
  t9 := Tryz.underlying9
  a9 := Tryz.isAgg9
  z9 := Tryz.sizeOf9
  v9 := Tryz.zeroValue9
  t20 := Tryz.underlying20
  a20 := Tryz.isAgg20
  z20 := Tryz.sizeOf20
  v20 := Tryz.zeroValue20
  t37 := Tryz.underlying74
  a37 := Tryz.isAgg74
  z37 := Tryz.sizeOf74
  v37 := Tryz.zeroValue74
  t46 := Tryz.underlying69
  a46 := Tryz.isAgg69
  z46 := Tryz.sizeOf69
  v46 := Tryz.zeroValue69
  t51 := Tryz.underlying110
  a51 := Tryz.isAgg110
  z51 := Tryz.sizeOf110
  v51 := Tryz.zeroValue110
  t53 := Tryz.underlying113
  a53 := Tryz.isAgg113
  z53 := Tryz.sizeOf113
  v53 := Tryz.zeroValue113
  t70 := Tryz.underlying73
  a70 := Tryz.isAgg73
  z70 := Tryz.sizeOf73
  v70 := Tryz.zeroValue73
  t72 := Tryz.underlying76
  a72 := Tryz.isAgg76
  z72 := Tryz.sizeOf76
  v72 := Tryz.zeroValue76
  t75 := Tryz.underlying79
  a75 := Tryz.isAgg79
  z75 := Tryz.sizeOf79
  v75 := Tryz.zeroValue79
  t76 := Tryz.underlying80
  a76 := Tryz.isAgg80
  z76 := Tryz.sizeOf80
  v76 := Tryz.zeroValue80
  t109 := Tryz.underlying70
  a109 := Tryz.isAgg70
  z109 := Tryz.sizeOf70
  v109 := Tryz.zeroValue70
  t127 := Tryz.underlying116
  a127 := Tryz.isAgg116
  z127 := Tryz.sizeOf116
  v127 := Tryz.zeroValue116
  t146 := Tryz.underlying111
  a146 := Tryz.isAgg111
  z146 := Tryz.sizeOf111
  v146 := Tryz.zeroValue111
  t148 := Tryz.underlying114
  a148 := Tryz.isAgg114
  z148 := Tryz.sizeOf114
  v148 := Tryz.zeroValue114
  t164 := Tryz.underlying145
  a164 := Tryz.isAgg145
  z164 := Tryz.sizeOf145
  v164 := Tryz.zeroValue145 }
theorem Tryz.Builder_Extra_105 : Builder.Extra Tryz.prog Tryz.lays105_ren := {
  sizeBuilder := by kernel_rfl
  liesBuilder := by kernel_rfl
  t5 := Tryz.underlying5
  a5 := Tryz.isAgg5
  z5 := Tryz.sizeOf5
  v5 := Tryz.zeroValue5
  infoByte := by kernel_rfl
  cellsByte := by kernel_rfl
  sizeByte := by kernel_rfl
  neB5 := by decide }
open Go.RowKit Go.Lib in
theorem Tryz.strings_Repeat_main (s : ByteArray) (c : Nat) (w : World) (hc2 : 2 ≤ c) (hc : c ≤ 9223372036854775807) (hlen : s.size * c ≤ 140737488355328) (h0 : 0 < s.size) :
    Calls Tryz.prog 14 #[.string s, .int .i64 c] w fun e w' => e = .returned (.string ⟨(Lib.repeatL s.data.toList c).toArray⟩) ∧ Below w.heap.size w w' := Any.strings_Repeat_main Tryz.lays105 Tryz.Builder_Extra_105 s c w hc2 hc hlen h0
open Go.RowKit Go.Lib in
theorem Tryz.strings_Repeat_zero (s : ByteArray) (w : World) :
    Calls Tryz.prog 14 #[.string s, .int .i64 0] w fun e w' => e = .returned (.string ⟨#[]⟩) ∧ w' = w := Any.strings_Repeat_zero Tryz.lays105 s w
open Go.RowKit Go.Lib in
theorem Tryz.strings_Repeat_one (s : ByteArray) (w : World) :
    Calls Tryz.prog 14 #[.string s, .int .i64 1] w fun e w' => e = .returned (.string s) ∧ w' = w := Any.strings_Repeat_one Tryz.lays105 s w
open Go.RowKit Go.Lib in
theorem Tryz.strings_Repeat_empty (s : ByteArray) (c : Nat) (w : World) (hc2 : 2 ≤ c) (hc : c ≤ 9223372036854775807) (h0 : s.size = 0) :
    Calls Tryz.prog 14 #[.string s, .int .i64 c] w fun e w' => e = .returned (.string ⟨#[]⟩) ∧ w' = w := Any.strings_Repeat_empty Tryz.lays105 s c w hc2 hc h0
open Go.RowKit Go.Lib in
theorem Tryz.strings_Repeat (s : ByteArray) (c : Nat) (w : World) (hc : c ≤ 9223372036854775807) (hlen : s.size * c ≤ 140737488355328) :
    Calls Tryz.prog 14 #[.string s, .int .i64 c] w fun e w' => e = .returned (.string ⟨(Lib.repeatL s.data.toList c).toArray⟩) ∧ Below w.heap.size w w' := Any.strings_Repeat Tryz.lays105 Tryz.Builder_Extra_105 s c w hc hlen
end Go.Proofs
