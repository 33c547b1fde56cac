/-
  DERIVED: THE SHELF's CONTRACTS AT THIS DUMP, IN PLAIN WORDS (tools/lay-plain.mjs out of 'TryzShelf.lean', which tools/lay-shelf.mjs wrote): THE SAME DECLARATIONS UNDER THE SAME NAMES: 'import', 'namespace', 'open', 'def', 'theorem' AND NOTHING ELSE: no command of the shelf's: FOR A HAND-IN. Each laying: the table of numbers ('.._ren') and one theorem, a field a fact of the dump's own or the kernel's comparison; each contract: ONE APPLICATION.
-/
import Derived.Shelf.Strings.Builder1
import Derived.Shelf.Small.Strs
import Derived.Shelf.Small.Wraps
import Derived.Shelf.Strings.BuilderF
import Derived.Shelf.Strings.BuilderK
import Derived.Shelf.Strconv.Atoi
import Derived.Shelf.Strconv.Itoa0
import Derived.Shelf.Strconv.Itoa1
import Derived.Shelf.LaysM
import Derived.Shelf.Strconv.Itoa2
import Derived.Shelf.Strconv.Itoa3
import Derived.Shelf.Strconv.AtoiErrFast
import Derived.Shelf.Strconv.ParseIntEmpty
import Derived.Shelf.Strconv.AtoiFail
import Derived.Shelf.Strconv.Clone
import Derived.Shelf.Strconv.SyntaxError
import Derived.Shelf.LaysC
import Derived.Shelf.Strconv.ToError
import Derived.Shelf.Strconv.Lower
import Derived.Shelf.Strconv.ParseUint10
import Derived.Shelf.Strconv.ParseUint10Empty
import Derived.Shelf.Strconv.ParseUint10Any
import Derived.Shelf.Strconv.ParseInt10
import Derived.Shelf.Strconv.AtoiLong
import Derived.Shelf.Strconv.AtoiInnerAll
import Derived.Shelf.Strconv.RangeError
import Derived.Shelf.Strconv.ToErrorRange
import Derived.Shelf.Strconv.AtoiAll
import Derived.Shelf.Strconv.ErrVarAll
import Derived.Shelf.Strconv.ParseUintEmpty
import Derived.Shelf.Strconv.ParseUint10b64
import Derived.Shelf.Strconv.ParseUint10b32
import Derived.Shelf.Strconv.ParseUint10b16
import Derived.Shelf.Strconv.ParseUint10b8
import Derived.Shelf.Strconv.ParseUint10At
import Derived.Shelf.Strconv.ParseInt10At64
import Derived.Shelf.Strconv.ParseInt10At32
import Derived.Shelf.Strconv.ParseInt10At16
import Derived.Shelf.Strconv.ParseInt10At8
import Derived.Shelf.Strconv.ParseInt10All
import Derived.Ground.MpProg
import Derived.Shelf.Pu.ParseUintPublic10
import Derived.Shelf.Pu.ErrVarParseUint
import Derived.Shelf.Strings.Search1
import Derived.Shelf.Strings.Search2
import Derived.Shelf.Strings.Cut
import Derived.Shelf.Strings.Shaped
import Derived.Shelf.Strings.Prefix
import Derived.Test.YtajkeoapfkkjbaaGreatDoorProg
namespace Go.Proofs
open Go.Shelf
def Tryz.lays169_ren : Go.Shelf.Ren := ⟨fun | 169 => 103 | n => n, fun | 70 => 127 | 9 => 9 | 0 => 0 | 72 => 130 | 37 => 128 | 127 => 141 | 3 => 3 | 5 => 5 | n => n, fun | n => n⟩
theorem Tryz.lays169 : Go.Proofs.Lays.n169 Tryz.prog Tryz.lays169_ren := {
  mixed := by kernel_rfl
  f169 := Tryz.func103.trans (congrArg some (by kernel_rfl))
  t0 := Tryz.underlying0
  a0 := Tryz.isAgg0
  z0 := Tryz.sizeOf0
  v0 := Tryz.zeroValue0
  t3 := Tryz.underlying3
  a3 := Tryz.isAgg3
  z3 := Tryz.sizeOf3
  v3 := Tryz.zeroValue3
  t9 := Tryz.underlying9
  a9 := Tryz.isAgg9
  z9 := Tryz.sizeOf9
  v9 := Tryz.zeroValue9
  t37 := Tryz.underlying128
  a37 := Tryz.isAgg128
  z37 := Tryz.sizeOf128
  v37 := Tryz.zeroValue128
  t70 := Tryz.underlying127
  a70 := Tryz.isAgg127
  z70 := Tryz.sizeOf127
  v70 := Tryz.zeroValue127
  t72 := Tryz.underlying130
  a72 := Tryz.isAgg130
  z72 := Tryz.sizeOf130
  v72 := Tryz.zeroValue130
  t127 := Tryz.underlying141
  a127 := Tryz.isAgg141
  z127 := Tryz.sizeOf141
  v127 := Tryz.zeroValue141 }
theorem Tryz.Builder_Extra_169 : Builder.Extra Tryz.prog Tryz.lays169_ren := {
  sizeBuilder := by kernel_rfl
  liesBuilder := by kernel_rfl
  t5 := Tryz.underlying5
  a5 := Tryz.isAgg5
  z5 := Tryz.sizeOf5
  v5 := Tryz.zeroValue5
  infoByte := by kernel_rfl
  cellsByte := by kernel_rfl
  sizeByte := by kernel_rfl
  neB5 := by decide }
def Tryz.lays106_ren : Go.Shelf.Ren := ⟨fun | 106 => 76 | 213 => 94 | 265 => 110 | n => n, fun | 9 => 9 | 3 => 3 | n => n, fun | n => n⟩
theorem Tryz.lays106 : Go.Proofs.Lays.n106 Tryz.prog Tryz.lays106_ren := {
  mixed := by kernel_rfl
  f106 := Tryz.func76.trans (congrArg some (by kernel_rfl))
  f213 := Tryz.func94.trans (congrArg some (by kernel_rfl))
  f265 := Tryz.func110.trans (congrArg some (by kernel_rfl))
  t3 := Tryz.underlying3
  a3 := Tryz.isAgg3
  z3 := Tryz.sizeOf3
  v3 := Tryz.zeroValue3
  t9 := Tryz.underlying9
  a9 := Tryz.isAgg9
  z9 := Tryz.sizeOf9
  v9 := Tryz.zeroValue9 }
open Go.RowKit in
theorem Tryz.strings_Compare (a b : ByteArray) (w : World) :
    Calls Tryz.prog 76 #[.string a, .string b] w fun e w' => e = .returned (.int .i64 (Lib.compareBytes a.data.toList b.data.toList)) ∧ w' = w := Any.strings_Compare Tryz.lays106 a b w
def Tryz.lays103_ren : Go.Shelf.Ren := ⟨fun | 103 => 96 | 210 => 113 | 206 => 109 | n => n, fun | 9 => 9 | 4 => 4 | 24 => 122 | 3 => 3 | n => n, fun | n => n⟩
theorem Tryz.lays103 : Go.Proofs.Lays.n103 Tryz.prog Tryz.lays103_ren := {
  mixed := by kernel_rfl
  f103 := Tryz.func96.trans (congrArg some (by kernel_rfl))
  f206 := Tryz.func109.trans (congrArg some (by kernel_rfl))
  f210 := Tryz.func113.trans (congrArg some (by kernel_rfl))
  t3 := Tryz.underlying3
  a3 := Tryz.isAgg3
  z3 := Tryz.sizeOf3
  v3 := Tryz.zeroValue3
  t4 := Tryz.underlying4
  a4 := Tryz.isAgg4
  z4 := Tryz.sizeOf4
  v4 := Tryz.zeroValue4
  t9 := Tryz.underlying9
  a9 := Tryz.isAgg9
  z9 := Tryz.sizeOf9
  v9 := Tryz.zeroValue9
  t24 := Tryz.underlying122
  a24 := Tryz.isAgg122
  z24 := Tryz.sizeOf122
  v24 := Tryz.zeroValue122 }
open Go.RowKit in
theorem Tryz.strings_CutPrefix (s p : ByteArray) (w : World) :
    Calls Tryz.prog 96 #[.string s, .string p] w fun e w' => e = .returned (.tuple #[.string ⟨(Lib.trimPrefix s.data.toList p.data.toList).toArray⟩, .bool (Lib.hasPrefix s.data.toList p.data.toList)]) ∧ w' = w := Any.strings_CutPrefix Tryz.lays103 s p w
open Go.RowKit in
theorem Tryz.Builder_String_any_k (B b : Nat) (l : List UInt8) (w : World) (h : Lib.IsBuilderF 130 5 B b (Lib.byteCells l) w) (hBw : B ≤ w.heap.size) :
    Calls Tryz.prog 103 #[.pointer (some ⟨b, 0, none⟩)] w fun e w' => e = .returned (.string ⟨l.toArray⟩) ∧ (Lib.IsBuilderF 130 5 B b (Lib.byteCells l) w' ∧ Below B w w' ∧ Lib.OthersKept 5 (some b) w w') := Any.Builder_String_any_k Tryz.lays169 Tryz.Builder_Extra_169 B b l w h hBw
def Tryz.lays283_ren : Go.Shelf.Ren := ⟨fun | 283 => 131 | n => n, fun | 3 => 3 | 9 => 9 | 4 => 4 | n => n, fun | n => n⟩
theorem Tryz.lays283 : Go.Proofs.Lays.n283 Tryz.prog Tryz.lays283_ren := {
  mixed := by kernel_rfl
  f283 := Tryz.func131.trans (congrArg some (by kernel_rfl))
  t3 := Tryz.underlying3
  a3 := Tryz.isAgg3
  z3 := Tryz.sizeOf3
  v3 := Tryz.zeroValue3
  t4 := Tryz.underlying4
  a4 := Tryz.isAgg4
  z4 := Tryz.sizeOf4
  v4 := Tryz.zeroValue4
  t9 := Tryz.underlying9
  a9 := Tryz.isAgg9
  z9 := Tryz.sizeOf9
  v9 := Tryz.zeroValue9 }
open Go.Lib in
theorem Tryz.internal_strconv_small (i : Nat) (h : i < 100) (w : World) :
    Calls Tryz.prog 131 #[.int .i64 i] w fun e w' => e = .returned (.string ⟨(Lib.decDigits i).toArray⟩) ∧ w' = w := Any.internal_strconv_small Tryz.lays283 i h w
def Tryz.laysM284_ren : Go.Shelf.Ren := ⟨fun | 284 => 132 | 129 => 140 | 317 => 139 | 318 => 141 | n => n, fun | 53 => 116 | 3 => 3 | 212 => 169 | 0 => 0 | 4 => 4 | 46 => 145 | 5 => 5 | 9 => 9 | n => n, fun | 17 => 3 | n => n⟩
theorem Tryz.laysM284 : Go.Proofs.LaysM.n284 Tryz.prog Tryz.laysM284_ren := {
  mixed := by kernel_rfl
  f129 := Tryz.func140.trans (congrArg some (by kernel_rfl))
  f284 := Tryz.func132.trans (congrArg some (by kernel_rfl))
  f317 := Tryz.func139.trans (congrArg some (by kernel_rfl))
  f318 := Tryz.func141.trans (congrArg some (by kernel_rfl))
  t0 := Tryz.underlying0
  a0 := Tryz.isAgg0
  z0 := Tryz.sizeOf0
  v0 := Tryz.zeroValue0
  t3 := Tryz.underlying3
  a3 := Tryz.isAgg3
  z3 := Tryz.sizeOf3
  v3 := Tryz.zeroValue3
  t4 := Tryz.underlying4
  a4 := Tryz.isAgg4
  z4 := Tryz.sizeOf4
  v4 := Tryz.zeroValue4
  t5 := Tryz.underlying5
  a5 := Tryz.isAgg5
  z5 := Tryz.sizeOf5
  v5 := Tryz.zeroValue5
  t9 := Tryz.underlying9
  a9 := Tryz.isAgg9
  z9 := Tryz.sizeOf9
  v9 := Tryz.zeroValue9
  t46 := Tryz.underlying145
  a46 := Tryz.isAgg145
  z46 := Tryz.sizeOf145
  v46 := Tryz.zeroValue145
  t53 := Tryz.underlying116
  a53 := Tryz.isAgg116
  z53 := Tryz.sizeOf116
  v53 := Tryz.zeroValue116
  t212 := Tryz.underlying169
  a212 := Tryz.isAgg169
  z212 := Tryz.sizeOf169
  v212 := Tryz.zeroValue169
  g17 := by kernel_rfl
  i0 := by kernel_rfl
  i3 := by kernel_rfl
  i4 := by kernel_rfl
  i5 := by kernel_rfl
  i9 := by kernel_rfl
  i46 := by kernel_rfl
  i53 := by kernel_rfl
  i212 := by kernel_rfl
  m17 := by kernel_rfl }
open Go.Lib in
theorem Tryz.internal_strconv_numDigits (u : Nat) (h1 : 1 ≤ u) (h2 : u < 18446744073709551616) (w : World) (htab : Lib.TabIs Tryz.prog w "internal/strconv.uint64pow10" .u64 Lib.pow10Tab) :
    Calls Tryz.prog 132 #[.int .u64 u] w fun e w' => e = .returned (.int .i64 (Lib.nDigits u)) ∧ w' = w := Any.internal_strconv_numDigits Tryz.laysM284 u h1 h2 w htab
def Tryz.lays285_ren : Go.Shelf.Ren := ⟨fun | 285 => 133 | n => n, fun | 37 => 128 | 53 => 116 | 3 => 3 | 4 => 4 | 51 => 161 | 9 => 9 | 5 => 5 | 0 => 0 | n => n, fun | n => n⟩
theorem Tryz.lays285 : Go.Proofs.Lays.n285 Tryz.prog Tryz.lays285_ren := {
  mixed := by kernel_rfl
  f285 := Tryz.func133.trans (congrArg some (by kernel_rfl))
  t0 := Tryz.underlying0
  a0 := Tryz.isAgg0
  z0 := Tryz.sizeOf0
  v0 := Tryz.zeroValue0
  t3 := Tryz.underlying3
  a3 := Tryz.isAgg3
  z3 := Tryz.sizeOf3
  v3 := Tryz.zeroValue3
  t4 := Tryz.underlying4
  a4 := Tryz.isAgg4
  z4 := Tryz.sizeOf4
  v4 := Tryz.zeroValue4
  t5 := Tryz.underlying5
  a5 := Tryz.isAgg5
  z5 := Tryz.sizeOf5
  v5 := Tryz.zeroValue5
  t9 := Tryz.underlying9
  a9 := Tryz.isAgg9
  z9 := Tryz.sizeOf9
  v9 := Tryz.zeroValue9
  t37 := Tryz.underlying128
  a37 := Tryz.isAgg128
  z37 := Tryz.sizeOf128
  v37 := Tryz.zeroValue128
  t51 := Tryz.underlying161
  a51 := Tryz.isAgg161
  z51 := Tryz.sizeOf161
  v51 := Tryz.zeroValue161
  t53 := Tryz.underlying116
  a53 := Tryz.isAgg116
  z53 := Tryz.sizeOf116
  v53 := Tryz.zeroValue116 }
open Go.RowKit Go.Sort Go.Lib in
theorem Tryz.internal_strconv_formatBase10 (blk off cap : Nat) (u : Nat) (d : Array UInt8) (w : World) (hH : Holds (fun (b : UInt8) => Value.int .u8 (b.toNat : Int)) w blk off d) (hu : u < 10 ^ d.size) (hu64 : u < 18446744073709551616) (hsz : d.size < 4611686018427387904) :
    Calls Tryz.prog 133 #[.slice (some ⟨blk, off, none⟩) d.size cap, .int .u64 u] w fun e w' =>
      e = .returned (.tuple #[]) ∧ ∃ (n v' : Nat) (dk : Array UInt8), w' = (putRow (fun (b : UInt8) => Value.int .u8 (b.toNat : Int)) w blk off dk).drewN n ∧ FmtInv d.size u 0 v' dk := Any.internal_strconv_formatBase10 Tryz.lays285 blk off cap u d w hH hu hu64 hsz
def Tryz.laysM171_ren : Go.Shelf.Ren := ⟨fun | 171 => 82 | 243 => 104 | 246 => 118 | 283 => 131 | 284 => 132 | 285 => 133 | 286 => 134 | 129 => 140 | 317 => 139 | 318 => 141 | 319 => 142 | 320 => 143 | 337 => 144 | 338 => 145 | n => n, fun | 3 => 3 | 9 => 9 | 2 => 2 | 4 => 4 | 171 => 156 | 0 => 0 | 53 => 116 | 37 => 128 | 5 => 5 | 173 => 159 | 212 => 169 | 51 => 161 | 20 => 20 | 213 => 170 | 46 => 145 | 232 => 177 | 233 => 178 | n => n, fun | 17 => 3 | 18 => 4 | 19 => 5 | n => n⟩
theorem Tryz.laysM171 : Go.Proofs.LaysM.n171 Tryz.prog Tryz.laysM171_ren := {
  mixed := by kernel_rfl
  f129 := Tryz.func140.trans (congrArg some (by kernel_rfl))
  f171 := Tryz.func82.trans (congrArg some (by kernel_rfl))
  f243 := Tryz.func104.trans (congrArg some (by kernel_rfl))
  f246 := Tryz.func118.trans (congrArg some (by kernel_rfl))
  f283 := Tryz.func131.trans (congrArg some (by kernel_rfl))
  f284 := Tryz.func132.trans (congrArg some (by kernel_rfl))
  f285 := Tryz.func133.trans (congrArg some (by kernel_rfl))
  f286 := Tryz.func134.trans (congrArg some (by kernel_rfl))
  f317 := Tryz.func139.trans (congrArg some (by kernel_rfl))
  f318 := Tryz.func141.trans (congrArg some (by kernel_rfl))
  f319 := Tryz.func142.trans (congrArg some (by kernel_rfl))
  f320 := Tryz.func143.trans (congrArg some (by kernel_rfl))
  f337 := Tryz.func144.trans (congrArg some (by kernel_rfl))
  f338 := Tryz.func145.trans (congrArg some (by kernel_rfl))
  t0 := Tryz.underlying0
  a0 := Tryz.isAgg0
  z0 := Tryz.sizeOf0
  v0 := Tryz.zeroValue0
  t2 := Tryz.underlying2
  a2 := Tryz.isAgg2
  z2 := Tryz.sizeOf2
  v2 := Tryz.zeroValue2
  t3 := Tryz.underlying3
  a3 := Tryz.isAgg3
  z3 := Tryz.sizeOf3
  v3 := Tryz.zeroValue3
  t4 := Tryz.underlying4
  a4 := Tryz.isAgg4
  z4 := Tryz.sizeOf4
  v4 := Tryz.zeroValue4
  t5 := Tryz.underlying5
  a5 := Tryz.isAgg5
  z5 := Tryz.sizeOf5
  v5 := Tryz.zeroValue5
  t9 := Tryz.underlying9
  a9 := Tryz.isAgg9
  z9 := Tryz.sizeOf9
  v9 := Tryz.zeroValue9
  t20 := Tryz.underlying20
  a20 := Tryz.isAgg20
  z20 := Tryz.sizeOf20
  v20 := Tryz.zeroValue20
  t37 := Tryz.underlying128
  a37 := Tryz.isAgg128
  z37 := Tryz.sizeOf128
  v37 := Tryz.zeroValue128
  t46 := Tryz.underlying145
  a46 := Tryz.isAgg145
  z46 := Tryz.sizeOf145
  v46 := Tryz.zeroValue145
  t51 := Tryz.underlying161
  a51 := Tryz.isAgg161
  z51 := Tryz.sizeOf161
  v51 := Tryz.zeroValue161
  t53 := Tryz.underlying116
  a53 := Tryz.isAgg116
  z53 := Tryz.sizeOf116
  v53 := Tryz.zeroValue116
  t171 := Tryz.underlying156
  a171 := Tryz.isAgg156
  z171 := Tryz.sizeOf156
  v171 := Tryz.zeroValue156
  t173 := Tryz.underlying159
  a173 := Tryz.isAgg159
  z173 := Tryz.sizeOf159
  v173 := Tryz.zeroValue159
  t212 := Tryz.underlying169
  a212 := Tryz.isAgg169
  z212 := Tryz.sizeOf169
  v212 := Tryz.zeroValue169
  t213 := Tryz.underlying170
  a213 := Tryz.isAgg170
  z213 := Tryz.sizeOf170
  t232 := Tryz.underlying177
  a232 := Tryz.isAgg177
  z232 := Tryz.sizeOf177
  v232 := Tryz.zeroValue177
  t233 := Tryz.underlying178
  a233 := Tryz.isAgg178
  z233 := Tryz.sizeOf178
  v233 := Tryz.zeroValue178
  g17 := by kernel_rfl
  g18 := by kernel_rfl
  g19 := by kernel_rfl
  i0 := by kernel_rfl
  i2 := by kernel_rfl
  i3 := by kernel_rfl
  i4 := by kernel_rfl
  i5 := by kernel_rfl
  i9 := by kernel_rfl
  i20 := by kernel_rfl
  i37 := by kernel_rfl
  i46 := by kernel_rfl
  i51 := by kernel_rfl
  i53 := by kernel_rfl
  i171 := by kernel_rfl
  i173 := by kernel_rfl
  i212 := by kernel_rfl
  i232 := by kernel_rfl
  i233 := by kernel_rfl
  m17 := by kernel_rfl
  m18 := by kernel_rfl
  m19 := by kernel_rfl }
open Go.RowKit Go.Sort Go.Lib in
theorem Tryz.strconv_Itoa (n : Int) (h0 : -9223372036854775808 ≤ n) (h1 : n ≤ 9223372036854775807) (w : World) (htab : Lib.TabIs Tryz.prog w "internal/strconv.uint64pow10" .u64 Lib.pow10Tab) :
    Calls Tryz.prog 82 #[.int .i64 n] w fun e w' => e = .returned (.string ⟨(Lib.itoa n).toArray⟩) ∧ ∃ k os, w' = grow (w.drewN k) os := Any.strconv_Itoa Tryz.laysM171 n h0 h1 w htab
def Tryz.laysC172_ren : Go.Shelf.Ren := ⟨fun | 172 => 95 | 244 => 111 | 245 => 112 | 247 => 123 | 279 => 124 | 280 => 125 | 281 => 126 | 282 => 127 | 287 => 114 | 316 => 137 | 171 => 82 | 205 => 138 | 321 => 128 | 322 => 129 | 243 => 104 | 246 => 118 | 283 => 131 | 284 => 132 | 285 => 133 | 286 => 134 | 129 => 140 | 317 => 139 | 318 => 141 | 319 => 142 | 320 => 143 | 337 => 144 | 338 => 145 | n => n, fun | 9 => 9 | 3 => 3 | 75 => 119 | 76 => 120 | 4 => 4 | 5 => 5 | 167 => 146 | 37 => 128 | 0 => 0 | 85 => 147 | 2 => 2 | 168 => 149 | 53 => 116 | 175 => 124 | 46 => 145 | 210 => 166 | 127 => 141 | 145 => 175 | 143 => 173 | 21 => 21 | 171 => 156 | 173 => 159 | 212 => 169 | 51 => 161 | 20 => 20 | 213 => 170 | 232 => 177 | 233 => 178 | 80 => 136 | n => n, fun | 15 => 1 | 16 => 2 | 17 => 3 | 18 => 4 | 19 => 5 | n => n⟩
theorem Tryz.laysC172 : Go.Proofs.LaysC.n172 Tryz.prog Tryz.laysC172_ren := {
  mixed := by kernel_rfl
  f129 := Tryz.func140.trans (congrArg some (by kernel_rfl))
  f171 := Tryz.func82.trans (congrArg some (by kernel_rfl))
  f172 := Tryz.func95.trans (congrArg some (by kernel_rfl))
  f205 := Tryz.func138.trans (congrArg some (by kernel_rfl))
  f243 := Tryz.func104.trans (congrArg some (by kernel_rfl))
  f244 := Tryz.func111.trans (congrArg some (by kernel_rfl))
  f245 := Tryz.func112.trans (congrArg some (by kernel_rfl))
  f246 := Tryz.func118.trans (congrArg some (by kernel_rfl))
  f247 := Tryz.func123.trans (congrArg some (by kernel_rfl))
  f279 := Tryz.func124.trans (congrArg some (by kernel_rfl))
  f280 := Tryz.func125.trans (congrArg some (by kernel_rfl))
  f281 := Tryz.func126.trans (congrArg some (by kernel_rfl))
  f282 := Tryz.func127.trans (congrArg some (by kernel_rfl))
  f283 := Tryz.func131.trans (congrArg some (by kernel_rfl))
  f284 := Tryz.func132.trans (congrArg some (by kernel_rfl))
  f285 := Tryz.func133.trans (congrArg some (by kernel_rfl))
  f286 := Tryz.func134.trans (congrArg some (by kernel_rfl))
  f287 := Tryz.func114.trans (congrArg some (by kernel_rfl))
  f316 := Tryz.func137.trans (congrArg some (by kernel_rfl))
  f317 := Tryz.func139.trans (congrArg some (by kernel_rfl))
  f318 := Tryz.func141.trans (congrArg some (by kernel_rfl))
  f319 := Tryz.func142.trans (congrArg some (by kernel_rfl))
  f320 := Tryz.func143.trans (congrArg some (by kernel_rfl))
  f321 := Tryz.func128.trans (congrArg some (by kernel_rfl))
  f322 := Tryz.func129.trans (congrArg some (by kernel_rfl))
  f337 := Tryz.func144.trans (congrArg some (by kernel_rfl))
  f338 := Tryz.func145.trans (congrArg some (by kernel_rfl))
  t0 := Tryz.underlying0
  a0 := Tryz.isAgg0
  z0 := Tryz.sizeOf0
  v0 := Tryz.zeroValue0
  t2 := Tryz.underlying2
  a2 := Tryz.isAgg2
  z2 := Tryz.sizeOf2
  v2 := Tryz.zeroValue2
  t3 := Tryz.underlying3
  a3 := Tryz.isAgg3
  z3 := Tryz.sizeOf3
  v3 := Tryz.zeroValue3
  t4 := Tryz.underlying4
  a4 := Tryz.isAgg4
  z4 := Tryz.sizeOf4
  v4 := Tryz.zeroValue4
  t5 := Tryz.underlying5
  a5 := Tryz.isAgg5
  z5 := Tryz.sizeOf5
  v5 := Tryz.zeroValue5
  t9 := Tryz.underlying9
  a9 := Tryz.isAgg9
  z9 := Tryz.sizeOf9
  v9 := Tryz.zeroValue9
  t20 := Tryz.underlying20
  a20 := Tryz.isAgg20
  z20 := Tryz.sizeOf20
  v20 := Tryz.zeroValue20
  t21 := Tryz.underlying21
  a21 := Tryz.isAgg21
  z21 := Tryz.sizeOf21
  v21 := Tryz.zeroValue21
  t37 := Tryz.underlying128
  a37 := Tryz.isAgg128
  z37 := Tryz.sizeOf128
  v37 := Tryz.zeroValue128
  t46 := Tryz.underlying145
  a46 := Tryz.isAgg145
  z46 := Tryz.sizeOf145
  v46 := Tryz.zeroValue145
  t51 := Tryz.underlying161
  a51 := Tryz.isAgg161
  z51 := Tryz.sizeOf161
  v51 := Tryz.zeroValue161
  t53 := Tryz.underlying116
  a53 := Tryz.isAgg116
  z53 := Tryz.sizeOf116
  v53 := Tryz.zeroValue116
  t75 := Tryz.underlying119
  a75 := Tryz.isAgg119
  z75 := Tryz.sizeOf119
  v75 := Tryz.zeroValue119
  t76 := Tryz.underlying120
  a76 := Tryz.isAgg120
  z76 := Tryz.sizeOf120
  v76 := Tryz.zeroValue120
  t85 := Tryz.underlying147
  a85 := Tryz.isAgg147
  z85 := Tryz.sizeOf147
  v85 := Tryz.zeroValue147
  t127 := Tryz.underlying141
  a127 := Tryz.isAgg141
  z127 := Tryz.sizeOf141
  v127 := Tryz.zeroValue141
  t143 := Tryz.underlying173
  a143 := Tryz.isAgg173
  z143 := Tryz.sizeOf173
  v143 := Tryz.zeroValue173
  t145 := Tryz.underlying175
  a145 := Tryz.isAgg175
  z145 := Tryz.sizeOf175
  v145 := Tryz.zeroValue175
  t167 := Tryz.underlying146
  a167 := Tryz.isAgg146
  z167 := Tryz.sizeOf146
  v167 := Tryz.zeroValue146
  t168 := Tryz.underlying149
  a168 := Tryz.isAgg149
  z168 := Tryz.sizeOf149
  v168 := Tryz.zeroValue149
  t171 := Tryz.underlying156
  a171 := Tryz.isAgg156
  z171 := Tryz.sizeOf156
  v171 := Tryz.zeroValue156
  t173 := Tryz.underlying159
  a173 := Tryz.isAgg159
  z173 := Tryz.sizeOf159
  v173 := Tryz.zeroValue159
  t175 := Tryz.underlying124
  a175 := Tryz.isAgg124
  z175 := Tryz.sizeOf124
  v175 := Tryz.zeroValue124
  t210 := Tryz.underlying166
  a210 := Tryz.isAgg166
  z210 := Tryz.sizeOf166
  v210 := Tryz.zeroValue166
  t212 := Tryz.underlying169
  a212 := Tryz.isAgg169
  z212 := Tryz.sizeOf169
  v212 := Tryz.zeroValue169
  t213 := Tryz.underlying170
  a213 := Tryz.isAgg170
  z213 := Tryz.sizeOf170
  t232 := Tryz.underlying177
  a232 := Tryz.isAgg177
  z232 := Tryz.sizeOf177
  v232 := Tryz.zeroValue177
  t233 := Tryz.underlying178
  a233 := Tryz.isAgg178
  z233 := Tryz.sizeOf178
  v233 := Tryz.zeroValue178
  g15 := by kernel_rfl
  g16 := by kernel_rfl
  g17 := by kernel_rfl
  g18 := by kernel_rfl
  g19 := by kernel_rfl
  t80 := Tryz.underlying136
  a80 := Tryz.isAgg136
  z80 := Tryz.sizeOf136
  v80 := Tryz.zeroValue136
  i0 := by kernel_rfl
  i2 := by kernel_rfl
  i3 := by kernel_rfl
  i4 := by kernel_rfl
  i5 := by kernel_rfl
  i9 := by kernel_rfl
  i20 := by kernel_rfl
  i21 := by kernel_rfl
  i37 := by kernel_rfl
  i46 := by kernel_rfl
  i51 := by kernel_rfl
  i53 := by kernel_rfl
  i75 := by kernel_rfl
  i76 := by kernel_rfl
  i80 := by kernel_rfl
  i85 := by kernel_rfl
  i127 := by kernel_rfl
  i143 := by kernel_rfl
  i145 := by kernel_rfl
  i167 := by kernel_rfl
  i168 := by kernel_rfl
  i171 := by kernel_rfl
  i173 := by kernel_rfl
  i175 := by kernel_rfl
  i210 := by kernel_rfl
  i212 := by kernel_rfl
  i232 := by kernel_rfl
  i233 := by kernel_rfl
  m15 := by kernel_rfl
  m16 := by kernel_rfl
  m17 := by kernel_rfl
  m18 := by kernel_rfl
  m19 := by kernel_rfl
  c0 := by kernel_rfl
  c2 := by kernel_rfl
  c3 := by kernel_rfl
  c4 := by kernel_rfl
  c5 := by kernel_rfl
  c9 := by kernel_rfl
  c20 := by kernel_rfl
  c21 := by kernel_rfl
  c37 := by kernel_rfl
  c46 := by kernel_rfl
  c51 := by kernel_rfl
  c53 := by kernel_rfl
  c75 := by kernel_rfl
  c76 := by kernel_rfl
  c80 := by kernel_rfl
  c85 := by kernel_rfl
  c127 := by kernel_rfl
  c143 := by kernel_rfl
  c145 := by kernel_rfl
  c167 := by kernel_rfl
  c168 := by kernel_rfl
  c171 := by kernel_rfl
  c173 := by kernel_rfl
  c175 := by kernel_rfl
  c210 := by kernel_rfl
  c212 := by kernel_rfl
  c213 := by kernel_rfl
  c232 := by kernel_rfl
  c233 := by kernel_rfl }
open Go.RowKit in
theorem Tryz.strconv_Atoi_ok (s : ByteArray) (hmax : s.size ≤ 9223372036854775806) (v : Int) (h : Lib.atoiAll s.data.toList = .ok v) (w : World) :
    Calls Tryz.prog 95 #[.string s] w fun e w' => e = .returned (.tuple #[.int .i64 v, .nilIface]) ∧ (w' = w ∨ ∃ t, w' = Lib.bytesWorld w 5 t) := Any.strconv_Atoi_ok Tryz.laysC172 s hmax v h w
def Tryz.laysPu14_ren : Go.Shelf.Ren := ⟨fun | 14 => 97 | 16 => 114 | 17 => 112 | 19 => 128 | 20 => 129 | 21 => 124 | 22 => 125 | 23 => 126 | 24 => 127 | 25 => 137 | 27 => 82 | 26 => 138 | 28 => 104 | 29 => 118 | 30 => 131 | 31 => 132 | 32 => 133 | 33 => 134 | 35 => 140 | 34 => 139 | 36 => 141 | 37 => 142 | 38 => 143 | 39 => 144 | 40 => 145 | n => n, fun | 9 => 9 | 3 => 3 | 22 => 116 | 24 => 119 | 25 => 124 | 4 => 4 | 34 => 146 | 5 => 5 | 36 => 145 | 37 => 128 | 0 => 0 | 39 => 149 | 21 => 21 | 44 => 166 | 47 => 141 | 50 => 175 | 48 => 173 | 2 => 2 | 52 => 156 | 55 => 159 | 59 => 169 | 60 => 161 | 20 => 20 | 61 => 170 | 65 => 177 | 66 => 178 | 67 => 136 | n => n, fun | 0 => 1 | 1 => 2 | 2 => 3 | 3 => 4 | 4 => 5 | n => n⟩
theorem Tryz.laysPu14 : Go.Proofs.LaysPu.n14 Tryz.prog Tryz.laysPu14_ren := {
  mixed := by kernel_rfl
  f14 := Tryz.func97.trans (congrArg some (by kernel_rfl))
  f16 := Tryz.func114.trans (congrArg some (by kernel_rfl))
  f17 := Tryz.func112.trans (congrArg some (by kernel_rfl))
  f19 := Tryz.func128.trans (congrArg some (by kernel_rfl))
  f20 := Tryz.func129.trans (congrArg some (by kernel_rfl))
  f21 := Tryz.func124.trans (congrArg some (by kernel_rfl))
  f22 := Tryz.func125.trans (congrArg some (by kernel_rfl))
  f23 := Tryz.func126.trans (congrArg some (by kernel_rfl))
  f24 := Tryz.func127.trans (congrArg some (by kernel_rfl))
  f25 := Tryz.func137.trans (congrArg some (by kernel_rfl))
  f26 := Tryz.func138.trans (congrArg some (by kernel_rfl))
  f27 := Tryz.func82.trans (congrArg some (by kernel_rfl))
  f28 := Tryz.func104.trans (congrArg some (by kernel_rfl))
  f29 := Tryz.func118.trans (congrArg some (by kernel_rfl))
  f30 := Tryz.func131.trans (congrArg some (by kernel_rfl))
  f31 := Tryz.func132.trans (congrArg some (by kernel_rfl))
  f32 := Tryz.func133.trans (congrArg some (by kernel_rfl))
  f33 := Tryz.func134.trans (congrArg some (by kernel_rfl))
  f34 := Tryz.func139.trans (congrArg some (by kernel_rfl))
  f35 := Tryz.func140.trans (congrArg some (by kernel_rfl))
  f36 := Tryz.func141.trans (congrArg some (by kernel_rfl))
  f37 := Tryz.func142.trans (congrArg some (by kernel_rfl))
  f38 := Tryz.func143.trans (congrArg some (by kernel_rfl))
  f39 := Tryz.func144.trans (congrArg some (by kernel_rfl))
  f40 := Tryz.func145.trans (congrArg some (by kernel_rfl))
  t0 := Tryz.underlying0
  a0 := Tryz.isAgg0
  z0 := Tryz.sizeOf0
  v0 := Tryz.zeroValue0
  i0 := by kernel_rfl
  t2 := Tryz.underlying2
  a2 := Tryz.isAgg2
  z2 := Tryz.sizeOf2
  v2 := Tryz.zeroValue2
  i2 := by kernel_rfl
  t3 := Tryz.underlying3
  a3 := Tryz.isAgg3
  z3 := Tryz.sizeOf3
  v3 := Tryz.zeroValue3
  i3 := by kernel_rfl
  t4 := Tryz.underlying4
  a4 := Tryz.isAgg4
  z4 := Tryz.sizeOf4
  v4 := Tryz.zeroValue4
  i4 := by kernel_rfl
  t5 := Tryz.underlying5
  a5 := Tryz.isAgg5
  z5 := Tryz.sizeOf5
  v5 := Tryz.zeroValue5
  i5 := by kernel_rfl
  t9 := Tryz.underlying9
  a9 := Tryz.isAgg9
  z9 := Tryz.sizeOf9
  v9 := Tryz.zeroValue9
  i9 := by kernel_rfl
  t20 := Tryz.underlying20
  a20 := Tryz.isAgg20
  z20 := Tryz.sizeOf20
  v20 := Tryz.zeroValue20
  i20 := by kernel_rfl
  t21 := Tryz.underlying21
  a21 := Tryz.isAgg21
  z21 := Tryz.sizeOf21
  v21 := Tryz.zeroValue21
  i21 := by kernel_rfl
  t22 := Tryz.underlying116
  a22 := Tryz.isAgg116
  z22 := Tryz.sizeOf116
  v22 := Tryz.zeroValue116
  i22 := by kernel_rfl
  t24 := Tryz.underlying119
  a24 := Tryz.isAgg119
  z24 := Tryz.sizeOf119
  v24 := Tryz.zeroValue119
  i24 := by kernel_rfl
  t25 := Tryz.underlying124
  a25 := Tryz.isAgg124
  z25 := Tryz.sizeOf124
  v25 := Tryz.zeroValue124
  i25 := by kernel_rfl
  t34 := Tryz.underlying146
  a34 := Tryz.isAgg146
  z34 := Tryz.sizeOf146
  v34 := Tryz.zeroValue146
  i34 := by kernel_rfl
  c34 := by kernel_rfl
  t36 := Tryz.underlying145
  a36 := Tryz.isAgg145
  z36 := Tryz.sizeOf145
  v36 := Tryz.zeroValue145
  i36 := by kernel_rfl
  t37 := Tryz.underlying128
  a37 := Tryz.isAgg128
  z37 := Tryz.sizeOf128
  v37 := Tryz.zeroValue128
  i37 := by kernel_rfl
  t39 := Tryz.underlying149
  a39 := Tryz.isAgg149
  z39 := Tryz.sizeOf149
  v39 := Tryz.zeroValue149
  i39 := by kernel_rfl
  t44 := Tryz.underlying166
  a44 := Tryz.isAgg166
  z44 := Tryz.sizeOf166
  v44 := Tryz.zeroValue166
  i44 := by kernel_rfl
  t47 := Tryz.underlying141
  a47 := Tryz.isAgg141
  z47 := Tryz.sizeOf141
  v47 := Tryz.zeroValue141
  i47 := by kernel_rfl
  t48 := Tryz.underlying173
  a48 := Tryz.isAgg173
  z48 := Tryz.sizeOf173
  v48 := Tryz.zeroValue173
  i48 := by kernel_rfl
  t50 := Tryz.underlying175
  a50 := Tryz.isAgg175
  z50 := Tryz.sizeOf175
  v50 := Tryz.zeroValue175
  i50 := by kernel_rfl
  t52 := Tryz.underlying156
  a52 := Tryz.isAgg156
  z52 := Tryz.sizeOf156
  v52 := Tryz.zeroValue156
  i52 := by kernel_rfl
  t55 := Tryz.underlying159
  a55 := Tryz.isAgg159
  z55 := Tryz.sizeOf159
  v55 := Tryz.zeroValue159
  i55 := by kernel_rfl
  t59 := Tryz.underlying169
  a59 := Tryz.isAgg169
  z59 := Tryz.sizeOf169
  v59 := Tryz.zeroValue169
  i59 := by kernel_rfl
  t60 := Tryz.underlying161
  a60 := Tryz.isAgg161
  z60 := Tryz.sizeOf161
  v60 := Tryz.zeroValue161
  i60 := by kernel_rfl
  t61 := Tryz.underlying170
  a61 := Tryz.isAgg170
  z61 := Tryz.sizeOf170
  t65 := Tryz.underlying177
  a65 := Tryz.isAgg177
  z65 := Tryz.sizeOf177
  v65 := Tryz.zeroValue177
  i65 := by kernel_rfl
  t66 := Tryz.underlying178
  a66 := Tryz.isAgg178
  z66 := Tryz.sizeOf178
  v66 := Tryz.zeroValue178
  i66 := by kernel_rfl
  t67 := Tryz.underlying136
  a67 := Tryz.isAgg136
  z67 := Tryz.sizeOf136
  v67 := Tryz.zeroValue136
  i67 := by kernel_rfl
  g0 := by kernel_rfl
  m0 := by kernel_rfl
  g1 := by kernel_rfl
  m1 := by kernel_rfl
  g2 := by kernel_rfl
  m2 := by kernel_rfl
  g3 := by kernel_rfl
  m3 := by kernel_rfl
  g4 := by kernel_rfl
  m4 := by kernel_rfl }
open Go.RowKit in
theorem Tryz.strconv_ParseUint_10_at64_ok (s : ByteArray) (hmax : s.size ≤ 9223372036854775806) (u : Nat) (h : Lib.parseUintB 64 s.data.toList = .ok u) (w : World) :
    Calls Tryz.prog 97 #[.string s, .int .i64 10, .int .i64 64] w fun e w' => e = .returned (.tuple #[.int .u64 u, .nilIface]) ∧ (w' = w ∨ w' = Lib.bytesWorld w 5 s) := Any.strconv_ParseUint_10_at64_ok Tryz.laysPu14 s hmax u h w
def Tryz.lays145_ren : Go.Shelf.Ren := ⟨fun | 145 => 73 | 220 => 91 | 219 => 108 | 217 => 119 | 225 => 120 | 224 => 121 | 267 => 122 | 266 => 135 | 314 => 136 | n => n, fun | 9 => 9 | 4 => 4 | 59 => 96 | 3 => 3 | 5 => 5 | 46 => 145 | 146 => 162 | 51 => 161 | n => n, fun | 1 => 0 | n => n⟩
theorem Tryz.lays145 : Go.Proofs.Lays.n145 Tryz.prog Tryz.lays145_ren := {
  mixed := by kernel_rfl
  f145 := Tryz.func73.trans (congrArg some (by kernel_rfl))
  f217 := Tryz.func119.trans (congrArg some (by kernel_rfl))
  f219 := Tryz.func108.trans (congrArg some (by kernel_rfl))
  f220 := Tryz.func91.trans (congrArg some (by kernel_rfl))
  f224 := Tryz.func121.trans (congrArg some (by kernel_rfl))
  f225 := Tryz.func120.trans (congrArg some (by kernel_rfl))
  f266 := Tryz.func135.trans (congrArg some (by kernel_rfl))
  f267 := Tryz.func122.trans (congrArg some (by kernel_rfl))
  f314 := Tryz.func136.trans (congrArg some (by kernel_rfl))
  t3 := Tryz.underlying3
  a3 := Tryz.isAgg3
  z3 := Tryz.sizeOf3
  v3 := Tryz.zeroValue3
  t4 := Tryz.underlying4
  a4 := Tryz.isAgg4
  z4 := Tryz.sizeOf4
  v4 := Tryz.zeroValue4
  t5 := Tryz.underlying5
  a5 := Tryz.isAgg5
  z5 := Tryz.sizeOf5
  v5 := Tryz.zeroValue5
  t9 := Tryz.underlying9
  a9 := Tryz.isAgg9
  z9 := Tryz.sizeOf9
  v9 := Tryz.zeroValue9
  t46 := Tryz.underlying145
  a46 := Tryz.isAgg145
  z46 := Tryz.sizeOf145
  v46 := Tryz.zeroValue145
  t51 := Tryz.underlying161
  a51 := Tryz.isAgg161
  z51 := Tryz.sizeOf161
  v51 := Tryz.zeroValue161
  t59 := Tryz.underlying96
  a59 := Tryz.isAgg96
  z59 := Tryz.sizeOf96
  v59 := Tryz.zeroValue96
  t146 := Tryz.underlying162
  a146 := Tryz.isAgg162
  z146 := Tryz.sizeOf162
  v146 := Tryz.zeroValue162
  g1 := by kernel_rfl }
open Go.RowKit Go.Lib in
theorem Tryz.strings_Cut (s sep : ByteArray) (m : Int) (w : World) (hs : s.size < 4294967281) (hm : w.cell? ⟨0, 0, none⟩ = some (.int .i64 m)) :
    Calls Tryz.prog 73 #[.string s, .string sep] w fun e w' => e = .returned (.tuple #[.string ⟨(Lib.cut s.data.toList sep.data.toList).1.toArray⟩, .string ⟨(Lib.cut s.data.toList sep.data.toList).2.1.toArray⟩, .bool (Lib.cut s.data.toList sep.data.toList).2.2]) ∧ ∃ n, w' = w.drewN n := Any.strings_Cut Tryz.lays145 s sep m w hs hm
def Tryz.lays99_ren : Go.Shelf.Ren := ⟨fun | 99 => 92 | 206 => 109 | n => n, fun | 9 => 9 | 4 => 4 | 3 => 3 | n => n, fun | n => n⟩
theorem Tryz.lays99 : Go.Proofs.Lays.n99 Tryz.prog Tryz.lays99_ren := {
  mixed := by kernel_rfl
  f99 := Tryz.func92.trans (congrArg some (by kernel_rfl))
  f206 := Tryz.func109.trans (congrArg some (by kernel_rfl))
  t3 := Tryz.underlying3
  a3 := Tryz.isAgg3
  z3 := Tryz.sizeOf3
  v3 := Tryz.zeroValue3
  t4 := Tryz.underlying4
  a4 := Tryz.isAgg4
  z4 := Tryz.sizeOf4
  v4 := Tryz.zeroValue4
  t9 := Tryz.underlying9
  a9 := Tryz.isAgg9
  z9 := Tryz.sizeOf9
  v9 := Tryz.zeroValue9 }
open Go.RowKit Go.Lib in
theorem Tryz.strings_HasPrefix (s p : ByteArray) (w : World) :
    Calls Tryz.prog 92 #[.string s, .string p] w fun e w' => e = .returned (.bool (Lib.hasPrefix s.data.toList p.data.toList)) ∧ w' = w := Any.strings_HasPrefix Tryz.lays99 s p w
def Tryz.lays101_ren : Go.Shelf.Ren := ⟨fun | 101 => 75 | 208 => 93 | 206 => 109 | n => n, fun | 9 => 9 | 4 => 4 | 3 => 3 | n => n, fun | n => n⟩
theorem Tryz.lays101 : Go.Proofs.Lays.n101 Tryz.prog Tryz.lays101_ren := {
  mixed := by kernel_rfl
  f101 := Tryz.func75.trans (congrArg some (by kernel_rfl))
  f206 := Tryz.func109.trans (congrArg some (by kernel_rfl))
  f208 := Tryz.func93.trans (congrArg some (by kernel_rfl))
  t3 := Tryz.underlying3
  a3 := Tryz.isAgg3
  z3 := Tryz.sizeOf3
  v3 := Tryz.zeroValue3
  t4 := Tryz.underlying4
  a4 := Tryz.isAgg4
  z4 := Tryz.sizeOf4
  v4 := Tryz.zeroValue4
  t9 := Tryz.underlying9
  a9 := Tryz.isAgg9
  z9 := Tryz.sizeOf9
  v9 := Tryz.zeroValue9 }
open Go.RowKit Go.Lib in
theorem Tryz.strings_TrimPrefix (s p : ByteArray) (w : World) :
    Calls Tryz.prog 75 #[.string s, .string p] w fun e w' => e = .returned (.string ⟨(Lib.trimPrefix s.data.toList p.data.toList).toArray⟩) ∧ w' = w := Any.strings_TrimPrefix Tryz.lays101 s p w
end Go.Proofs
