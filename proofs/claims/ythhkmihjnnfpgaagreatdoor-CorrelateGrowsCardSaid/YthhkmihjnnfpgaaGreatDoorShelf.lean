/-
  DERIVED: THE SHELF's CONTRACTS AT THIS DUMP, IN PLAIN WORDS (tools/lay-plain.mjs out of 'TryzShelf.lean', which tools/lay-shelf.mjs wrote): THE SAME DECLARATIONS UNDER THE SAME NAMES: 'import', 'namespace', 'open', 'def', 'theorem' AND NOTHING ELSE: no command of the shelf's: FOR A HAND-IN. Each laying: the table of numbers ('.._ren') and one theorem, a field a fact of the dump's own or the kernel's comparison; each contract: ONE APPLICATION.
-/
import Derived.Shelf.Strings.Builder1
import Derived.Shelf.Small.Strs
import Derived.Shelf.Small.Wraps
import Derived.Shelf.Strings.BuilderF
import Derived.Shelf.Strings.BuilderK
import Derived.Shelf.Strconv.Atoi
import Derived.Shelf.Strconv.Itoa0
import Derived.Shelf.Strconv.Itoa1
import Derived.Shelf.LaysM
import Derived.Shelf.Strconv.Itoa2
import Derived.Shelf.Strconv.Itoa3
import Derived.Shelf.Strconv.AtoiErrFast
import Derived.Shelf.Strconv.ParseIntEmpty
import Derived.Shelf.Strconv.AtoiFail
import Derived.Shelf.Strconv.Clone
import Derived.Shelf.Strconv.SyntaxError
import Derived.Shelf.LaysC
import Derived.Shelf.Strconv.ToError
import Derived.Shelf.Strconv.Lower
import Derived.Shelf.Strconv.ParseUint10
import Derived.Shelf.Strconv.ParseUint10Empty
import Derived.Shelf.Strconv.ParseUint10Any
import Derived.Shelf.Strconv.ParseInt10
import Derived.Shelf.Strconv.AtoiLong
import Derived.Shelf.Strconv.AtoiInnerAll
import Derived.Shelf.Strconv.RangeError
import Derived.Shelf.Strconv.ToErrorRange
import Derived.Shelf.Strconv.AtoiAll
import Derived.Shelf.Strconv.ErrVarAll
import Derived.Shelf.Strconv.ParseUintEmpty
import Derived.Shelf.Strconv.ParseUint10b64
import Derived.Shelf.Strconv.ParseUint10b32
import Derived.Shelf.Strconv.ParseUint10b16
import Derived.Shelf.Strconv.ParseUint10b8
import Derived.Shelf.Strconv.ParseUint10At
import Derived.Shelf.Strconv.ParseInt10At64
import Derived.Shelf.Strconv.ParseInt10At32
import Derived.Shelf.Strconv.ParseInt10At16
import Derived.Shelf.Strconv.ParseInt10At8
import Derived.Shelf.Strconv.ParseInt10All
import Derived.Ground.MpProg
import Derived.Shelf.Pu.ParseUintPublic10
import Derived.Shelf.Pu.ErrVarParseUint
import Derived.Shelf.Strings.Search1
import Derived.Shelf.Strings.Search2
import Derived.Shelf.Strings.Cut
import Derived.Shelf.Strings.Shaped
import Derived.Shelf.Strings.Prefix
import Derived.Test.YthhkmihjnnfpgaaGreatDoorProg
namespace Go.Proofs
open Go.Shelf
def Tryz.lays169_ren : Go.Shelf.Ren := ⟨fun | 169 => 108 | n => n, fun | 70 => 169 | 9 => 9 | 0 => 0 | 72 => 171 | 37 => 160 | 127 => 184 | 3 => 3 | 5 => 5 | n => n, fun | n => n⟩
theorem Tryz.lays169 : Go.Proofs.Lays.n169 Tryz.prog Tryz.lays169_ren := {
  mixed := by kernel_rfl
  f169 := Tryz.func108.trans (congrArg some (by kernel_rfl))
  t0 := Tryz.underlying0
  a0 := Tryz.isAgg0
  z0 := Tryz.sizeOf0
  v0 := Tryz.zeroValue0
  t3 := Tryz.underlying3
  a3 := Tryz.isAgg3
  z3 := Tryz.sizeOf3
  v3 := Tryz.zeroValue3
  t9 := Tryz.underlying9
  a9 := Tryz.isAgg9
  z9 := Tryz.sizeOf9
  v9 := Tryz.zeroValue9
  t37 := Tryz.underlying160
  a37 := Tryz.isAgg160
  z37 := Tryz.sizeOf160
  v37 := Tryz.zeroValue160
  t70 := Tryz.underlying169
  a70 := Tryz.isAgg169
  z70 := Tryz.sizeOf169
  v70 := Tryz.zeroValue169
  t72 := Tryz.underlying171
  a72 := Tryz.isAgg171
  z72 := Tryz.sizeOf171
  v72 := Tryz.zeroValue171
  t127 := Tryz.underlying184
  a127 := Tryz.isAgg184
  z127 := Tryz.sizeOf184
  v127 := Tryz.zeroValue184 }
theorem Tryz.Builder_Extra_169 : Builder.Extra Tryz.prog Tryz.lays169_ren := {
  sizeBuilder := by kernel_rfl
  liesBuilder := by kernel_rfl
  t5 := Tryz.underlying5
  a5 := Tryz.isAgg5
  z5 := Tryz.sizeOf5
  v5 := Tryz.zeroValue5
  infoByte := by kernel_rfl
  cellsByte := by kernel_rfl
  sizeByte := by kernel_rfl
  neB5 := by decide }
def Tryz.lays106_ren : Go.Shelf.Ren := ⟨fun | 106 => 96 | 213 => 115 | 265 => 129 | n => n, fun | 9 => 9 | 3 => 3 | n => n, fun | n => n⟩
theorem Tryz.lays106 : Go.Proofs.Lays.n106 Tryz.prog Tryz.lays106_ren := {
  mixed := by kernel_rfl
  f106 := Tryz.func96.trans (congrArg some (by kernel_rfl))
  f213 := Tryz.func115.trans (congrArg some (by kernel_rfl))
  f265 := Tryz.func129.trans (congrArg some (by kernel_rfl))
  t3 := Tryz.underlying3
  a3 := Tryz.isAgg3
  z3 := Tryz.sizeOf3
  v3 := Tryz.zeroValue3
  t9 := Tryz.underlying9
  a9 := Tryz.isAgg9
  z9 := Tryz.sizeOf9
  v9 := Tryz.zeroValue9 }
open Go.RowKit in
theorem Tryz.strings_Compare (a b : ByteArray) (w : World) :
    Calls Tryz.prog 96 #[.string a, .string b] w fun e w' => e = .returned (.int .i64 (Lib.compareBytes a.data.toList b.data.toList)) ∧ w' = w := Any.strings_Compare Tryz.lays106 a b w
def Tryz.lays103_ren : Go.Shelf.Ren := ⟨fun | 103 => 86 | 210 => 109 | 206 => 122 | n => n, fun | 9 => 9 | 4 => 4 | 24 => 148 | 3 => 3 | n => n, fun | n => n⟩
theorem Tryz.lays103 : Go.Proofs.Lays.n103 Tryz.prog Tryz.lays103_ren := {
  mixed := by kernel_rfl
  f103 := Tryz.func86.trans (congrArg some (by kernel_rfl))
  f206 := Tryz.func122.trans (congrArg some (by kernel_rfl))
  f210 := Tryz.func109.trans (congrArg some (by kernel_rfl))
  t3 := Tryz.underlying3
  a3 := Tryz.isAgg3
  z3 := Tryz.sizeOf3
  v3 := Tryz.zeroValue3
  t4 := Tryz.underlying4
  a4 := Tryz.isAgg4
  z4 := Tryz.sizeOf4
  v4 := Tryz.zeroValue4
  t9 := Tryz.underlying9
  a9 := Tryz.isAgg9
  z9 := Tryz.sizeOf9
  v9 := Tryz.zeroValue9
  t24 := Tryz.underlying148
  a24 := Tryz.isAgg148
  z24 := Tryz.sizeOf148
  v24 := Tryz.zeroValue148 }
open Go.RowKit in
theorem Tryz.strings_CutPrefix (s p : ByteArray) (w : World) :
    Calls Tryz.prog 86 #[.string s, .string p] w fun e w' => e = .returned (.tuple #[.string ⟨(Lib.trimPrefix s.data.toList p.data.toList).toArray⟩, .bool (Lib.hasPrefix s.data.toList p.data.toList)]) ∧ w' = w := Any.strings_CutPrefix Tryz.lays103 s p w
open Go.RowKit in
theorem Tryz.Builder_String_k (B b : Nat) (l : List UInt8) (w : World) (h : Lib.IsBuilderF 171 5 B b (Lib.byteCells l) w) (h0 : l ≠ []) :
    Calls Tryz.prog 108 #[.pointer (some ⟨b, 0, none⟩)] w fun e w' => e = .returned (.string ⟨l.toArray⟩) ∧ (Lib.IsBuilderF 171 5 B b (Lib.byteCells l) w' ∧ Below B w w' ∧ Lib.OthersKept 5 (some b) w w') := Any.Builder_String_k Tryz.lays169 Tryz.Builder_Extra_169 B b l w h h0
open Go.RowKit in
theorem Tryz.Builder_String_empty_k (B b : Nat) (w : World) (h : Lib.IsBuilderF 171 5 B b [] w) (hBw : B ≤ w.heap.size) :
    Calls Tryz.prog 108 #[.pointer (some ⟨b, 0, none⟩)] w fun e w' => e = .returned (.string ⟨#[]⟩) ∧ (Lib.IsBuilderF 171 5 B b [] w' ∧ Below B w w' ∧ Lib.OthersKept 5 (some b) w w') := Any.Builder_String_empty_k Tryz.lays169 Tryz.Builder_Extra_169 B b w h hBw
open Go.RowKit in
theorem Tryz.Builder_String_any_k (B b : Nat) (l : List UInt8) (w : World) (h : Lib.IsBuilderF 171 5 B b (Lib.byteCells l) w) (hBw : B ≤ w.heap.size) :
    Calls Tryz.prog 108 #[.pointer (some ⟨b, 0, none⟩)] w fun e w' => e = .returned (.string ⟨l.toArray⟩) ∧ (Lib.IsBuilderF 171 5 B b (Lib.byteCells l) w' ∧ Below B w w' ∧ Lib.OthersKept 5 (some b) w w') := Any.Builder_String_any_k Tryz.lays169 Tryz.Builder_Extra_169 B b l w h hBw
def Tryz.lays283_ren : Go.Shelf.Ren := ⟨fun | 283 => 123 | n => n, fun | 3 => 3 | 9 => 9 | 4 => 4 | n => n, fun | n => n⟩
theorem Tryz.lays283 : Go.Proofs.Lays.n283 Tryz.prog Tryz.lays283_ren := {
  mixed := by kernel_rfl
  f283 := Tryz.func123.trans (congrArg some (by kernel_rfl))
  t3 := Tryz.underlying3
  a3 := Tryz.isAgg3
  z3 := Tryz.sizeOf3
  v3 := Tryz.zeroValue3
  t4 := Tryz.underlying4
  a4 := Tryz.isAgg4
  z4 := Tryz.sizeOf4
  v4 := Tryz.zeroValue4
  t9 := Tryz.underlying9
  a9 := Tryz.isAgg9
  z9 := Tryz.sizeOf9
  v9 := Tryz.zeroValue9 }
open Go.Lib in
theorem Tryz.internal_strconv_small (i : Nat) (h : i < 100) (w : World) :
    Calls Tryz.prog 123 #[.int .i64 i] w fun e w' => e = .returned (.string ⟨(Lib.decDigits i).toArray⟩) ∧ w' = w := Any.internal_strconv_small Tryz.lays283 i h w
def Tryz.laysM284_ren : Go.Shelf.Ren := ⟨fun | 284 => 124 | 129 => 139 | 317 => 138 | 318 => 140 | n => n, fun | 53 => 165 | 3 => 3 | 212 => 203 | 0 => 0 | 4 => 4 | 46 => 198 | 5 => 5 | 9 => 9 | n => n, fun | 17 => 1 | n => n⟩
theorem Tryz.laysM284 : Go.Proofs.LaysM.n284 Tryz.prog Tryz.laysM284_ren := {
  mixed := by kernel_rfl
  f129 := Tryz.func139.trans (congrArg some (by kernel_rfl))
  f284 := Tryz.func124.trans (congrArg some (by kernel_rfl))
  f317 := Tryz.func138.trans (congrArg some (by kernel_rfl))
  f318 := Tryz.func140.trans (congrArg some (by kernel_rfl))
  t0 := Tryz.underlying0
  a0 := Tryz.isAgg0
  z0 := Tryz.sizeOf0
  v0 := Tryz.zeroValue0
  t3 := Tryz.underlying3
  a3 := Tryz.isAgg3
  z3 := Tryz.sizeOf3
  v3 := Tryz.zeroValue3
  t4 := Tryz.underlying4
  a4 := Tryz.isAgg4
  z4 := Tryz.sizeOf4
  v4 := Tryz.zeroValue4
  t5 := Tryz.underlying5
  a5 := Tryz.isAgg5
  z5 := Tryz.sizeOf5
  v5 := Tryz.zeroValue5
  t9 := Tryz.underlying9
  a9 := Tryz.isAgg9
  z9 := Tryz.sizeOf9
  v9 := Tryz.zeroValue9
  t46 := Tryz.underlying198
  a46 := Tryz.isAgg198
  z46 := Tryz.sizeOf198
  v46 := Tryz.zeroValue198
  t53 := Tryz.underlying165
  a53 := Tryz.isAgg165
  z53 := Tryz.sizeOf165
  v53 := Tryz.zeroValue165
  t212 := Tryz.underlying203
  a212 := Tryz.isAgg203
  z212 := Tryz.sizeOf203
  v212 := Tryz.zeroValue203
  g17 := by kernel_rfl
  i0 := by kernel_rfl
  i3 := by kernel_rfl
  i4 := by kernel_rfl
  i5 := by kernel_rfl
  i9 := by kernel_rfl
  i46 := by kernel_rfl
  i53 := by kernel_rfl
  i212 := by kernel_rfl
  m17 := by kernel_rfl }
open Go.Lib in
theorem Tryz.internal_strconv_numDigits (u : Nat) (h1 : 1 ≤ u) (h2 : u < 18446744073709551616) (w : World) (htab : Lib.TabIs Tryz.prog w "internal/strconv.uint64pow10" .u64 Lib.pow10Tab) :
    Calls Tryz.prog 124 #[.int .u64 u] w fun e w' => e = .returned (.int .i64 (Lib.nDigits u)) ∧ w' = w := Any.internal_strconv_numDigits Tryz.laysM284 u h1 h2 w htab
def Tryz.lays285_ren : Go.Shelf.Ren := ⟨fun | 285 => 125 | n => n, fun | 37 => 160 | 53 => 165 | 3 => 3 | 4 => 4 | 51 => 204 | 9 => 9 | 5 => 5 | 0 => 0 | n => n, fun | n => n⟩
theorem Tryz.lays285 : Go.Proofs.Lays.n285 Tryz.prog Tryz.lays285_ren := {
  mixed := by kernel_rfl
  f285 := Tryz.func125.trans (congrArg some (by kernel_rfl))
  t0 := Tryz.underlying0
  a0 := Tryz.isAgg0
  z0 := Tryz.sizeOf0
  v0 := Tryz.zeroValue0
  t3 := Tryz.underlying3
  a3 := Tryz.isAgg3
  z3 := Tryz.sizeOf3
  v3 := Tryz.zeroValue3
  t4 := Tryz.underlying4
  a4 := Tryz.isAgg4
  z4 := Tryz.sizeOf4
  v4 := Tryz.zeroValue4
  t5 := Tryz.underlying5
  a5 := Tryz.isAgg5
  z5 := Tryz.sizeOf5
  v5 := Tryz.zeroValue5
  t9 := Tryz.underlying9
  a9 := Tryz.isAgg9
  z9 := Tryz.sizeOf9
  v9 := Tryz.zeroValue9
  t37 := Tryz.underlying160
  a37 := Tryz.isAgg160
  z37 := Tryz.sizeOf160
  v37 := Tryz.zeroValue160
  t51 := Tryz.underlying204
  a51 := Tryz.isAgg204
  z51 := Tryz.sizeOf204
  v51 := Tryz.zeroValue204
  t53 := Tryz.underlying165
  a53 := Tryz.isAgg165
  z53 := Tryz.sizeOf165
  v53 := Tryz.zeroValue165 }
open Go.RowKit Go.Sort Go.Lib in
theorem Tryz.internal_strconv_formatBase10 (blk off cap : Nat) (u : Nat) (d : Array UInt8) (w : World) (hH : Holds (fun (b : UInt8) => Value.int .u8 (b.toNat : Int)) w blk off d) (hu : u < 10 ^ d.size) (hu64 : u < 18446744073709551616) (hsz : d.size < 4611686018427387904) :
    Calls Tryz.prog 125 #[.slice (some ⟨blk, off, none⟩) d.size cap, .int .u64 u] w fun e w' =>
      e = .returned (.tuple #[]) ∧ ∃ (n v' : Nat) (dk : Array UInt8), w' = (putRow (fun (b : UInt8) => Value.int .u8 (b.toNat : Int)) w blk off dk).drewN n ∧ FmtInv d.size u 0 v' dk := Any.internal_strconv_formatBase10 Tryz.lays285 blk off cap u d w hH hu hu64 hsz
def Tryz.laysM171_ren : Go.Shelf.Ren := ⟨fun | 171 => 54 | 243 => 87 | 246 => 110 | 283 => 123 | 284 => 124 | 285 => 125 | 286 => 126 | 129 => 139 | 317 => 138 | 318 => 140 | 319 => 141 | 320 => 142 | 337 => 149 | 338 => 150 | n => n, fun | 3 => 3 | 9 => 9 | 2 => 2 | 4 => 4 | 171 => 185 | 0 => 0 | 53 => 165 | 37 => 160 | 5 => 5 | 173 => 188 | 212 => 203 | 51 => 204 | 20 => 20 | 213 => 205 | 46 => 198 | 232 => 219 | 233 => 220 | n => n, fun | 17 => 1 | 18 => 4 | 19 => 5 | n => n⟩
theorem Tryz.laysM171 : Go.Proofs.LaysM.n171 Tryz.prog Tryz.laysM171_ren := {
  mixed := by kernel_rfl
  f129 := Tryz.func139.trans (congrArg some (by kernel_rfl))
  f171 := Tryz.func54.trans (congrArg some (by kernel_rfl))
  f243 := Tryz.func87.trans (congrArg some (by kernel_rfl))
  f246 := Tryz.func110.trans (congrArg some (by kernel_rfl))
  f283 := Tryz.func123.trans (congrArg some (by kernel_rfl))
  f284 := Tryz.func124.trans (congrArg some (by kernel_rfl))
  f285 := Tryz.func125.trans (congrArg some (by kernel_rfl))
  f286 := Tryz.func126.trans (congrArg some (by kernel_rfl))
  f317 := Tryz.func138.trans (congrArg some (by kernel_rfl))
  f318 := Tryz.func140.trans (congrArg some (by kernel_rfl))
  f319 := Tryz.func141.trans (congrArg some (by kernel_rfl))
  f320 := Tryz.func142.trans (congrArg some (by kernel_rfl))
  f337 := Tryz.func149.trans (congrArg some (by kernel_rfl))
  f338 := Tryz.func150.trans (congrArg some (by kernel_rfl))
  t0 := Tryz.underlying0
  a0 := Tryz.isAgg0
  z0 := Tryz.sizeOf0
  v0 := Tryz.zeroValue0
  t2 := Tryz.underlying2
  a2 := Tryz.isAgg2
  z2 := Tryz.sizeOf2
  v2 := Tryz.zeroValue2
  t3 := Tryz.underlying3
  a3 := Tryz.isAgg3
  z3 := Tryz.sizeOf3
  v3 := Tryz.zeroValue3
  t4 := Tryz.underlying4
  a4 := Tryz.isAgg4
  z4 := Tryz.sizeOf4
  v4 := Tryz.zeroValue4
  t5 := Tryz.underlying5
  a5 := Tryz.isAgg5
  z5 := Tryz.sizeOf5
  v5 := Tryz.zeroValue5
  t9 := Tryz.underlying9
  a9 := Tryz.isAgg9
  z9 := Tryz.sizeOf9
  v9 := Tryz.zeroValue9
  t20 := Tryz.underlying20
  a20 := Tryz.isAgg20
  z20 := Tryz.sizeOf20
  v20 := Tryz.zeroValue20
  t37 := Tryz.underlying160
  a37 := Tryz.isAgg160
  z37 := Tryz.sizeOf160
  v37 := Tryz.zeroValue160
  t46 := Tryz.underlying198
  a46 := Tryz.isAgg198
  z46 := Tryz.sizeOf198
  v46 := Tryz.zeroValue198
  t51 := Tryz.underlying204
  a51 := Tryz.isAgg204
  z51 := Tryz.sizeOf204
  v51 := Tryz.zeroValue204
  t53 := Tryz.underlying165
  a53 := Tryz.isAgg165
  z53 := Tryz.sizeOf165
  v53 := Tryz.zeroValue165
  t171 := Tryz.underlying185
  a171 := Tryz.isAgg185
  z171 := Tryz.sizeOf185
  v171 := Tryz.zeroValue185
  t173 := Tryz.underlying188
  a173 := Tryz.isAgg188
  z173 := Tryz.sizeOf188
  v173 := Tryz.zeroValue188
  t212 := Tryz.underlying203
  a212 := Tryz.isAgg203
  z212 := Tryz.sizeOf203
  v212 := Tryz.zeroValue203
  t213 := Tryz.underlying205
  a213 := Tryz.isAgg205
  z213 := Tryz.sizeOf205
  t232 := Tryz.underlying219
  a232 := Tryz.isAgg219
  z232 := Tryz.sizeOf219
  v232 := Tryz.zeroValue219
  t233 := Tryz.underlying220
  a233 := Tryz.isAgg220
  z233 := Tryz.sizeOf220
  v233 := Tryz.zeroValue220
  g17 := by kernel_rfl
  g18 := by kernel_rfl
  g19 := by kernel_rfl
  i0 := by kernel_rfl
  i2 := by kernel_rfl
  i3 := by kernel_rfl
  i4 := by kernel_rfl
  i5 := by kernel_rfl
  i9 := by kernel_rfl
  i20 := by kernel_rfl
  i37 := by kernel_rfl
  i46 := by kernel_rfl
  i51 := by kernel_rfl
  i53 := by kernel_rfl
  i171 := by kernel_rfl
  i173 := by kernel_rfl
  i212 := by kernel_rfl
  i232 := by kernel_rfl
  i233 := by kernel_rfl
  m17 := by kernel_rfl
  m18 := by kernel_rfl
  m19 := by kernel_rfl }
open Go.RowKit Go.Sort Go.Lib in
theorem Tryz.strconv_Itoa (n : Int) (h0 : -9223372036854775808 ≤ n) (h1 : n ≤ 9223372036854775807) (w : World) (htab : Lib.TabIs Tryz.prog w "internal/strconv.uint64pow10" .u64 Lib.pow10Tab) :
    Calls Tryz.prog 54 #[.int .i64 n] w fun e w' => e = .returned (.string ⟨(Lib.itoa n).toArray⟩) ∧ ∃ k os, w' = grow (w.drewN k) os := Any.strconv_Itoa Tryz.laysM171 n h0 h1 w htab
def Tryz.laysC172_ren : Go.Shelf.Ren := ⟨fun | 172 => 101 | 244 => 116 | 245 => 117 | 247 => 130 | 279 => 131 | 280 => 132 | 281 => 133 | 282 => 134 | 287 => 118 | 316 => 147 | 171 => 54 | 205 => 148 | 321 => 135 | 322 => 136 | 243 => 87 | 246 => 110 | 283 => 123 | 284 => 124 | 285 => 125 | 286 => 126 | 129 => 139 | 317 => 138 | 318 => 140 | 319 => 141 | 320 => 142 | 337 => 149 | 338 => 150 | n => n, fun | 9 => 9 | 3 => 3 | 75 => 162 | 76 => 163 | 4 => 4 | 5 => 5 | 167 => 191 | 37 => 160 | 0 => 0 | 85 => 192 | 2 => 2 | 168 => 194 | 53 => 165 | 175 => 166 | 46 => 198 | 210 => 211 | 127 => 184 | 145 => 218 | 143 => 216 | 21 => 21 | 171 => 185 | 173 => 188 | 212 => 203 | 51 => 204 | 20 => 20 | 213 => 205 | 232 => 219 | 233 => 220 | 80 => 177 | n => n, fun | 15 => 2 | 16 => 3 | 17 => 1 | 18 => 4 | 19 => 5 | n => n⟩
theorem Tryz.laysC172 : Go.Proofs.LaysC.n172 Tryz.prog Tryz.laysC172_ren := {
  mixed := by kernel_rfl
  f129 := Tryz.func139.trans (congrArg some (by kernel_rfl))
  f171 := Tryz.func54.trans (congrArg some (by kernel_rfl))
  f172 := Tryz.func101.trans (congrArg some (by kernel_rfl))
  f205 := Tryz.func148.trans (congrArg some (by kernel_rfl))
  f243 := Tryz.func87.trans (congrArg some (by kernel_rfl))
  f244 := Tryz.func116.trans (congrArg some (by kernel_rfl))
  f245 := Tryz.func117.trans (congrArg some (by kernel_rfl))
  f246 := Tryz.func110.trans (congrArg some (by kernel_rfl))
  f247 := Tryz.func130.trans (congrArg some (by kernel_rfl))
  f279 := Tryz.func131.trans (congrArg some (by kernel_rfl))
  f280 := Tryz.func132.trans (congrArg some (by kernel_rfl))
  f281 := Tryz.func133.trans (congrArg some (by kernel_rfl))
  f282 := Tryz.func134.trans (congrArg some (by kernel_rfl))
  f283 := Tryz.func123.trans (congrArg some (by kernel_rfl))
  f284 := Tryz.func124.trans (congrArg some (by kernel_rfl))
  f285 := Tryz.func125.trans (congrArg some (by kernel_rfl))
  f286 := Tryz.func126.trans (congrArg some (by kernel_rfl))
  f287 := Tryz.func118.trans (congrArg some (by kernel_rfl))
  f316 := Tryz.func147.trans (congrArg some (by kernel_rfl))
  f317 := Tryz.func138.trans (congrArg some (by kernel_rfl))
  f318 := Tryz.func140.trans (congrArg some (by kernel_rfl))
  f319 := Tryz.func141.trans (congrArg some (by kernel_rfl))
  f320 := Tryz.func142.trans (congrArg some (by kernel_rfl))
  f321 := Tryz.func135.trans (congrArg some (by kernel_rfl))
  f322 := Tryz.func136.trans (congrArg some (by kernel_rfl))
  f337 := Tryz.func149.trans (congrArg some (by kernel_rfl))
  f338 := Tryz.func150.trans (congrArg some (by kernel_rfl))
  t0 := Tryz.underlying0
  a0 := Tryz.isAgg0
  z0 := Tryz.sizeOf0
  v0 := Tryz.zeroValue0
  t2 := Tryz.underlying2
  a2 := Tryz.isAgg2
  z2 := Tryz.sizeOf2
  v2 := Tryz.zeroValue2
  t3 := Tryz.underlying3
  a3 := Tryz.isAgg3
  z3 := Tryz.sizeOf3
  v3 := Tryz.zeroValue3
  t4 := Tryz.underlying4
  a4 := Tryz.isAgg4
  z4 := Tryz.sizeOf4
  v4 := Tryz.zeroValue4
  t5 := Tryz.underlying5
  a5 := Tryz.isAgg5
  z5 := Tryz.sizeOf5
  v5 := Tryz.zeroValue5
  t9 := Tryz.underlying9
  a9 := Tryz.isAgg9
  z9 := Tryz.sizeOf9
  v9 := Tryz.zeroValue9
  t20 := Tryz.underlying20
  a20 := Tryz.isAgg20
  z20 := Tryz.sizeOf20
  v20 := Tryz.zeroValue20
  t21 := Tryz.underlying21
  a21 := Tryz.isAgg21
  z21 := Tryz.sizeOf21
  v21 := Tryz.zeroValue21
  t37 := Tryz.underlying160
  a37 := Tryz.isAgg160
  z37 := Tryz.sizeOf160
  v37 := Tryz.zeroValue160
  t46 := Tryz.underlying198
  a46 := Tryz.isAgg198
  z46 := Tryz.sizeOf198
  v46 := Tryz.zeroValue198
  t51 := Tryz.underlying204
  a51 := Tryz.isAgg204
  z51 := Tryz.sizeOf204
  v51 := Tryz.zeroValue204
  t53 := Tryz.underlying165
  a53 := Tryz.isAgg165
  z53 := Tryz.sizeOf165
  v53 := Tryz.zeroValue165
  t75 := Tryz.underlying162
  a75 := Tryz.isAgg162
  z75 := Tryz.sizeOf162
  v75 := Tryz.zeroValue162
  t76 := Tryz.underlying163
  a76 := Tryz.isAgg163
  z76 := Tryz.sizeOf163
  v76 := Tryz.zeroValue163
  t85 := Tryz.underlying192
  a85 := Tryz.isAgg192
  z85 := Tryz.sizeOf192
  v85 := Tryz.zeroValue192
  t127 := Tryz.underlying184
  a127 := Tryz.isAgg184
  z127 := Tryz.sizeOf184
  v127 := Tryz.zeroValue184
  t143 := Tryz.underlying216
  a143 := Tryz.isAgg216
  z143 := Tryz.sizeOf216
  v143 := Tryz.zeroValue216
  t145 := Tryz.underlying218
  a145 := Tryz.isAgg218
  z145 := Tryz.sizeOf218
  v145 := Tryz.zeroValue218
  t167 := Tryz.underlying191
  a167 := Tryz.isAgg191
  z167 := Tryz.sizeOf191
  v167 := Tryz.zeroValue191
  t168 := Tryz.underlying194
  a168 := Tryz.isAgg194
  z168 := Tryz.sizeOf194
  v168 := Tryz.zeroValue194
  t171 := Tryz.underlying185
  a171 := Tryz.isAgg185
  z171 := Tryz.sizeOf185
  v171 := Tryz.zeroValue185
  t173 := Tryz.underlying188
  a173 := Tryz.isAgg188
  z173 := Tryz.sizeOf188
  v173 := Tryz.zeroValue188
  t175 := Tryz.underlying166
  a175 := Tryz.isAgg166
  z175 := Tryz.sizeOf166
  v175 := Tryz.zeroValue166
  t210 := Tryz.underlying211
  a210 := Tryz.isAgg211
  z210 := Tryz.sizeOf211
  v210 := Tryz.zeroValue211
  t212 := Tryz.underlying203
  a212 := Tryz.isAgg203
  z212 := Tryz.sizeOf203
  v212 := Tryz.zeroValue203
  t213 := Tryz.underlying205
  a213 := Tryz.isAgg205
  z213 := Tryz.sizeOf205
  t232 := Tryz.underlying219
  a232 := Tryz.isAgg219
  z232 := Tryz.sizeOf219
  v232 := Tryz.zeroValue219
  t233 := Tryz.underlying220
  a233 := Tryz.isAgg220
  z233 := Tryz.sizeOf220
  v233 := Tryz.zeroValue220
  g15 := by kernel_rfl
  g16 := by kernel_rfl
  g17 := by kernel_rfl
  g18 := by kernel_rfl
  g19 := by kernel_rfl
  t80 := Tryz.underlying177
  a80 := Tryz.isAgg177
  z80 := Tryz.sizeOf177
  v80 := Tryz.zeroValue177
  i0 := by kernel_rfl
  i2 := by kernel_rfl
  i3 := by kernel_rfl
  i4 := by kernel_rfl
  i5 := by kernel_rfl
  i9 := by kernel_rfl
  i20 := by kernel_rfl
  i21 := by kernel_rfl
  i37 := by kernel_rfl
  i46 := by kernel_rfl
  i51 := by kernel_rfl
  i53 := by kernel_rfl
  i75 := by kernel_rfl
  i76 := by kernel_rfl
  i80 := by kernel_rfl
  i85 := by kernel_rfl
  i127 := by kernel_rfl
  i143 := by kernel_rfl
  i145 := by kernel_rfl
  i167 := by kernel_rfl
  i168 := by kernel_rfl
  i171 := by kernel_rfl
  i173 := by kernel_rfl
  i175 := by kernel_rfl
  i210 := by kernel_rfl
  i212 := by kernel_rfl
  i232 := by kernel_rfl
  i233 := by kernel_rfl
  m15 := by kernel_rfl
  m16 := by kernel_rfl
  m17 := by kernel_rfl
  m18 := by kernel_rfl
  m19 := by kernel_rfl
  c0 := by kernel_rfl
  c2 := by kernel_rfl
  c3 := by kernel_rfl
  c4 := by kernel_rfl
  c5 := by kernel_rfl
  c9 := by kernel_rfl
  c20 := by kernel_rfl
  c21 := by kernel_rfl
  c37 := by kernel_rfl
  c46 := by kernel_rfl
  c51 := by kernel_rfl
  c53 := by kernel_rfl
  c75 := by kernel_rfl
  c76 := by kernel_rfl
  c80 := by kernel_rfl
  c85 := by kernel_rfl
  c127 := by kernel_rfl
  c143 := by kernel_rfl
  c145 := by kernel_rfl
  c167 := by kernel_rfl
  c168 := by kernel_rfl
  c171 := by kernel_rfl
  c173 := by kernel_rfl
  c175 := by kernel_rfl
  c210 := by kernel_rfl
  c212 := by kernel_rfl
  c213 := by kernel_rfl
  c232 := by kernel_rfl
  c233 := by kernel_rfl }
open Go.RowKit in
theorem Tryz.strconv_Atoi_ok (s : ByteArray) (hmax : s.size ≤ 9223372036854775806) (v : Int) (h : Lib.atoiAll s.data.toList = .ok v) (w : World) :
    Calls Tryz.prog 101 #[.string s] w fun e w' => e = .returned (.tuple #[.int .i64 v, .nilIface]) ∧ (w' = w ∨ ∃ t, w' = Lib.bytesWorld w 5 t) := Any.strconv_Atoi_ok Tryz.laysC172 s hmax v h w
def Tryz.laysPu14_ren : Go.Shelf.Ren := ⟨fun | 14 => 102 | 16 => 118 | 17 => 117 | 19 => 135 | 20 => 136 | 21 => 131 | 22 => 132 | 23 => 133 | 24 => 134 | 25 => 147 | 27 => 54 | 26 => 148 | 28 => 87 | 29 => 110 | 30 => 123 | 31 => 124 | 32 => 125 | 33 => 126 | 35 => 139 | 34 => 138 | 36 => 140 | 37 => 141 | 38 => 142 | 39 => 149 | 40 => 150 | n => n, fun | 9 => 9 | 3 => 3 | 22 => 165 | 24 => 162 | 25 => 166 | 4 => 4 | 34 => 191 | 5 => 5 | 36 => 198 | 37 => 160 | 0 => 0 | 39 => 194 | 21 => 21 | 44 => 211 | 47 => 184 | 50 => 218 | 48 => 216 | 2 => 2 | 52 => 185 | 55 => 188 | 59 => 203 | 60 => 204 | 20 => 20 | 61 => 205 | 65 => 219 | 66 => 220 | 67 => 177 | n => n, fun | 0 => 2 | 1 => 3 | 2 => 1 | 3 => 4 | 4 => 5 | n => n⟩
theorem Tryz.laysPu14 : Go.Proofs.LaysPu.n14 Tryz.prog Tryz.laysPu14_ren := {
  mixed := by kernel_rfl
  f14 := Tryz.func102.trans (congrArg some (by kernel_rfl))
  f16 := Tryz.func118.trans (congrArg some (by kernel_rfl))
  f17 := Tryz.func117.trans (congrArg some (by kernel_rfl))
  f19 := Tryz.func135.trans (congrArg some (by kernel_rfl))
  f20 := Tryz.func136.trans (congrArg some (by kernel_rfl))
  f21 := Tryz.func131.trans (congrArg some (by kernel_rfl))
  f22 := Tryz.func132.trans (congrArg some (by kernel_rfl))
  f23 := Tryz.func133.trans (congrArg some (by kernel_rfl))
  f24 := Tryz.func134.trans (congrArg some (by kernel_rfl))
  f25 := Tryz.func147.trans (congrArg some (by kernel_rfl))
  f26 := Tryz.func148.trans (congrArg some (by kernel_rfl))
  f27 := Tryz.func54.trans (congrArg some (by kernel_rfl))
  f28 := Tryz.func87.trans (congrArg some (by kernel_rfl))
  f29 := Tryz.func110.trans (congrArg some (by kernel_rfl))
  f30 := Tryz.func123.trans (congrArg some (by kernel_rfl))
  f31 := Tryz.func124.trans (congrArg some (by kernel_rfl))
  f32 := Tryz.func125.trans (congrArg some (by kernel_rfl))
  f33 := Tryz.func126.trans (congrArg some (by kernel_rfl))
  f34 := Tryz.func138.trans (congrArg some (by kernel_rfl))
  f35 := Tryz.func139.trans (congrArg some (by kernel_rfl))
  f36 := Tryz.func140.trans (congrArg some (by kernel_rfl))
  f37 := Tryz.func141.trans (congrArg some (by kernel_rfl))
  f38 := Tryz.func142.trans (congrArg some (by kernel_rfl))
  f39 := Tryz.func149.trans (congrArg some (by kernel_rfl))
  f40 := Tryz.func150.trans (congrArg some (by kernel_rfl))
  t0 := Tryz.underlying0
  a0 := Tryz.isAgg0
  z0 := Tryz.sizeOf0
  v0 := Tryz.zeroValue0
  i0 := by kernel_rfl
  t2 := Tryz.underlying2
  a2 := Tryz.isAgg2
  z2 := Tryz.sizeOf2
  v2 := Tryz.zeroValue2
  i2 := by kernel_rfl
  t3 := Tryz.underlying3
  a3 := Tryz.isAgg3
  z3 := Tryz.sizeOf3
  v3 := Tryz.zeroValue3
  i3 := by kernel_rfl
  t4 := Tryz.underlying4
  a4 := Tryz.isAgg4
  z4 := Tryz.sizeOf4
  v4 := Tryz.zeroValue4
  i4 := by kernel_rfl
  t5 := Tryz.underlying5
  a5 := Tryz.isAgg5
  z5 := Tryz.sizeOf5
  v5 := Tryz.zeroValue5
  i5 := by kernel_rfl
  t9 := Tryz.underlying9
  a9 := Tryz.isAgg9
  z9 := Tryz.sizeOf9
  v9 := Tryz.zeroValue9
  i9 := by kernel_rfl
  t20 := Tryz.underlying20
  a20 := Tryz.isAgg20
  z20 := Tryz.sizeOf20
  v20 := Tryz.zeroValue20
  i20 := by kernel_rfl
  t21 := Tryz.underlying21
  a21 := Tryz.isAgg21
  z21 := Tryz.sizeOf21
  v21 := Tryz.zeroValue21
  i21 := by kernel_rfl
  t22 := Tryz.underlying165
  a22 := Tryz.isAgg165
  z22 := Tryz.sizeOf165
  v22 := Tryz.zeroValue165
  i22 := by kernel_rfl
  t24 := Tryz.underlying162
  a24 := Tryz.isAgg162
  z24 := Tryz.sizeOf162
  v24 := Tryz.zeroValue162
  i24 := by kernel_rfl
  t25 := Tryz.underlying166
  a25 := Tryz.isAgg166
  z25 := Tryz.sizeOf166
  v25 := Tryz.zeroValue166
  i25 := by kernel_rfl
  t34 := Tryz.underlying191
  a34 := Tryz.isAgg191
  z34 := Tryz.sizeOf191
  v34 := Tryz.zeroValue191
  i34 := by kernel_rfl
  c34 := by kernel_rfl
  t36 := Tryz.underlying198
  a36 := Tryz.isAgg198
  z36 := Tryz.sizeOf198
  v36 := Tryz.zeroValue198
  i36 := by kernel_rfl
  t37 := Tryz.underlying160
  a37 := Tryz.isAgg160
  z37 := Tryz.sizeOf160
  v37 := Tryz.zeroValue160
  i37 := by kernel_rfl
  t39 := Tryz.underlying194
  a39 := Tryz.isAgg194
  z39 := Tryz.sizeOf194
  v39 := Tryz.zeroValue194
  i39 := by kernel_rfl
  t44 := Tryz.underlying211
  a44 := Tryz.isAgg211
  z44 := Tryz.sizeOf211
  v44 := Tryz.zeroValue211
  i44 := by kernel_rfl
  t47 := Tryz.underlying184
  a47 := Tryz.isAgg184
  z47 := Tryz.sizeOf184
  v47 := Tryz.zeroValue184
  i47 := by kernel_rfl
  t48 := Tryz.underlying216
  a48 := Tryz.isAgg216
  z48 := Tryz.sizeOf216
  v48 := Tryz.zeroValue216
  i48 := by kernel_rfl
  t50 := Tryz.underlying218
  a50 := Tryz.isAgg218
  z50 := Tryz.sizeOf218
  v50 := Tryz.zeroValue218
  i50 := by kernel_rfl
  t52 := Tryz.underlying185
  a52 := Tryz.isAgg185
  z52 := Tryz.sizeOf185
  v52 := Tryz.zeroValue185
  i52 := by kernel_rfl
  t55 := Tryz.underlying188
  a55 := Tryz.isAgg188
  z55 := Tryz.sizeOf188
  v55 := Tryz.zeroValue188
  i55 := by kernel_rfl
  t59 := Tryz.underlying203
  a59 := Tryz.isAgg203
  z59 := Tryz.sizeOf203
  v59 := Tryz.zeroValue203
  i59 := by kernel_rfl
  t60 := Tryz.underlying204
  a60 := Tryz.isAgg204
  z60 := Tryz.sizeOf204
  v60 := Tryz.zeroValue204
  i60 := by kernel_rfl
  t61 := Tryz.underlying205
  a61 := Tryz.isAgg205
  z61 := Tryz.sizeOf205
  t65 := Tryz.underlying219
  a65 := Tryz.isAgg219
  z65 := Tryz.sizeOf219
  v65 := Tryz.zeroValue219
  i65 := by kernel_rfl
  t66 := Tryz.underlying220
  a66 := Tryz.isAgg220
  z66 := Tryz.sizeOf220
  v66 := Tryz.zeroValue220
  i66 := by kernel_rfl
  t67 := Tryz.underlying177
  a67 := Tryz.isAgg177
  z67 := Tryz.sizeOf177
  v67 := Tryz.zeroValue177
  i67 := by kernel_rfl
  g0 := by kernel_rfl
  m0 := by kernel_rfl
  g1 := by kernel_rfl
  m1 := by kernel_rfl
  g2 := by kernel_rfl
  m2 := by kernel_rfl
  g3 := by kernel_rfl
  m3 := by kernel_rfl
  g4 := by kernel_rfl
  m4 := by kernel_rfl }
open Go.RowKit in
theorem Tryz.strconv_ParseUint_10_at64_ok (s : ByteArray) (hmax : s.size ≤ 9223372036854775806) (u : Nat) (h : Lib.parseUintB 64 s.data.toList = .ok u) (w : World) :
    Calls Tryz.prog 102 #[.string s, .int .i64 10, .int .i64 64] w fun e w' => e = .returned (.tuple #[.int .u64 u, .nilIface]) ∧ (w' = w ∨ w' = Lib.bytesWorld w 5 s) := Any.strconv_ParseUint_10_at64_ok Tryz.laysPu14 s hmax u h w
def Tryz.lays145_ren : Go.Shelf.Ren := ⟨fun | 145 => 88 | 220 => 111 | 219 => 127 | 217 => 143 | 225 => 144 | 224 => 145 | 267 => 146 | 266 => 151 | 314 => 152 | n => n, fun | 9 => 9 | 4 => 4 | 59 => 150 | 3 => 3 | 5 => 5 | 46 => 198 | 146 => 214 | 51 => 204 | n => n, fun | 1 => 0 | n => n⟩
theorem Tryz.lays145 : Go.Proofs.Lays.n145 Tryz.prog Tryz.lays145_ren := {
  mixed := by kernel_rfl
  f145 := Tryz.func88.trans (congrArg some (by kernel_rfl))
  f217 := Tryz.func143.trans (congrArg some (by kernel_rfl))
  f219 := Tryz.func127.trans (congrArg some (by kernel_rfl))
  f220 := Tryz.func111.trans (congrArg some (by kernel_rfl))
  f224 := Tryz.func145.trans (congrArg some (by kernel_rfl))
  f225 := Tryz.func144.trans (congrArg some (by kernel_rfl))
  f266 := Tryz.func151.trans (congrArg some (by kernel_rfl))
  f267 := Tryz.func146.trans (congrArg some (by kernel_rfl))
  f314 := Tryz.func152.trans (congrArg some (by kernel_rfl))
  t3 := Tryz.underlying3
  a3 := Tryz.isAgg3
  z3 := Tryz.sizeOf3
  v3 := Tryz.zeroValue3
  t4 := Tryz.underlying4
  a4 := Tryz.isAgg4
  z4 := Tryz.sizeOf4
  v4 := Tryz.zeroValue4
  t5 := Tryz.underlying5
  a5 := Tryz.isAgg5
  z5 := Tryz.sizeOf5
  v5 := Tryz.zeroValue5
  t9 := Tryz.underlying9
  a9 := Tryz.isAgg9
  z9 := Tryz.sizeOf9
  v9 := Tryz.zeroValue9
  t46 := Tryz.underlying198
  a46 := Tryz.isAgg198
  z46 := Tryz.sizeOf198
  v46 := Tryz.zeroValue198
  t51 := Tryz.underlying204
  a51 := Tryz.isAgg204
  z51 := Tryz.sizeOf204
  v51 := Tryz.zeroValue204
  t59 := Tryz.underlying150
  a59 := Tryz.isAgg150
  z59 := Tryz.sizeOf150
  v59 := Tryz.zeroValue150
  t146 := Tryz.underlying214
  a146 := Tryz.isAgg214
  z146 := Tryz.sizeOf214
  v146 := Tryz.zeroValue214
  g1 := by kernel_rfl }
open Go.RowKit Go.Lib in
theorem Tryz.strings_Cut (s sep : ByteArray) (m : Int) (w : World) (hs : s.size < 4294967281) (hm : w.cell? ⟨0, 0, none⟩ = some (.int .i64 m)) :
    Calls Tryz.prog 88 #[.string s, .string sep] w fun e w' => e = .returned (.tuple #[.string ⟨(Lib.cut s.data.toList sep.data.toList).1.toArray⟩, .string ⟨(Lib.cut s.data.toList sep.data.toList).2.1.toArray⟩, .bool (Lib.cut s.data.toList sep.data.toList).2.2]) ∧ ∃ n, w' = w.drewN n := Any.strings_Cut Tryz.lays145 s sep m w hs hm
def Tryz.lays99_ren : Go.Shelf.Ren := ⟨fun | 99 => 112 | 206 => 122 | n => n, fun | 9 => 9 | 4 => 4 | 3 => 3 | n => n, fun | n => n⟩
theorem Tryz.lays99 : Go.Proofs.Lays.n99 Tryz.prog Tryz.lays99_ren := {
  mixed := by kernel_rfl
  f99 := Tryz.func112.trans (congrArg some (by kernel_rfl))
  f206 := Tryz.func122.trans (congrArg some (by kernel_rfl))
  t3 := Tryz.underlying3
  a3 := Tryz.isAgg3
  z3 := Tryz.sizeOf3
  v3 := Tryz.zeroValue3
  t4 := Tryz.underlying4
  a4 := Tryz.isAgg4
  z4 := Tryz.sizeOf4
  v4 := Tryz.zeroValue4
  t9 := Tryz.underlying9
  a9 := Tryz.isAgg9
  z9 := Tryz.sizeOf9
  v9 := Tryz.zeroValue9 }
open Go.RowKit Go.Lib in
theorem Tryz.strings_HasPrefix (s p : ByteArray) (w : World) :
    Calls Tryz.prog 112 #[.string s, .string p] w fun e w' => e = .returned (.bool (Lib.hasPrefix s.data.toList p.data.toList)) ∧ w' = w := Any.strings_HasPrefix Tryz.lays99 s p w
def Tryz.lays101_ren : Go.Shelf.Ren := ⟨fun | 101 => 95 | 208 => 114 | 206 => 122 | n => n, fun | 9 => 9 | 4 => 4 | 3 => 3 | n => n, fun | n => n⟩
theorem Tryz.lays101 : Go.Proofs.Lays.n101 Tryz.prog Tryz.lays101_ren := {
  mixed := by kernel_rfl
  f101 := Tryz.func95.trans (congrArg some (by kernel_rfl))
  f206 := Tryz.func122.trans (congrArg some (by kernel_rfl))
  f208 := Tryz.func114.trans (congrArg some (by kernel_rfl))
  t3 := Tryz.underlying3
  a3 := Tryz.isAgg3
  z3 := Tryz.sizeOf3
  v3 := Tryz.zeroValue3
  t4 := Tryz.underlying4
  a4 := Tryz.isAgg4
  z4 := Tryz.sizeOf4
  v4 := Tryz.zeroValue4
  t9 := Tryz.underlying9
  a9 := Tryz.isAgg9
  z9 := Tryz.sizeOf9
  v9 := Tryz.zeroValue9 }
open Go.RowKit Go.Lib in
theorem Tryz.strings_TrimPrefix (s p : ByteArray) (w : World) :
    Calls Tryz.prog 95 #[.string s, .string p] w fun e w' => e = .returned (.string ⟨(Lib.trimPrefix s.data.toList p.data.toList).toArray⟩) ∧ w' = w := Any.strings_TrimPrefix Tryz.lays101 s p w
end Go.Proofs
