/- The walks of strings.IndexRune in the text "/." at a rune that is no ASCII, and of strings.IndexAny for "/." in any short text. -/
import Derived.Test.YtfhmgkicccfghaaGreatDoorShelf
import Derived.Test.YtfhmgkicccfghaaGreatDoorGPlain
import Derived.Laws.Runes
import Derived.Laws.RangeAny
import Derived.Lib.IndexAny
import Derived.Lib.OthersKept
import Derived.Deep.LoopGhost
import Derived.BigQuiet
import Derived.Deep.QuietTactic
import Derived.WalkKit
import Derived.Lib.Hide
import Derived.LoopTactic
import Derived.Below
namespace Go.Proofs.YtfhmgkicccfghaaGreatDoor
set_option linter.all false
open Go.RowKit

theorem still_after {f : FuncId} {args : Array Value} {w : World} {k l : Nat} {r : Value} (c : ∀ W, Calls Tryz.prog f args W fun e w' => e = .returned r ∧ w' = W) :
  Calls Tryz.prog f args (w.drewN (k + l)) fun e w' => e = .returned r ∧ ∃ m, w' = w.drewN (k + m) :=
 (c _).mono fun _ _ hw => ⟨hw.1, l, hw.2⟩

theorem encode_high (c : Int) (h0 : 128 ≤ c) : (Utf8.encode c).size = 2 ∧ (∀ h : 1 < (Utf8.encode c).size, 128 ≤ ((Utf8.encode c)[1]'h).toNat) ∨ 3 ≤ (Utf8.encode c).size ∧ (Utf8.encode c).size ≤ 4 := by
 unfold Utf8.encode
 have hn : ¬ (if Utf8.valid c = true then c.toNat else Utf8.runeError) < 128 := by
  split
  ·omega
  ·decide
 generalize (if Utf8.valid c = true then c.toNat else Utf8.runeError) = r at *
 simp only [hn, if_false]
 by_cases h2 : r < 2048
 ·left
  simp only [h2, if_true]
  refine ⟨rfl, fun _ => ?_⟩
  show 128 ≤ (UInt8.ofNat (128 + r % 64)).toNat
  simp [UInt8.toNat_ofNat']
  omega
 ·right
  simp only [h2, if_false]
  split
  ·exact ⟨by show 3 ≤ 3; omega, by show 3 ≤ 4; omega⟩
  ·exact ⟨by show 3 ≤ 4; omega, by show 4 ≤ 4; omega⟩

set_option maxRecDepth 100000 in
set_option maxHeartbeats 2000000 in
theorem indexRune_err (S : ByteArray) (w : World) (hS : S.size = 2) (h0 : ∀ h : 0 < S.size, S[0].toNat = 47) (h1 : ∀ h : 1 < S.size, S[1].toNat = 46) :
  Calls Tryz.prog 77 #[.string S, .int .i32 65533] w fun e w' => e = .returned (.int .i64 (-1)) ∧ Below w.heap.size w w' := by
 have n0 := fun ty => run_next_ascii (P := Tryz.prog) w S 0 ty (by omega) (by rw [h0 (by omega)]; decide)
 have n1 := fun ty => run_next_ascii (P := Tryz.prog) w S 1 ty (by omega) (by rw [h1 (by omega)]; decide)
 have n2 := fun ty => run_next_end (P := Tryz.prog) w S 2 ty (by omega)
 rw [h0 (by omega)] at n0
 rw [h1 (by omega)] at n1
 have H2 := Lib.hid hS
 clear hS h0 h1
 go_enter Tryz.func77, Tryz.ntmps77
 go_wp2
 go_loopg [5, 6] 2 (fun g _ _ wx => ∃ i : Nat, i + g = 2 ∧ wx = w.iter S i)
 case atStart => exact ⟨0, by omega, rfl⟩
 case round =>
  obtain ⟨i, hig, rfl⟩ := hrel
  cases gk with
  | zero =>
   obtain rfl : i = 2 := by omega
   go_wp2
   go_ret
   exact ⟨rfl, (Below.refl _ _).alloc (Nat.le_refl _) _⟩
  | succ g =>
   by_cases hi : i = 0
   ·subst hi
    go_wp2
    go_roundg g
    case measure => omega
    case rel => exact ⟨1, by omega, rfl⟩
   ·obtain rfl : i = 1 := by omega
    go_wp2
    go_roundg g
    case measure => omega
    case rel => exact ⟨2, by omega, rfl⟩

set_option maxRecDepth 100000 in
set_option maxHeartbeats 2000000 in
theorem indexRune_bad (S : ByteArray) (c : Int) (w : World) (h0 : 128 ≤ c) (hc : ((c : Int) == 65533) = false) (hv : Lib.validRune c = false) :
  Calls Tryz.prog 77 #[.string S, .int .i32 c] w fun e w' => e = .returned (.int .i64 (-1)) ∧ Below w.heap.size w w' := by
 have h : ∀ W, Calls Tryz.prog 95 #[.int .i32 c] W fun e w' => e = .returned (.bool (Lib.validRune c)) ∧ W = w' := fun W => (Tryz.utf8_ValidRune c W).mono fun _ _ ⟨h1, h2⟩ => ⟨h1, h2.symm⟩
 rw [hv] at h
 have t1 : decide ((c : Int) < 128) = false := decide_eq_false (by omega)
 have H := Lib.hid h
 clear h hv
 go_enter Tryz.func77, Tryz.ntmps77
 go_wp2_with (first
  | (go_at_call 95; (with_reducible refine (H.out _).mono ?_); rintro e w1 ⟨rfl, rfl⟩)
  | fail "arm")
 go_ret
 exact ⟨rfl, Below.refl _ _⟩

set_option maxRecDepth 100000 in
set_option maxHeartbeats 2000000 in
theorem indexRune_good (S : ByteArray) (c : Int) (w : World) (hS : S.size = 2) (h46 : ∀ h : 1 < S.size, S[1].toNat = 46) (h0 : 128 ≤ c) (hc : ((c : Int) == 65533) = false) (hv : Lib.validRune c = true) :
  Calls Tryz.prog 77 #[.string S, .int .i32 c] w fun e w' => e = .returned (.int .i64 (-1)) ∧ Below w.heap.size w w' := by
 have h : ∀ W, Calls Tryz.prog 95 #[.int .i32 c] W fun e w' => e = .returned (.bool (Lib.validRune c)) ∧ W = w' := fun W => (Tryz.utf8_ValidRune c W).mono fun _ _ ⟨h1, h2⟩ => ⟨h1, h2.symm⟩
 rw [hv] at h
 have t1 : decide ((c : Int) < 128) = false := decide_eq_false (by omega)
 have H := Lib.hid h
 have E := Lib.hid (encode_high c h0)
 clear h hv
 go_enter Tryz.func77, Tryz.ntmps77
 go_wp2_with (first
  | (go_at_call 95; (with_reducible refine (H.out _).mono ?_); rintro e w1 ⟨rfl, rfl⟩)
  | fail "arm")
 go_step3
 go_upto_region 2 with (fail)
 generalize Utf8.encode c = R at *
 rcases E.out with ⟨e2, e1⟩ | ⟨e3, e4⟩
 ·have e1' := e1 (by omega)
  have hS1 := h46 (by omega)
  have hne : ((S[1].toNat : Int) != (R[1].toNat : Int)) = true := by rw [bne_iff_ne]; omega
  have ib : ∀ W, Calls Tryz.prog 32 #[.string ByteArray.empty, .int .u8 (R[1].toNat : Int)] W fun e w' => e = .returned (.int .i64 (-1)) ∧ w' = W := fun W => Tryz.strings_IndexByte ByteArray.empty (R[1].toNat : Int) W
  have IB := Lib.hid ib
  clear ib e1 e1' hS1 h46 E
  go_wp2
  go_loopg [9] 0 (fun _ v wx => v = .int .i64 1 ∧ wx = w)
  case atStart => exact ⟨rfl, rfl⟩
  case round =>
   obtain ⟨rfl, rfl⟩ := hrel
   go_wp2
   go_step3
   go_upto_region 6 with (fail)
   go_quiet (fail)
   go_upto_region 7 with (fail)
   have hw2 : IntKind.i64.wrap 2 = 2 := by decide
   go_quiet ((go_at_call 32; with_reducible exact still_after IB.out))
   go_wp2
   rw [Exit.noGoto_ret]
   go_wp2
   rw [Exit.noGoto_ret]
   go_ret
   exact ⟨rfl, (Drew.of _ _).below _⟩
 ·have l1 : decide (2 < (R.size : Int)) = true := decide_eq_true (by omega)
  have l2 : decide ((R.size : Int) - 1 < 2) = false := decide_eq_false (by omega)
  clear E h46
  go_wp2
  go_loopg [9] 0 (fun _ v wx => v = .int .i64 ((R.size : Int) - 1) ∧ wx = w)
  case atStart => exact ⟨rfl, rfl⟩
  case round =>
   obtain ⟨rfl, rfl⟩ := hrel
   go_wp2
   rw [Exit.noGoto_ret]
   go_ret
   exact ⟨rfl, Below.refl _ _⟩

theorem indexRune_high (c : Int) (h0 : 128 ≤ c) (w : World) :
  Calls Tryz.prog 77 #[.string ⟨#[47, 46]⟩, .int .i32 c] w fun e w' => e = .returned (.int .i64 (-1)) ∧ Below w.heap.size w w' := by
 by_cases hc : c = 65533
 ·subst hc
  exact indexRune_err ⟨#[47, 46]⟩ w rfl (fun _ => rfl) (fun _ => rfl)
 ·have hc' : ((c : Int) == 65533) = false := beq_eq_false_iff_ne.2 hc
  cases hv : Lib.validRune c with
  | true => exact indexRune_good ⟨#[47, 46]⟩ c w rfl (fun _ => rfl) h0 hc' hv
  | false => exact indexRune_bad ⟨#[47, 46]⟩ c w h0 hc' hv

theorem decode_span (s : ByteArray) (pos : Nat) (h : pos < s.size) (ha : 128 ≤ (s[pos]'h).toNat) :
  pos + (Utf8.decode s pos).2 ≤ s.size ∧ ∀ j (hj : j < s.size), pos ≤ j → j < pos + (Utf8.decode s pos).2 → 128 ≤ (s[j]'hj).toNat := by
 have hn : ¬ (s[pos]'h).toNat < 128 := by omega
 have hg : ∀ k (hk : pos + k < s.size), s.get! (pos + k) = s[pos + k]'hk := fun k hk => by
  simp [ByteArray.get!, getElem!_pos, hk]
  rfl
 have one : ∀ j (hj : j < s.size), pos ≤ j → j < pos + 1 → 128 ≤ (s[j]'hj).toNat := fun j hj h1 h2 => by
  obtain rfl : j = pos := by omega
  exact ha
 have c : ∀ k, (decide (pos + k < s.size) && (s.get! (pos + k)).toNat / 64 == 2) = true → ∃ hk : pos + k < s.size, 128 ≤ (s[pos + k]'hk).toNat := fun k e => by
  simp only [Bool.and_eq_true, decide_eq_true_eq, beq_iff_eq] at e
  refine ⟨e.1, ?_⟩
  rw [hg k e.1] at e
  omega
 simp only [Utf8.decode, get_at s pos h, hn, if_false]
 split
 ·rename_i e
  simp only [Bool.and_eq_true] at e
  obtain ⟨k1, b1⟩ := c 1 (by simpa using e.2)
  split
  ·refine ⟨by show pos + 2 ≤ _; omega, fun j hj h1 (h2 : j < pos + 2) => ?_⟩
   by_cases hj1 : j = pos + 1
   ·subst hj1; exact b1
   ·exact one j hj h1 (by omega)
  ·exact ⟨by show pos + 1 ≤ _; omega, one⟩
 ·split
  ·rename_i e
   simp only [Bool.and_eq_true] at e
   obtain ⟨k1, b1⟩ := c 1 (by simpa using e.1.2)
   obtain ⟨k2, b2⟩ := c 2 (by simpa using e.2)
   split
   ·refine ⟨by show pos + 3 ≤ _; omega, fun j hj h1 (h2 : j < pos + 3) => ?_⟩
    by_cases hj1 : j = pos + 1
    ·subst hj1; exact b1
    ·by_cases hj2 : j = pos + 2
     ·subst hj2; exact b2
     ·exact one j hj h1 (by omega)
   ·exact ⟨by show pos + 1 ≤ _; omega, one⟩
  ·split
   ·rename_i e
    simp only [Bool.and_eq_true] at e
    obtain ⟨k1, b1⟩ := c 1 (by simpa using e.1.1.2)
    obtain ⟨k2, b2⟩ := c 2 (by simpa using e.1.2)
    obtain ⟨k3, b3⟩ := c 3 (by simpa using e.2)
    split
    ·refine ⟨by show pos + 4 ≤ _; omega, fun j hj h1 (h2 : j < pos + 4) => ?_⟩
     by_cases hj1 : j = pos + 1
     ·subst hj1; exact b1
     ·by_cases hj2 : j = pos + 2
      ·subst hj2; exact b2
      ·by_cases hj3 : j = pos + 3
       ·subst hj3; exact b3
       ·exact one j hj h1 (by omega)
    ·exact ⟨by show pos + 1 ≤ _; omega, one⟩
   ·exact ⟨by show pos + 1 ≤ _; omega, one⟩

theorem noAny_span {s : ByteArray} {i k : Nat} (h : Lib.NoAny s.data.toList [47, 46] i) (h2 : ∀ j (hj : j < s.size), i ≤ j → j < i + k → 128 ≤ (s[j]'hj).toNat) : Lib.NoAny s.data.toList [47, 46] (i + k) := by
 intro j b hj hb
 by_cases h3 : j < i
 ·exact h j b h3 hb
 ·have hjs : j < s.size := by
   have := (List.getElem?_eq_some_iff.1 hb).1
   rw [Lib.size_eq]; exact this
  have hx := h2 j hjs (by omega) hj
  have hb2 : s[j] = b := by
   have := Lib.data_getElem? s j hjs
   rw [this] at hb
   exact Option.some.inj hb
  rw [hb2] at hx
  have h47 : b ≠ 47 := fun e => by rw [e] at hx; exact absurd hx (by decide)
  have h46 : b ≠ 46 := fun e => by rw [e] at hx; exact absurd hx (by decide)
  simp [h47, h46]

theorem useSet_any (n : Int) (w : World) (h : decide (8 < n) = false) :
  Calls Tryz.prog 78 #[.int .i64 n] w fun e w' => e = .returned (.bool false) ∧ w = w' := by
 go_enter Tryz.func78, Tryz.ntmps78
 go_wp2
 go_ret
 exact ⟨rfl, rfl⟩

set_option maxRecDepth 100000 in
set_option maxHeartbeats 4000000 in
theorem indexAny_few (s : ByteArray) (w : World) (h8 : s.size ≤ 8) :
  Calls Tryz.prog 64 #[.string s, .string ⟨#[47, 46]⟩] w fun e w' => e = .returned (.int .i64 (Lib.indexAny s.data.toList [47, 46])) ∧ Below w.heap.size w w' := by
 have h8z : decide (8 < (s.size : Int)) = false := decide_eq_false (by omega)
 have b0 := indexRune_high
 have RH := Lib.hid b0
 have ra : ∀ (x : UInt8) W, x.toNat < 128 → Calls Tryz.prog 77 #[.string ⟨#[47, 46]⟩, .int .i32 (x.toNat : Int)] W fun e w' => e = .returned (.int .i64 (Lib.indexByte [47, 46] x)) ∧ W = w' := fun x W hx => by
  have := Tryz.strings_IndexRune_ascii ⟨#[47, 46]⟩ (x.toNat : Int) W (by omega) (by omega)
  rw [show ((x.toNat : Int)).toNat.toUInt8 = x by simp] at this
  exact this.mono fun _ _ ⟨h1, h2⟩ => ⟨h1, h2.symm⟩
 have RA := Lib.hid ra
 clear b0 ra
 generalize hS : (⟨#[47, 46]⟩ : ByteArray) = S at *
 have hemp : S.toList.isEmpty = false := by rw [← hS, ByteArray.toList_eq]; rfl
 have hemp2 : (S.toList == []) = false := by rw [← hS, ByteArray.toList_eq]; rfl
 have hs2 : S.size = 2 := by rw [← hS]; rfl
 clear hS
 go_enter Tryz.func64, Tryz.ntmps64
 go_wp2_with (first
  | (go_at_call 78; (with_reducible refine (useSet_any _ _ h8z).mono ?_); rintro e w1 ⟨rfl, rfl⟩)
  | fail "arm")
 have b00 : Below w.heap.size w (w.iter s 0) := (Below.refl _ _).alloc (Nat.le_refl _) _
 have k00 := World.iter_heap w s 0
 generalize w.iter s 0 = W0 at *
 have B00 := Lib.hid b00
 have K00 := Lib.hid k00
 clear b00 k00
 generalize hB : w.heap.size = B at *
 have HB := Lib.hid hB
 clear hB
 go_loopg [9, 10] s.size (fun g _ _ wx => ∃ i : Nat, s.size ≤ i + g ∧ i ≤ s.size ∧ wx.heap[B]? = some (.stringIter s i) ∧ Below B w wx ∧ Lib.NoAny s.data.toList [47, 46] i)
 case atStart => exact ⟨0, by omega, by omega, K00.out, B00.out, Lib.NoAny.zero _ _⟩
 case round =>
  obtain ⟨i, hig, his, hk, hb, hno⟩ := hrel
  have HN := Lib.hid hno
  have HK := Lib.hid hk
  have B1 := Lib.hid hb
  have hBs : B < wr.heap.size := (Array.getElem?_eq_some_iff.1 hk).1
  clear hno hb
  by_cases hi : i < s.size
  ·by_cases ha : (s[i]'hi).toNat < 128
   ·have hnx := fun ty => Lib.run_next_ascii_at (P := Tryz.prog) wr B s i ty hk hi ha
    obtain ⟨x, hx⟩ : ∃ x : UInt8, s[i]'hi = x := ⟨_, rfl⟩
    have hxl : s.data.toList[i]? = some x := by rw [← hx]; exact Lib.data_getElem? s i hi
    rw [hx] at hnx ha
    have b2 := Lib.below_iterAt B1.out (Nat.le_refl B) s (i + 1)
    have k2 := Lib.iterAt_heap wr B s i (i + 1) hk
    have z2 := Lib.iterAt_size wr B s (i + 1)
    generalize wr.iterAt B s (i + 1) = W2 at *
    have B2 := Lib.hid b2
    have K2 := Lib.hid k2
    have Z2 := Lib.hid z2
    have HX := Lib.hid hxl
    clear b2 k2 z2 hxl hx hk
    have hcon := Lib.contains_iff_indexByte [47, 46] x
    have r1 := fun W => RA.out x W ha
    cases hin : ([47, 46] : List UInt8).contains x
    ·have hlt : decide (0 ≤ Lib.indexByte [47, 46] x) = false := by rw [← hcon]; exact hin
     have HIN := Lib.hid hin
     clear hcon hin
     generalize Lib.indexByte [47, 46] x = o at *
     have R1 := Lib.hid r1
     clear r1
     go_wp2_with (first
      | (go_at_call 77; (with_reducible refine (R1.out _).mono ?_); rintro e w1 ⟨rfl, rfl⟩)
      | fail "arm")
     cases gk with
     | zero => omega
     | succ g =>
      go_roundg g
      case measure => omega
      case rel => exact ⟨i + 1, by omega, by omega, K2.out, B2.out, HN.out.succ HX.out HIN.out⟩
    ·have hlt : decide (0 ≤ Lib.indexByte [47, 46] x) = true := by rw [← hcon]; exact hin
     have HIN := Lib.hid hin
     clear hcon hin
     generalize Lib.indexByte [47, 46] x = o at *
     have R1 := Lib.hid r1
     clear r1
     go_wp2_with (first
      | (go_at_call 77; (with_reducible refine (R1.out _).mono ?_); rintro e w1 ⟨rfl, rfl⟩)
      | fail "arm")
     go_ret
     exact ⟨by rw [Lib.indexAny_hit HN.out HX.out HIN.out]; rfl, by rw [HB.out]; exact B2.out⟩
   ·have hnx := fun ty => Lib.run_next_any_at (P := Tryz.prog) wr B s i ty hk hi
    obtain ⟨d1, d2⟩ := decode_span s i hi (by omega)
    obtain ⟨d3, d4⟩ := decode_high s i hi (by omega)
    have d5 := noAny_span HN.out d2
    have b2 := Lib.below_iterAt B1.out (Nat.le_refl B) s (i + (Utf8.decode s i).2)
    have k2 := Lib.iterAt_heap wr B s i (i + (Utf8.decode s i).2) hk
    have z2 := Lib.iterAt_size wr B s (i + (Utf8.decode s i).2)
    generalize hW2 : wr.iterAt B s (i + (Utf8.decode s i).2) = W2 at *
    clear hW2
    generalize (Utf8.decode s i).2 = k at *
    have r1 := RH.out ((Utf8.decode s i).1 : Int) (by omega)
    generalize ((Utf8.decode s i).1 : Int) = c at *
    have B2 := Lib.hid b2
    have K2 := Lib.hid k2
    have Z2 := Lib.hid z2
    have D5 := Lib.hid d5
    have R1 := Lib.hid r1
    clear b2 k2 z2 d5 d2 hk r1 d3
    go_wp2_with (first
     | (go_at_call 77; (with_reducible refine (R1.out _).mono ?_); rintro e w1 ⟨rfl, q⟩; have B3 := Lib.hid q; clear q)
     | fail "arm")
    cases gk with
    | zero => omega
    | succ g =>
     go_roundg g
     case measure => omega
     case rel => exact ⟨i + k, by omega, by omega, (B3.out.block B (by rw [Z2.out]; exact hBs)).trans K2.out, B2.out.trans (B3.out.mono (by rw [Z2.out]; omega)), D5.out⟩
  ·have hnx := fun ty => Lib.run_next_end_at (P := Tryz.prog) wr B s i ty hk hi
   clear hk
   go_wp2
   go_ret
   exact ⟨by rw [Lib.indexAny_none (by rw [← Lib.size_eq, show s.size = i by omega]; exact HN.out)]; rfl, by rw [HB.out]; exact B1.out⟩

theorem indexAny_any (s : ByteArray) (w : World) (hs : s.size ≤ 1000000) :
  Calls Tryz.prog 64 #[.string s, .string ⟨#[47, 46]⟩] w fun e w' => e = .returned (.int .i64 (Lib.indexAny s.data.toList [47, 46])) ∧ Below w.heap.size w w' := by
 by_cases h8 : s.size ≤ 8
 ·exact indexAny_few s w h8
 ·refine (Tryz.strings_IndexAny_long (fun W => by kernel_rfl) s ⟨#[47, 46]⟩ w (by decide) (by omega) (by omega) (by decide) ?_).mono fun e w' ⟨h1, h2⟩ => ⟨h1, ?_⟩
  ·intro j b h
   match j, h with
   | 0, h => cases h; decide
   | 1, h => cases h; decide
  ·rw [h2]
   exact ((Below.refl _ _).alloc (Nat.le_refl _) _).alloc (by simp) _

end Go.Proofs.YtfhmgkicccfghaaGreatDoor
