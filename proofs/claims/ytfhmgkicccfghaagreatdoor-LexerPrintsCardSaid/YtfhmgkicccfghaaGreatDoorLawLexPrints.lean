/- LexerPrints: for every list of numbers of words the call returns true. -/
import Derived.Test.YtfhmgkicccfghaaGreatDoorLexZH
import Derived.Test.YtfhmgkicccfghaaGreatDoorLexYD
import Derived.Test.YtfhmgkicccfghaaGreatDoorLexSB
import Derived.Deep.RegionHeld3
namespace Go.Proofs.YtfhmgkicccfghaaGreatDoor
set_option linter.all false
open Go.RowKit

theorem print_law {parse : List UInt8 → List UInt8 × Int} {s : List UInt8} (hq : IsParse parse) (hs : s.length ≤ 200) (hd : s.countP isDig ≤ 97) (he : (scanF parse s 1 1 false []).err = 0) :
  ∃ l l', scanF parse s 1 1 false [] = ⟨l, 0, 0, 0⟩ ∧ printF false l = printM false l ∧ scanF parse (printF false l) 1 1 false [] = ⟨l', 0, 0, 0⟩ ∧ SameL l l' ∧ (printF false l).length ≤ 1000 := by
 obtain ⟨l, e1, e2, _⟩ := scan_wff parse s.length s 1 1 false [] (hq.on s hd) (Nat.le_refl _) he
 have hl := scan_max parse s.length s 1 1 false [] (Nat.le_refl _) (by decide)
 obtain ⟨m, f1, f2⟩ := scan_plen hq s.length s 1 1 false [] (Nat.le_refl _) (by omega) he
 rw [e1] at hl f1
 have hm : l = m := by simpa using f1
 subst hm
 obtain ⟨l', e3, e4⟩ := scan_print parse l false 1 1 [] e2 (by simpa using hl)
 exact ⟨l, l', e1, print_eq l false e2.ends, e3, e4, by omega⟩
theorem text_of {S Y : ByteArray} (h : S.data.toList = Y.data.toList) : S = Y := by
 cases S with
 | mk a => cases Y with
  | mk b => exact congrArg _ (Array.toList_inj.1 h)

set_option maxRecDepth 100000 in
set_option maxHeartbeats 8000000 in
theorem lexPrints_walk (v : Value) (zs : List Int) (w : World) (he : Env w) (hv : U8At w v zs) :
  Calls Tryz.prog 9 #[v] w fun e w' => e = .returned (.bool true) ∧ Below w.heap.size w w' := by
 have KN := Lib.hid (fun W (hW : Below w.heap.size w W) => known51 W (he.below hW))
 have B := Lib.hid (Below.refl w.heap.size w)
 by_cases hlim : 40 < zs.length
 ·obtain ⟨a, c, rfl, _⟩ := hv
  have t1 : decide ((zs.length : Int) > 40) = true := decide_eq_true (by omega)
  go_enter Tryz.func9, Tryz.ntmps9
  go_wp2_with (first
   | (go_at_call 11; with_reducible refine (KN.out _ (baseI B.out)).mono ?_; rintro e wx ⟨rfl, q⟩; replace B := Lib.hid (goI B.out q); clear q)
   | fail "arm")
  go_ret
  exact ⟨rfl, B.out⟩
 have t1 : decide ((zs.length : Int) > 40) = false := decide_eq_false (by omega)
 obtain ⟨parse, hp⟩ := parse_exists
 have tx := fun W (hW : Below w.heap.size w W) => text_any v zs W (hv.below hW) (by omega)
 have hT : (⟨(zs.flatMap wordL).toArray⟩ : ByteArray).size ≤ 200 := by rw [Lib.size_eq]; have := text_len zs; show (zs.flatMap wordL).length ≤ 200; omega
 have hTL : (zs.flatMap wordL).length ≤ 200 := by have := text_len zs; omega
 have hdig : (zs.flatMap wordL).countP isDig ≤ 97 := by have := text_dig zs; omega
 have hTl : (⟨(zs.flatMap wordL).toArray⟩ : ByteArray).data.toList = zs.flatMap wordL := rfl
 rw [← hTl] at hdig hTL
 have hlaw : (scanF parse (⟨(zs.flatMap wordL).toArray⟩ : ByteArray).data.toList 1 1 false []).err = 0 → _ := fun h => print_law hp hTL hdig h
 clear hdig hTL hTl
 generalize (⟨(zs.flatMap wordL).toArray⟩ : ByteArray) = T at *
 obtain ⟨a, c, rfl, _⟩ := hv
 have TX := Lib.hid tx
 clear tx
 have s1 : ∀ W, Below w.heap.size w W → Calls Tryz.prog 14 #[.string T] W (ScanR W (scanF parse T.data.toList 1 1 false [])) := fun W hW => kscan_any parse T W (by omega) (hp.sub W (he.below hW) T (by omega))
 have s2 : ∀ (Y : ByteArray) (hY : Y.size ≤ 1000) W, Below w.heap.size w W → Calls Tryz.prog 13 #[.string Y] W (ScanR W (scanF parse Y.data.toList 1 1 false [])) := fun Y hY W hW => scan_any parse Y W (by omega) (he.below hW).2 (hp.sub W (he.below hW) Y hY)
 have hmax := scan_max parse T.data.toList.length T.data.toList 1 1 false [] (Nat.le_refl _) (by decide)
 generalize scanF parse T.data.toList 1 1 false [] = R at *
 have S1 : Hid (∀ W, Below w.heap.size w W → Calls Tryz.prog 14 #[.string T] W fun e w' => ∃ v, e = .returned (.tuple #[v, .agg #[.int .i64 R.line, .int .i64 R.col], .int .i64 R.err]) ∧ TokRow w' W.heap.size v R.toks ∧ Below W.heap.size W w') := Lib.hid s1
 have S2 := Lib.hid s2
 have HLAW := Lib.hid hlaw
 clear s1 s2 he hlaw
 go_enter Tryz.func9, Tryz.ntmps9
 go_upto_region 4 with (first
  | (go_at_call 11; with_reducible refine (KN.out _ (baseI B.out)).mono ?_; rintro e wx ⟨rfl, q⟩; replace B := Lib.hid (goI B.out q); clear q)
  | (go_at_call 12; with_reducible refine (TX.out _ (baseI B.out)).mono ?_; rintro e wx ⟨rfl, q⟩; replace B := Lib.hid (goI B.out q); clear q)
  | (go_at_call 14; with_reducible refine (S1.out _ (baseI B.out)).mono ?_; rintro e w1 ⟨v1, rfl, tr1, q1⟩)
  | fail "arm")
 have TR1 := Lib.hid (tr1.below (below_new w1 (.cells #[.int .i64 R.line, .int .i64 R.col] 27)))
 replace B := Lib.hid ((goI B.out q1).alloc (goI B.out q1).size (.cells #[.int .i64 R.line, .int .i64 R.col] 27))
 obtain ⟨a1, c1, rfl⟩ := tr1.len_eval
 clear tr1 q1
 generalize (w1.alloc (Obj.cells #[.int .i64 R.line, .int .i64 R.col] 27)) = W1 at *
 by_cases he : R.err = 0
 ·have ef : (R.err != 0) = false := by rw [he]; rfl
  obtain ⟨l, l', hR, hpm, hR2, hsame, hlen⟩ := HLAW.out he
  subst hR
  have HLL := Lib.hid hsame.length
  have SAME := Lib.hid hsame
  have TA : Hid (TokAt W1 (.slice a1 l.length c1) l) := Lib.hid (TR1.out.look)
  have hl5 : l.length ≤ 5000 := hmax
  have hl5' : l'.length ≤ 5000 := by have := HLL.out; omega
  clear he HLAW TR1 hmax
  obtain ⟨Y, hY⟩ : ∃ Y : ByteArray, Y.data.toList = printF false l := ⟨⟨(printF false l).toArray⟩, rfl⟩
  have hYs : Y.size ≤ 1000 := by rw [Lib.size_eq, hY]; exact hlen
  have sc2 := fun W hW => S2.out Y hYs W hW
  rw [hY, hR2] at sc2
  have hYY : (⟨(printF false l).toArray⟩ : ByteArray) = Y := text_of hY.symm
  have lp : ∀ W, Below w.heap.size w W → TokAt W (.slice a1 l.length c1) l → Calls Tryz.prog 28 #[.slice a1 l.length c1] W fun e w' => e = .returned (.tuple #[.string Y, .int .i64 0]) ∧ Below W.heap.size W w' := fun W hW hA => by
   refine (lprint_any _ l W ⟨l', 0, 0, 0⟩ hA hl5 (by omega) hl5' (fun W2 hW2 => by rw [hYY]; exact sc2 W2 (hW.trans (hW2.mono hW.size)))).mono ?_
   rintro e w' ⟨⟨S, E, h1, h2⟩, h3⟩
   rcases h2 with ⟨_, _, h4, h5⟩ | ⟨h4, _⟩
   ·rw [h1, h5, text_of (h4.trans hY.symm)]
    exact ⟨rfl, h3⟩
   ·exact absurd ⟨rfl, SAME.out.symm⟩ h4
  have kp : ∀ W, TokAt W (.slice a1 l.length c1) l → Calls Tryz.prog 29 #[.slice a1 l.length c1] W fun e w' => e = .returned (.string Y) ∧ Below W.heap.size W w' := fun W hA => by
   refine (kprint_any _ l W hA hl5 (by rw [← hpm]; omega)).mono ?_
   rintro e w' ⟨⟨S, h1, h2⟩, h3⟩
   rw [h1, text_of ((h2.trans hpm.symm).trans hY.symm)]
   exact ⟨rfl, h3⟩
  have SC2 : Hid (∀ W, Below w.heap.size w W → Calls Tryz.prog 13 #[.string Y] W fun e w' => ∃ v, e = .returned (.tuple #[v, .agg #[.int .i64 0, .int .i64 0], .int .i64 0]) ∧ TokRow w' W.heap.size v l' ∧ Below W.heap.size W w') := Lib.hid sc2
  have LP := Lib.hid lp
  have KP := Lib.hid kp
  clear sc2 lp kp hsame hR2 hpm hlen hY hYY hYs S2
  go_upto_region 8 with (first
   | (go_at_call 28; with_reducible refine (LP.out _ (baseI B.out) TA.out).mono ?_; rintro e wx ⟨rfl, q⟩; replace TA := Lib.hid (TA.out.below q); replace B := Lib.hid (goI B.out q); clear q)
   | (go_at_call 13; with_reducible refine (SC2.out _ (baseI B.out)).mono ?_; rintro e w2 ⟨v2, rfl, tr2, q2⟩)
   | fail "arm")
  have q3 := q2.alloc q2.size (.cells #[.int .i64 0, .int .i64 0] 27)
  have TB := Lib.hid (tr2.below (below_new w2 (.cells #[.int .i64 0, .int .i64 0] 27))).look
  have K9 := Lib.hid (Blk.fresh w2 #[.int .i64 0, .int .i64 0] 27)
  replace TA := Lib.hid (TA.out.below q3)
  replace B := Lib.hid (B.out.trans (q3.mono B.out.size))
  obtain ⟨a2, c2, rfl⟩ := tr2.len_eval
  clear tr2 q2 q3
  generalize (w2.alloc (Obj.cells #[.int .i64 0, .int .i64 0] 27)) = W2 at *
  generalize w2.heap.size = b9 at *
  have n1 : ((l.length : Int) != (l'.length : Int)) = false := by rw [bne_eq_false_iff_eq]; have := HLL.out; omega
  go_upto_if 63 with (first
   | (go_at_call 29; with_reducible refine (KP.out _ TA.out).mono ?_; rintro e wx ⟨rfl, q⟩; replace TA := Lib.hid (TA.out.below q); replace TB := Lib.hid (TB.out.below q); replace K9 := Lib.hid (K9.out.below q); replace B := Lib.hid (goI B.out q); clear q; have z0 := K9.out.at_ 0 _ rfl; have z1 := K9.out.at_ 1 _ rfl)
   | fail "arm")
  clear z0 z1 K9 KP LP SC2 KN TX S1
  go_wp2
  go_loopw [11] (fun i wr => ∃ k : Nat, k ≤ l.length ∧ i = .int .i64 k ∧ Below wx.heap.size wx wr) (fun i _ => l.length - (intOf i).toNat)
  case atStart => exact ⟨0, Nat.zero_le _, rfl, Below.refl _ _⟩
  case round =>
   obtain ⟨k, hk, rfl, hB2⟩ := hrel
   have QB := Lib.hid hB2
   clear hB2
   by_cases hlt : k < l.length
   ·have hlt2 : k < l'.length := by have := HLL.out; omega
    have TA1 := TA.out.below QB.out
    have TB1 := TB.out.below QB.out
    obtain ⟨d, o, c3, e1, hd, q1⟩ := TA1.cell2 k hlt
    obtain ⟨d', o', c4, e2, hd', q2⟩ := TB1.cell2 k hlt2
    injection e1 with e1 _ e1c
    injection e2 with e2 _ e2c
    subst e1 e2 e1c e2c
    have ht := List.getElem?_eq_getElem hlt
    have hu := List.getElem?_eq_getElem hlt2
    have hsm := (sameB_iff _ _).2 (SAME.out.look k _ _ ht hu)
    generalize l[k] = t at *
    generalize l'[k] = u at *
    clear ht hu TB1 TA1
    have x0 : wr.cell? ⟨d, o + k * 5, none⟩ = _ := q1 0 _ rfl
    have x1 := q1 1 _ rfl
    have x2 := q1 2 _ rfl
    have x3 := q1 3 _ rfl
    have x4 := q1 4 _ rfl
    have y0 : wr.cell? ⟨d', o' + k * 5, none⟩ = _ := q2 0 _ rfl
    have y1 := q2 1 _ rfl
    have y2 := q2 2 _ rfl
    have y3 := q2 3 _ rfl
    have y4 := q2 4 _ rfl
    clear q1 q2
    have hi : (k : Int) < (l.length : Int) := by omega
    have hi2 : (k : Int) < (l'.length : Int) := by omega
    have sm1 := fun (W : World) => ksame_is t u W
    have sm2 := fun (W : World) => same_is t u W
    rw [hsm] at sm1 sm2
    unfold tokV Tok.cells at sm1 sm2
    have smc1 : ∀ W, Below wr.heap.size wr W → Calls Tryz.prog 30 #[.agg #[.int .i64 t.kind, .string ⟨t.text.toArray⟩, .string ⟨t.value.toArray⟩, .int .i64 t.line, .int .i64 t.col], .agg #[.int .i64 u.kind, .string ⟨u.text.toArray⟩, .string ⟨u.value.toArray⟩, .int .i64 u.line, .int .i64 u.col]] W fun e w' => e = .returned (.bool true) ∧ (w'.cell? ⟨d, o + k * 5, none⟩ = some (.int .i64 t.kind) ∧ w'.cell? ⟨d, o + k * 5 + 1, none⟩ = some (.string ⟨t.text.toArray⟩) ∧ w'.cell? ⟨d, o + k * 5 + 2, none⟩ = some (.string ⟨t.value.toArray⟩) ∧ w'.cell? ⟨d, o + k * 5 + 3, none⟩ = some (.int .i64 t.line) ∧ w'.cell? ⟨d, o + k * 5 + 4, none⟩ = some (.int .i64 t.col) ∧ w'.cell? ⟨d', o' + k * 5, none⟩ = some (.int .i64 u.kind) ∧ w'.cell? ⟨d', o' + k * 5 + 1, none⟩ = some (.string ⟨u.text.toArray⟩) ∧ w'.cell? ⟨d', o' + k * 5 + 2, none⟩ = some (.string ⟨u.value.toArray⟩) ∧ w'.cell? ⟨d', o' + k * 5 + 3, none⟩ = some (.int .i64 u.line) ∧ w'.cell? ⟨d', o' + k * 5 + 4, none⟩ = some (.int .i64 u.col)) ∧ Below wr.heap.size wr w' := fun W hW => by
     refine (sm1 W).mono ?_
     rintro e w' ⟨h1, h2⟩
     have hq := hW.trans (h2.mono hW.size)
     exact ⟨h1, ⟨(hq.cell (p := ⟨d, o + k * 5, none⟩) hd).trans x0, (hq.cell (p := ⟨d, o + k * 5 + 1, none⟩) hd).trans x1, (hq.cell (p := ⟨d, o + k * 5 + 2, none⟩) hd).trans x2, (hq.cell (p := ⟨d, o + k * 5 + 3, none⟩) hd).trans x3, (hq.cell (p := ⟨d, o + k * 5 + 4, none⟩) hd).trans x4, (hq.cell (p := ⟨d', o' + k * 5, none⟩) hd').trans y0, (hq.cell (p := ⟨d', o' + k * 5 + 1, none⟩) hd').trans y1, (hq.cell (p := ⟨d', o' + k * 5 + 2, none⟩) hd').trans y2, (hq.cell (p := ⟨d', o' + k * 5 + 3, none⟩) hd').trans y3, (hq.cell (p := ⟨d', o' + k * 5 + 4, none⟩) hd').trans y4⟩, hq⟩
    have SMC1 := Lib.hid smc1
    have smc2 : ∀ W, Below wr.heap.size wr W → Calls Tryz.prog 16 #[.agg #[.int .i64 t.kind, .string ⟨t.text.toArray⟩, .string ⟨t.value.toArray⟩, .int .i64 t.line, .int .i64 t.col], .agg #[.int .i64 u.kind, .string ⟨u.text.toArray⟩, .string ⟨u.value.toArray⟩, .int .i64 u.line, .int .i64 u.col]] W fun e w' => e = .returned (.bool true) ∧ (w'.cell? ⟨d, o + k * 5, none⟩ = some (.int .i64 t.kind) ∧ w'.cell? ⟨d, o + k * 5 + 1, none⟩ = some (.string ⟨t.text.toArray⟩) ∧ w'.cell? ⟨d, o + k * 5 + 2, none⟩ = some (.string ⟨t.value.toArray⟩) ∧ w'.cell? ⟨d, o + k * 5 + 3, none⟩ = some (.int .i64 t.line) ∧ w'.cell? ⟨d, o + k * 5 + 4, none⟩ = some (.int .i64 t.col) ∧ w'.cell? ⟨d', o' + k * 5, none⟩ = some (.int .i64 u.kind) ∧ w'.cell? ⟨d', o' + k * 5 + 1, none⟩ = some (.string ⟨u.text.toArray⟩) ∧ w'.cell? ⟨d', o' + k * 5 + 2, none⟩ = some (.string ⟨u.value.toArray⟩) ∧ w'.cell? ⟨d', o' + k * 5 + 3, none⟩ = some (.int .i64 u.line) ∧ w'.cell? ⟨d', o' + k * 5 + 4, none⟩ = some (.int .i64 u.col)) ∧ Below wr.heap.size wr w' := fun W hW => by
     refine (sm2 W).mono ?_
     rintro e w' ⟨h1, h2⟩
     have hq := hW.trans (h2.mono hW.size)
     exact ⟨h1, ⟨(hq.cell (p := ⟨d, o + k * 5, none⟩) hd).trans x0, (hq.cell (p := ⟨d, o + k * 5 + 1, none⟩) hd).trans x1, (hq.cell (p := ⟨d, o + k * 5 + 2, none⟩) hd).trans x2, (hq.cell (p := ⟨d, o + k * 5 + 3, none⟩) hd).trans x3, (hq.cell (p := ⟨d, o + k * 5 + 4, none⟩) hd).trans x4, (hq.cell (p := ⟨d', o' + k * 5, none⟩) hd').trans y0, (hq.cell (p := ⟨d', o' + k * 5 + 1, none⟩) hd').trans y1, (hq.cell (p := ⟨d', o' + k * 5 + 2, none⟩) hd').trans y2, (hq.cell (p := ⟨d', o' + k * 5 + 3, none⟩) hd').trans y3, (hq.cell (p := ⟨d', o' + k * 5 + 4, none⟩) hd').trans y4⟩, hq⟩
    have SMC2 := Lib.hid smc2
    clear hsm sm1 sm2 smc1 smc2
    go_upto_region 13 with (fail)
    go_region_held3 (fun w' => w'.cell? ⟨d, o + k * 5, none⟩ = some (.int .i64 t.kind) ∧ w'.cell? ⟨d, o + k * 5 + 1, none⟩ = some (.string ⟨t.text.toArray⟩) ∧ w'.cell? ⟨d, o + k * 5 + 2, none⟩ = some (.string ⟨t.value.toArray⟩) ∧ w'.cell? ⟨d, o + k * 5 + 3, none⟩ = some (.int .i64 t.line) ∧ w'.cell? ⟨d, o + k * 5 + 4, none⟩ = some (.int .i64 t.col) ∧ w'.cell? ⟨d', o' + k * 5, none⟩ = some (.int .i64 u.kind) ∧ w'.cell? ⟨d', o' + k * 5 + 1, none⟩ = some (.string ⟨u.text.toArray⟩) ∧ w'.cell? ⟨d', o' + k * 5 + 2, none⟩ = some (.string ⟨u.value.toArray⟩) ∧ w'.cell? ⟨d', o' + k * 5 + 3, none⟩ = some (.int .i64 u.line) ∧ w'.cell? ⟨d', o' + k * 5 + 4, none⟩ = some (.int .i64 u.col))
     (first | exact ⟨x0, x1, x2, x3, x4, y0, y1, y2, y3, y4⟩ | exact ⟨r0, r1, r2, r3, r4, r5, r6, r7, r8, r9⟩ | exact ⟨s0, s1, s2, s3, s4, s5, s6, s7, s8, s9⟩)
     (first
      | (go_at_call 30; with_reducible refine (SMC1.out _ (by first | exact Below.refl _ _ | exact (Below.refl _ _).drew)).mono ?_; rintro e wy ⟨rfl, ⟨r0, r1, r2, r3, r4, r5, r6, r7, r8, r9⟩, q⟩; have Q1 := Lib.hid q; clear q)
      | (go_at_call 16; with_reducible refine (SMC2.out _ (by first | exact Q1.out | exact Q1.out.drew)).mono ?_; rintro e wz ⟨rfl, ⟨s0, s1, s2, s3, s4, s5, s6, s7, s8, s9⟩, q⟩; have QQ := Lib.hid q; clear q)
      | fail "arm")
    all_goals
     have QB2 := Lib.hid (QB.out.trans (QQ.out.mono QB.out.size))
     go_wp2
     go_round
     case rel => exact ⟨k + 1, hlt, by go_num, QB2.out⟩
     case measure => simp [intOf]; omega
   ·obtain rfl : k = l.length := by omega
    have BB := Lib.hid (B.out.trans (QB.out.mono B.out.size))
    go_wp2
    go_ret
    exact ⟨rfl, BB.out⟩
 ·have ef : (R.err != 0) = true := by rw [bne_iff_ne]; exact he
  go_wp2
  go_ret
  exact ⟨rfl, B.out⟩

end Go.Proofs.YtfhmgkicccfghaaGreatDoor
