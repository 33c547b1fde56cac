/- LexerBlanks: for every list of numbers of words the call returns true. -/
import Derived.Test.YtfhmgkicccfghaaGreatDoorLexZF
import Derived.Test.YtfhmgkicccfghaaGreatDoorLexYD
import Derived.Test.YtfhmgkicccfghaaGreatDoorLexZG
import Derived.Test.YtfhmgkicccfghaaGreatDoorGPar
namespace Go.Proofs.YtfhmgkicccfghaaGreatDoor
set_option linter.all false
open Go.RowKit

set_option maxRecDepth 100000 in
set_option maxHeartbeats 8000000 in
theorem lexBlanks_walk (v : Value) (zs : List Int) (w : World) (he : Env w) (hv : U8At w v zs) :
  Calls Tryz.prog 6 #[v] w fun e w' => e = .returned (.bool true) ∧ Below w.heap.size w w' := by
 have KN := Lib.hid (fun W (hW : Below w.heap.size w W) => known51 W (he.below hW))
 have B := Lib.hid (Below.refl w.heap.size w)
 by_cases hlim : 40 < zs.length
 ·obtain ⟨a, c, rfl, _⟩ := hv
  have t1 : decide ((zs.length : Int) > 40) = true := decide_eq_true (by omega)
  go_enter Tryz.func6, Tryz.ntmps6
  go_wp2_with (first
   | (go_at_call 11; with_reducible refine (KN.out _ (baseI B.out)).mono ?_; rintro e wx ⟨rfl, q⟩; replace B := Lib.hid (goI B.out q); clear q)
   | fail "arm")
  go_ret
  exact ⟨rfl, B.out⟩
 have t1 : decide ((zs.length : Int) > 40) = false := decide_eq_false (by omega)
 obtain ⟨parse, hp⟩ := parse_exists
 have tx := fun W (hW : Below w.heap.size w W) => text_any v zs W (hv.below hW) (by omega)
 have hT : (⟨(zs.flatMap wordL).toArray⟩ : ByteArray).size ≤ 200 := by rw [Lib.size_eq]; have := text_len zs; show (zs.flatMap wordL).length ≤ 200; omega
 have hdig : (zs.flatMap wordL).countP isDig ≤ 97 := by have := text_dig zs; omega
 have hsub : (subst (zs.flatMap wordL)).length ≤ 400 := by have := subst_text zs; omega
 have hon := hp.on _ hdig
 have hTl : (⟨(zs.flatMap wordL).toArray⟩ : ByteArray).data.toList = zs.flatMap wordL := rfl
 rw [← hTl] at hon hsub
 clear hTl hdig
 generalize (⟨(zs.flatMap wordL).toArray⟩ : ByteArray) = T at *
 obtain ⟨a, c, rfl, _⟩ := hv
 have TX := Lib.hid tx
 clear tx
 have s1 : ∀ W, Below w.heap.size w W → Calls Tryz.prog 13 #[.string T] W (ScanR W (scanF parse T.data.toList 1 1 false [])) := fun W hW => scan_any parse T W (by omega) (he.below hW).2 (hp.sub W (he.below hW) T (by omega))
 have s2 : ∀ (Y : ByteArray) (hY : Y.size ≤ 1000) W, Below w.heap.size w W → Calls Tryz.prog 13 #[.string Y] W (ScanR W (scanF parse Y.data.toList 1 1 false [])) := fun Y hY W hW => scan_any parse Y W (by omega) (he.below hW).2 (hp.sub W (he.below hW) Y hY)
 have hlaw : (scanF parse T.data.toList 1 1 false []).err = 0 → _ := fun h => blanks_law hon h
 have hmax := scan_max parse T.data.toList.length T.data.toList 1 1 false [] (Nat.le_refl _) (by decide)
 generalize scanF parse T.data.toList 1 1 false [] = R at *
 have S1 : Hid (∀ W, Below w.heap.size w W → Calls Tryz.prog 13 #[.string T] W fun e w' => ∃ v, e = .returned (.tuple #[v, .agg #[.int .i64 R.line, .int .i64 R.col], .int .i64 R.err]) ∧ TokRow w' W.heap.size v R.toks ∧ Below W.heap.size W w') := Lib.hid s1
 have S2 := Lib.hid s2
 clear s1 s2 hp he hon
 go_enter Tryz.func6, Tryz.ntmps6
 go_upto_region 5 with (first
  | (go_at_call 11; with_reducible refine (KN.out _ (baseI B.out)).mono ?_; rintro e wx ⟨rfl, q⟩; replace B := Lib.hid (goI B.out q); clear q)
  | (go_at_call 12; with_reducible refine (TX.out _ (baseI B.out)).mono ?_; rintro e wx ⟨rfl, q⟩; replace B := Lib.hid (goI B.out q); clear q)
  | (go_at_call 13; with_reducible refine (S1.out _ (baseI B.out)).mono ?_; rintro e w1 ⟨v1, rfl, tr1, q1⟩)
  | fail "arm")
 have TR1 := Lib.hid (tr1.below (below_new w1 (.cells #[.int .i64 R.line, .int .i64 R.col] 27)))
 replace B := Lib.hid ((goI B.out q1).alloc (goI B.out q1).size (.cells #[.int .i64 R.line, .int .i64 R.col] 27))
 obtain ⟨a1, c1, rfl⟩ := tr1.len_eval
 clear tr1 q1
 generalize (w1.alloc (Obj.cells #[.int .i64 R.line, .int .i64 R.col] 27)) = W1 at *
 by_cases he : R.err = 0
 ·have ef : (R.err != 0) = false := by rw [he]; rfl
  obtain ⟨l, l', hR, hS, hsame, hinc, hlast⟩ := hlaw he
  subst hR
  have HLL := Lib.hid hsame.length
  have SAME := Lib.hid hsame
  have INC := Lib.hid hinc
  have LAST := Lib.hid hlast
  have HSC := Lib.hid hS
  have TR : Hid (TokRow W1 _ (.slice a1 l.length c1) l) := TR1
  have hl5 : l.length ≤ 5000 := hmax
  clear hsame hinc hlast hS he hlaw TR1 hmax
  go_upto_region 8 with (fail)
  go_wp2
  go_loopw [7, 8] (fun y i wr => ∃ (k : Nat) (Y : ByteArray), k ≤ T.size ∧ i = .int .i64 k ∧ y = .string Y ∧ Y.data.toList = [32, 32] ++ subst (T.data.toList.take k) ∧ wr = W1) (fun _ i _ => T.size - (intOf i).toNat)
  case atStart => exact ⟨0, ⟨#[32, 32]⟩, Nat.zero_le _, rfl, rfl, rfl, rfl⟩
  case round =>
   obtain ⟨k, Y, hk, rfl, rfl, hY, rfl⟩ := hrel
   have hYs : Y.size ≤ 402 := by
    have := subst_len T.data.toList k
    rw [Lib.size_eq, hY, List.length_append]
    show 2 + _ ≤ 402
    omega
   have HY := Lib.hid hY
   clear hY
   by_cases hlt : k < T.size
   ·have hlt2 : k < T.data.toList.length := by rw [← Lib.size_eq]; exact hlt
    have hnx := subst_take T.data.toList k hlt2
    have hg : T.data.toList[k] = T[k] := rfl
    rw [hg] at hnx
    by_cases h10 : T[k] = 10
    ·have x1 : (((T[k].toNat : Nat) : Int) == 10) = true := u8_eq_true T[k] 10 (by decide) h10
     rw [if_pos h10] at hnx
     have HN := Lib.hid hnx
     clear h10 hnx hg
     go_wp2
     go_round
     case rel => exact ⟨k + 1, _, hlt, by go_num, rfl, by rw [HN.out, ByteArray.data_append, Array.toList_append, HY.out, List.append_assoc]; rfl, (by first | rfl | trivial)⟩
     case measure => simp [intOf]; omega
    ·have x1 : (((T[k].toNat : Nat) : Int) == 10) = false := u8_eq_false T[k] 10 (by decide) h10
     rw [if_neg h10] at hnx
     have hex : (T.extract k (k + 1)).data.toList = [T[k]] := by
      rw [show (T.extract k (k + 1)).data.toList = (T.data.toList.drop k).take (k + 1 - k) by simp [ByteArray.data_extract], drop_at T k hlt, show k + 1 - k = 1 by omega]
      rfl
     have hxs : (T.extract k (k + 1)).size ≤ 1 := by rw [ByteArray.size_extract]; omega
     have HN := Lib.hid hnx
     have HX := Lib.hid hex
     clear h10 hnx hg hex
     go_wp2
     go_round
     case rel => exact ⟨k + 1, _, hlt, by go_num, rfl, by rw [HN.out, ByteArray.data_append, Array.toList_append, HY.out, HX.out, List.append_assoc], (by first | rfl | trivial)⟩
     case measure => simp [intOf]; omega
   ·obtain rfl : k = T.size := by omega
    have htk : T.data.toList.take T.size = T.data.toList := List.take_of_length_le (by rw [← Lib.size_eq]; exact Nat.le_refl _)
    rw [htk] at HY
    have hYT : (Y ++ (⟨#[32, 35, 32, 34]⟩ : ByteArray)).data.toList = [32, 32] ++ subst T.data.toList ++ tailL := by
     rw [ByteArray.data_append, Array.toList_append, HY.out]
     rfl
    have hYs2 : (Y ++ (⟨#[32, 35, 32, 34]⟩ : ByteArray)).size ≤ 1000 := by rw [ByteArray.size_append]; show Y.size + 4 ≤ 1000; omega
    have sc2 := fun W hW => S2.out _ hYs2 W hW
    rw [hYT, HSC.out] at sc2
    have SC2 : Hid (∀ W, Below w.heap.size w W → Calls Tryz.prog 13 #[.string (Y ++ (⟨#[32, 35, 32, 34]⟩ : ByteArray))] W fun e w' => ∃ v, e = .returned (.tuple #[v, .agg #[.int .i64 0, .int .i64 0], .int .i64 0]) ∧ TokRow w' W.heap.size v l' ∧ Below W.heap.size W w') := Lib.hid sc2
    clear sc2 hYT htk
    go_upto_region 15 with (first
     | (go_at_call 13; with_reducible refine (SC2.out _ (baseI B.out)).mono ?_; rintro e w2 ⟨v2, rfl, tr2, q2⟩)
     | fail "arm")
    have q3 := q2.alloc q2.size (.cells #[.int .i64 0, .int .i64 0] 27)
    have TB := Lib.hid (tr2.below (below_new w2 (.cells #[.int .i64 0, .int .i64 0] 27))).look
    have TA := Lib.hid (TR.out.look.below q3)
    replace B := Lib.hid (B.out.trans (q3.mono B.out.size))
    obtain ⟨a2, c2, rfl⟩ := tr2.len_eval
    clear tr2 q2 q3 TR
    generalize (w2.alloc (Obj.cells #[.int .i64 0, .int .i64 0] 27)) = W2 at *
    clear HY HSC SC2 S2 KN TX S1 hYs hYs2 hsub hT
    have n1 : ((l.length : Int) != (l'.length : Int)) = false := by rw [bne_eq_false_iff_eq]; have := HLL.out; omega
    go_wp2
    go_loopw [12] (fun i wr => ∃ k : Nat, k ≤ l.length ∧ i = .int .i64 k ∧ Below W2.heap.size W2 wr) (fun i _ => l.length - (intOf i).toNat)
    case atStart => exact ⟨0, Nat.zero_le _, rfl, Below.refl _ _⟩
    case round =>
     obtain ⟨k, hk, rfl, hB2⟩ := hrel
     have QB := Lib.hid hB2
     clear hB2
     by_cases hlt : k < l.length
     ·have hlt2 : k < l'.length := by have := HLL.out; omega
      have TA1 := TA.out.below QB.out
      have TB1 := TB.out.below QB.out
      obtain ⟨d, o, c3, e1, hd, q1⟩ := TA1.cell2 k hlt
      obtain ⟨d', o', c4, e2, hd', q2⟩ := TB1.cell2 k hlt2
      injection e1 with e1 _ e1c
      injection e2 with e2 _ e2c
      subst e1 e2 e1c e2c
      have ht := List.getElem?_eq_getElem hlt
      have hu := List.getElem?_eq_getElem hlt2
      have hsm := (sameB_iff _ _).2 (SAME.out.at_ k _ _ ht hu)
      have hpv : Hid (k = 0 ∨ ∃ j p, k = j + 1 ∧ l[j]? = some p ∧ (p.line < (l[k]).line ∨ (p.line = (l[k]).line ∧ p.col + 1 ≤ (l[k]).col))) := Lib.hid (by
       cases k with
       | zero => exact .inl rfl
       | succ j =>
        have hj := List.getElem?_eq_getElem (show j < l.length by omega)
        exact .inr ⟨j, _, rfl, hj, INC.out j _ _ hj ht⟩)
      generalize l[k] = t at *
      generalize l'[k] = u at *
      clear ht hu
      have x0 : wr.cell? ⟨d, o + k * 5, none⟩ = _ := q1 0 _ rfl
      have x1 := q1 1 _ rfl
      have x2 := q1 2 _ rfl
      have x3 := q1 3 _ rfl
      have x4 := q1 4 _ rfl
      have y0 : wr.cell? ⟨d', o' + k * 5, none⟩ = _ := q2 0 _ rfl
      have y1 := q2 1 _ rfl
      have y2 := q2 2 _ rfl
      have y3 := q2 3 _ rfl
      have y4 := q2 4 _ rfl
      clear q1 q2 TB1
      have hi : (k : Int) < (l.length : Int) := by omega
      have hi2 : (k : Int) < (l'.length : Int) := by omega
      have sm := fun (W : World) => same_is t u W
      rw [hsm] at sm
      unfold tokV Tok.cells at sm
      have RSM : Hid (Ret Tryz.prog wr 16 #[.agg #[.int .i64 t.kind, .string ⟨t.text.toArray⟩, .string ⟨t.value.toArray⟩, .int .i64 t.line, .int .i64 t.col], .agg #[.int .i64 u.kind, .string ⟨u.text.toArray⟩, .string ⟨u.value.toArray⟩, .int .i64 u.line, .int .i64 u.col]] (.bool true)) := Lib.hid (fun W _ => sm W)
      have SM1 := Lib.hid sm
      clear sm
      rcases hpv.out with hk0 | ⟨j, p, hkj, hp, hord⟩
      ·have tg : decide (0 < k) = false := decide_eq_false (by omega)
       clear hpv hsm TA1 hk0
       go_upto_region 20 with (fail)
       refine wp_tab (.v 72 (.slice (some ⟨d, o, none⟩) l.length c1) :: .v 73 (.int .i64 (k : Int)) :: .v 74 (.pointer (some ⟨d, o + k * 5, none⟩)) :: .v 75 (.agg #[.int .i64 t.kind, .string ⟨t.text.toArray⟩, .string ⟨t.value.toArray⟩, .int .i64 t.line, .int .i64 t.col]) :: .v 76 (.slice (some ⟨d', o', none⟩) l'.length c2) :: .v 77 (.int .i64 (k : Int)) :: .v 78 (.pointer (some ⟨d', o' + k * 5, none⟩)) :: .v 79 (.agg #[.int .i64 u.kind, .string ⟨u.text.toArray⟩, .string ⟨u.value.toArray⟩, .int .i64 u.line, .int .i64 u.col]) :: .v 80 (.bool true) :: .v 81 (.bool false) :: .v 82 (.bool false) :: .v 83 (.int .i64 (k : Int)) :: .v 84 (.bool false) :: .v 85 (.bool false) :: .v 86 undef :: .v 87 undef :: .v 88 undef :: .v 89 undef :: .v 90 undef :: .v 91 undef :: .v 92 undef :: .v 93 undef :: .v 94 undef :: .v 95 undef :: .v 96 undef :: .v 97 undef :: .v 98 undef :: .v 99 undef :: .v 100 undef :: .v 101 undef :: .v 102 undef :: .v 103 undef :: .v 104 undef :: .v 105 undef :: .v 106 undef :: .v 107 undef :: .v 108 undef :: .v 109 undef :: .v 110 undef :: .v 111 undef :: .v 112 undef :: .v 113 undef :: .v 114 undef :: .v 115 undef :: .v 116 undef :: .v 117 undef :: .v 118 undef :: .v 119 undef :: .v 120 undef :: .v 121 undef :: .v 122 undef :: .v 123 undef :: .v 124 undef :: .v 125 undef :: .v 126 undef :: .v 127 undef :: .v 128 undef :: .v 129 undef :: .v 130 undef :: .v 131 undef :: .v 132 (.bool false) :: .v 133 (.bool false) :: []) [] [] [] [] [] [] [] (by kernel_rfl) (Below.refl wr.heap.size wr) trivial trivial ⟨pu, pu, ?_, ?_, pu, pu, ?_, ?_, cl RSM.out, pu, pu, pu, ?_, pu, sk, sk, sk, sk, sk, sk, sk, sk, sk, sk, sk, sk, sk, sk, sk, sk, sk, sk, sk, sk, sk, sk, sk, sk, sk, sk, sk, sk, sk, sk, sk, sk, sk, sk, sk, sk, sk, sk, sk, sk, sk, sk, sk, sk, sk, sk, pu, pu, trivial⟩ ?_
       ·intro L a U ho J hn dd KK kk; refine .free rfl ?_; have r0 := J.read 0 rfl (dd.get 0 rfl); have r1 := J.read 1 rfl (dd.get 1 rfl); go_simp; exact kk.out _ _ (J.st 2 rfl rfl)
       ·intro L a U ho J hn dd KK kk; refine .free rfl ?_; have r2 := J.read 2 rfl (dd.get 2 rfl); have c0 := (J.bb.cell (p := ⟨d, o + k * 5, none⟩) hd).trans x0; have c1 := (J.bb.cell (p := ⟨d, o + k * 5 + 1, none⟩) hd).trans x1; have c2 := (J.bb.cell (p := ⟨d, o + k * 5 + 2, none⟩) hd).trans x2; have c3 := (J.bb.cell (p := ⟨d, o + k * 5 + 3, none⟩) hd).trans x3; have c4 := (J.bb.cell (p := ⟨d, o + k * 5 + 4, none⟩) hd).trans x4; go_simp; exact kk.out _ _ (J.st 3 rfl rfl)
       ·intro L a U ho J hn dd KK kk; refine .free rfl ?_; have r4 := J.read 4 rfl (dd.get 4 rfl); have r5 := J.read 5 rfl (dd.get 5 rfl); go_simp; exact kk.out _ _ (J.st 6 rfl rfl)
       ·intro L a U ho J hn dd KK kk; refine .free rfl ?_; have r6 := J.read 6 rfl (dd.get 6 rfl); have c0 := (J.bb.cell (p := ⟨d', o' + k * 5, none⟩) hd').trans y0; have c1 := (J.bb.cell (p := ⟨d', o' + k * 5 + 1, none⟩) hd').trans y1; have c2 := (J.bb.cell (p := ⟨d', o' + k * 5 + 2, none⟩) hd').trans y2; have c3 := (J.bb.cell (p := ⟨d', o' + k * 5 + 3, none⟩) hd').trans y3; have c4 := (J.bb.cell (p := ⟨d', o' + k * 5 + 4, none⟩) hd').trans y4; go_simp; exact kk.out _ _ (J.st 7 rfl rfl)
       ·intro L a U ho J hn dd KK kk; refine .pos (s := 82) rfl rfl (J.vals 10 _ _ rfl (dd.get 10 rfl)) ?_; have r11 := J.read 11 rfl (dd.get 11 rfl); go_simp; exact kk.out _ _ (J.st 12 rfl rfl)
       rintro σ W9 _ _ _ _ QQ
       simp only [slotsOf, finX, nval, nvalN, nvalA, Nat.reduceBEq, cond_true, cond_false, putAll, Act.put, List.setIfInBounds_toArray, List.set_cons_succ, List.set_cons_zero]
       have QB2 := Lib.hid (QB.out.trans (QQ.out.mono QB.out.size))
       clear QQ SM1 RSM
       go_wp2
       go_round
       case rel => exact ⟨k + 1, hlt, by go_num, QB2.out⟩
       case measure => simp [intOf]; omega
      ·have hjl : j < l.length := (List.getElem?_eq_some_iff.1 hp).1
       obtain ⟨d3, o3, c5, e3, _, q3⟩ := TA1.cell2 j hjl
       injection e3 with e3 _ e3c
       injection e3 with e3
       injection e3 with e3a e3b
       subst e3a e3b e3c
       have hM : l[j] = p := by rw [List.getElem?_eq_getElem hjl] at hp; injection hp
       rw [hM] at q3
       have z3 := q3 3 _ rfl
       have z4 := q3 4 _ rfl
       clear q3 hM hp hpv hsm TA1
       have hji : (j : Int) < (l.length : Int) := by omega
       have tg : decide (0 < k) = true := decide_eq_true (by omega)
       have tw : IntKind.i64.wrap (j : Int) = (j : Int) := IntWalk.i64_in _ (by omega)
       have tm : (k : Int) - 1 = (j : Int) := by omega
       clear hkj
       rcases hord with ho | ⟨ho, ho2⟩
       ·have b1 : decide (t.line < p.line) = false := decide_eq_false (by omega)
        have b2 : ((t.line : Int) == (p.line : Int)) = false := by rw [beq_eq_false_iff_ne]; omega
        clear ho
        go_upto_region 20 with (fail)
        refine wp_tab (.v 72 (.slice (some ⟨d, o, none⟩) l.length c1) :: .v 73 (.int .i64 (k : Int)) :: .v 74 (.pointer (some ⟨d, o + k * 5, none⟩)) :: .v 75 (.agg #[.int .i64 t.kind, .string ⟨t.text.toArray⟩, .string ⟨t.value.toArray⟩, .int .i64 t.line, .int .i64 t.col]) :: .v 76 (.slice (some ⟨d', o', none⟩) l'.length c2) :: .v 77 (.int .i64 (k : Int)) :: .v 78 (.pointer (some ⟨d', o' + k * 5, none⟩)) :: .v 79 (.agg #[.int .i64 u.kind, .string ⟨u.text.toArray⟩, .string ⟨u.value.toArray⟩, .int .i64 u.line, .int .i64 u.col]) :: .v 80 (.bool true) :: .v 81 (.bool false) :: .v 82 (.bool false) :: .v 83 (.int .i64 (k : Int)) :: .v 84 (.bool true) :: .v 85 (.bool true) :: .v 86 (.slice (some ⟨d, o, none⟩) l.length c1) :: .v 87 (.int .i64 (k : Int)) :: .v 88 (.pointer (some ⟨d, o + k * 5, none⟩)) :: .v 89 (.pointer (some ⟨d, o + k * 5 + 3, none⟩)) :: .v 90 (.pointer (some ⟨d, o + k * 5 + 3, none⟩)) :: .v 91 (.int .i64 (t.line : Int)) :: .v 92 (.slice (some ⟨d, o, none⟩) l.length c1) :: .v 93 (.int .i64 (k : Int)) :: .v 94 (.int .i64 (j : Int)) :: .v 95 (.pointer (some ⟨d, o + j * 5, none⟩)) :: .v 96 (.pointer (some ⟨d, o + j * 5 + 3, none⟩)) :: .v 97 (.pointer (some ⟨d, o + j * 5 + 3, none⟩)) :: .v 98 (.int .i64 (p.line : Int)) :: .v 99 (.bool false) :: .v 100 (.bool false) :: .v 101 (.slice (some ⟨d, o, none⟩) l.length c1) :: .v 102 (.int .i64 (k : Int)) :: .v 103 (.pointer (some ⟨d, o + k * 5, none⟩)) :: .v 104 (.pointer (some ⟨d, o + k * 5 + 3, none⟩)) :: .v 105 (.pointer (some ⟨d, o + k * 5 + 3, none⟩)) :: .v 106 (.int .i64 (t.line : Int)) :: .v 107 (.slice (some ⟨d, o, none⟩) l.length c1) :: .v 108 (.int .i64 (k : Int)) :: .v 109 (.int .i64 (j : Int)) :: .v 110 (.pointer (some ⟨d, o + j * 5, none⟩)) :: .v 111 (.pointer (some ⟨d, o + j * 5 + 3, none⟩)) :: .v 112 (.pointer (some ⟨d, o + j * 5 + 3, none⟩)) :: .v 113 (.int .i64 (p.line : Int)) :: .v 114 (.bool false) :: .v 115 (.bool false) :: .v 116 undef :: .v 117 undef :: .v 118 undef :: .v 119 undef :: .v 120 undef :: .v 121 undef :: .v 122 undef :: .v 123 undef :: .v 124 undef :: .v 125 undef :: .v 126 undef :: .v 127 undef :: .v 128 undef :: .v 129 undef :: .v 130 (.bool false) :: .v 131 (.bool false) :: .v 132 (.bool false) :: .v 133 (.bool false) :: []) [] [] [] [] [] [] [] (by kernel_rfl) (Below.refl wr.heap.size wr) trivial trivial ⟨pu, pu, ?_, ?_, pu, pu, ?_, ?_, cl RSM.out, pu, pu, pu, ?_, pu, pu, pu, ?_, pu, pu, ?_, pu, pu, ?_, ?_, pu, pu, ?_, ?_, pu, pu, pu, ?_, pu, pu, ?_, pu, pu, ?_, ?_, pu, pu, ?_, ?_, pu, sk, sk, sk, sk, sk, sk, sk, sk, sk, sk, sk, sk, sk, sk, pu, pu, pu, pu, trivial⟩ ?_
        ·intro L a U ho J hn dd KK kk; refine .free rfl ?_; have r0 := J.read 0 rfl (dd.get 0 rfl); have r1 := J.read 1 rfl (dd.get 1 rfl); go_simp; exact kk.out _ _ (J.st 2 rfl rfl)
        ·intro L a U ho J hn dd KK kk; refine .free rfl ?_; have r2 := J.read 2 rfl (dd.get 2 rfl); have c0 := (J.bb.cell (p := ⟨d, o + k * 5, none⟩) hd).trans x0; have c1 := (J.bb.cell (p := ⟨d, o + k * 5 + 1, none⟩) hd).trans x1; have c2 := (J.bb.cell (p := ⟨d, o + k * 5 + 2, none⟩) hd).trans x2; have c3 := (J.bb.cell (p := ⟨d, o + k * 5 + 3, none⟩) hd).trans x3; have c4 := (J.bb.cell (p := ⟨d, o + k * 5 + 4, none⟩) hd).trans x4; go_simp; exact kk.out _ _ (J.st 3 rfl rfl)
        ·intro L a U ho J hn dd KK kk; refine .free rfl ?_; have r4 := J.read 4 rfl (dd.get 4 rfl); have r5 := J.read 5 rfl (dd.get 5 rfl); go_simp; exact kk.out _ _ (J.st 6 rfl rfl)
        ·intro L a U ho J hn dd KK kk; refine .free rfl ?_; have r6 := J.read 6 rfl (dd.get 6 rfl); have c0 := (J.bb.cell (p := ⟨d', o' + k * 5, none⟩) hd').trans y0; have c1 := (J.bb.cell (p := ⟨d', o' + k * 5 + 1, none⟩) hd').trans y1; have c2 := (J.bb.cell (p := ⟨d', o' + k * 5 + 2, none⟩) hd').trans y2; have c3 := (J.bb.cell (p := ⟨d', o' + k * 5 + 3, none⟩) hd').trans y3; have c4 := (J.bb.cell (p := ⟨d', o' + k * 5 + 4, none⟩) hd').trans y4; go_simp; exact kk.out _ _ (J.st 7 rfl rfl)
        ·intro L a U ho J hn dd KK kk; refine .pos (s := 82) rfl rfl (J.vals 10 _ _ rfl (dd.get 10 rfl)) ?_; have r11 := J.read 11 rfl (dd.get 11 rfl); go_simp; exact kk.out _ _ (J.st 12 rfl rfl)
        ·intro L a U ho J hn dd KK kk; refine .pos (s := 85) rfl rfl (J.vals 13 _ _ rfl (dd.get 13 rfl)) ?_; have r14 := J.read 14 rfl (dd.get 14 rfl); have r15 := J.read 15 rfl (dd.get 15 rfl); go_simp; exact kk.out _ _ (J.st 16 rfl rfl)
        ·intro L a U ho J hn dd KK kk; refine .pos (s := 85) rfl rfl (J.vals 13 _ _ rfl (dd.get 13 rfl)) ?_; have r18 := J.read 18 rfl (dd.get 18 rfl); have cc := (J.bb.cell (p := ⟨d, o + k * 5 + 3, none⟩) hd).trans x3; go_simp; exact kk.out _ _ (J.st 19 rfl rfl)
        ·intro L a U ho J hn dd KK kk; refine .pos (s := 85) rfl rfl (J.vals 13 _ _ rfl (dd.get 13 rfl)) ?_; have r21 := J.read 21 rfl (dd.get 21 rfl); go_simp; exact kk.out _ _ (J.st 22 rfl rfl)
        ·intro L a U ho J hn dd KK kk; refine .pos (s := 85) rfl rfl (J.vals 13 _ _ rfl (dd.get 13 rfl)) ?_; have r20 := J.read 20 rfl (dd.get 20 rfl); have r22 := J.read 22 rfl (dd.get 22 rfl); go_simp; exact kk.out _ _ (J.st 23 rfl rfl)
        ·intro L a U ho J hn dd KK kk; refine .pos (s := 85) rfl rfl (J.vals 13 _ _ rfl (dd.get 13 rfl)) ?_; have r25 := J.read 25 rfl (dd.get 25 rfl); have cc := (J.bb.cell (p := ⟨d, o + j * 5 + 3, none⟩) hd).trans z3; go_simp; exact kk.out _ _ (J.st 26 rfl rfl)
        ·intro L a U ho J hn dd KK kk; refine .pos (s := 85) rfl rfl (J.vals 13 _ _ rfl (dd.get 13 rfl)) ?_; have r19 := J.read 19 rfl (dd.get 19 rfl); have r26 := J.read 26 rfl (dd.get 26 rfl); go_simp; exact kk.out _ _ (J.st 27 rfl rfl)
        ·intro L a U ho J hn dd KK kk; refine .pos (s := 100) rfl rfl (J.vals 28 _ _ rfl (dd.get 28 rfl)) ?_; have r29 := J.read 29 rfl (dd.get 29 rfl); have r30 := J.read 30 rfl (dd.get 30 rfl); go_simp; exact kk.out _ _ (J.st 31 rfl rfl)
        ·intro L a U ho J hn dd KK kk; refine .pos (s := 100) rfl rfl (J.vals 28 _ _ rfl (dd.get 28 rfl)) ?_; have r33 := J.read 33 rfl (dd.get 33 rfl); have cc := (J.bb.cell (p := ⟨d, o + k * 5 + 3, none⟩) hd).trans x3; go_simp; exact kk.out _ _ (J.st 34 rfl rfl)
        ·intro L a U ho J hn dd KK kk; refine .pos (s := 100) rfl rfl (J.vals 28 _ _ rfl (dd.get 28 rfl)) ?_; have r36 := J.read 36 rfl (dd.get 36 rfl); go_simp; exact kk.out _ _ (J.st 37 rfl rfl)
        ·intro L a U ho J hn dd KK kk; refine .pos (s := 100) rfl rfl (J.vals 28 _ _ rfl (dd.get 28 rfl)) ?_; have r35 := J.read 35 rfl (dd.get 35 rfl); have r37 := J.read 37 rfl (dd.get 37 rfl); go_simp; exact kk.out _ _ (J.st 38 rfl rfl)
        ·intro L a U ho J hn dd KK kk; refine .pos (s := 100) rfl rfl (J.vals 28 _ _ rfl (dd.get 28 rfl)) ?_; have r40 := J.read 40 rfl (dd.get 40 rfl); have cc := (J.bb.cell (p := ⟨d, o + j * 5 + 3, none⟩) hd).trans z3; go_simp; exact kk.out _ _ (J.st 41 rfl rfl)
        ·intro L a U ho J hn dd KK kk; refine .pos (s := 100) rfl rfl (J.vals 28 _ _ rfl (dd.get 28 rfl)) ?_; have r34 := J.read 34 rfl (dd.get 34 rfl); have r41 := J.read 41 rfl (dd.get 41 rfl); go_simp; exact kk.out _ _ (J.st 42 rfl rfl)
        rintro σ W9 _ _ _ _ QQ
        simp only [slotsOf, finX, nval, nvalN, nvalA, Nat.reduceBEq, cond_true, cond_false, putAll, Act.put, List.setIfInBounds_toArray, List.set_cons_succ, List.set_cons_zero]
        have QB2 := Lib.hid (QB.out.trans (QQ.out.mono QB.out.size))
        clear QQ SM1 RSM
        go_wp2
        go_round
        case rel => exact ⟨k + 1, hlt, by go_num, QB2.out⟩
        case measure => simp [intOf]; omega
       ·have b1 : decide (t.line < p.line) = false := decide_eq_false (by omega)
        have b2 : ((t.line : Int) == (p.line : Int)) = true := by rw [beq_iff_eq]; omega
        have b3 : decide (t.col ≤ p.col) = false := decide_eq_false (by omega)
        clear ho ho2
        go_upto_region 20 with (fail)
        refine wp_tab (.v 72 (.slice (some ⟨d, o, none⟩) l.length c1) :: .v 73 (.int .i64 (k : Int)) :: .v 74 (.pointer (some ⟨d, o + k * 5, none⟩)) :: .v 75 (.agg #[.int .i64 t.kind, .string ⟨t.text.toArray⟩, .string ⟨t.value.toArray⟩, .int .i64 t.line, .int .i64 t.col]) :: .v 76 (.slice (some ⟨d', o', none⟩) l'.length c2) :: .v 77 (.int .i64 (k : Int)) :: .v 78 (.pointer (some ⟨d', o' + k * 5, none⟩)) :: .v 79 (.agg #[.int .i64 u.kind, .string ⟨u.text.toArray⟩, .string ⟨u.value.toArray⟩, .int .i64 u.line, .int .i64 u.col]) :: .v 80 (.bool true) :: .v 81 (.bool false) :: .v 82 (.bool false) :: .v 83 (.int .i64 (k : Int)) :: .v 84 (.bool true) :: .v 85 (.bool true) :: .v 86 (.slice (some ⟨d, o, none⟩) l.length c1) :: .v 87 (.int .i64 (k : Int)) :: .v 88 (.pointer (some ⟨d, o + k * 5, none⟩)) :: .v 89 (.pointer (some ⟨d, o + k * 5 + 3, none⟩)) :: .v 90 (.pointer (some ⟨d, o + k * 5 + 3, none⟩)) :: .v 91 (.int .i64 (t.line : Int)) :: .v 92 (.slice (some ⟨d, o, none⟩) l.length c1) :: .v 93 (.int .i64 (k : Int)) :: .v 94 (.int .i64 (j : Int)) :: .v 95 (.pointer (some ⟨d, o + j * 5, none⟩)) :: .v 96 (.pointer (some ⟨d, o + j * 5 + 3, none⟩)) :: .v 97 (.pointer (some ⟨d, o + j * 5 + 3, none⟩)) :: .v 98 (.int .i64 (p.line : Int)) :: .v 99 (.bool false) :: .v 100 (.bool false) :: .v 101 (.slice (some ⟨d, o, none⟩) l.length c1) :: .v 102 (.int .i64 (k : Int)) :: .v 103 (.pointer (some ⟨d, o + k * 5, none⟩)) :: .v 104 (.pointer (some ⟨d, o + k * 5 + 3, none⟩)) :: .v 105 (.pointer (some ⟨d, o + k * 5 + 3, none⟩)) :: .v 106 (.int .i64 (t.line : Int)) :: .v 107 (.slice (some ⟨d, o, none⟩) l.length c1) :: .v 108 (.int .i64 (k : Int)) :: .v 109 (.int .i64 (j : Int)) :: .v 110 (.pointer (some ⟨d, o + j * 5, none⟩)) :: .v 111 (.pointer (some ⟨d, o + j * 5 + 3, none⟩)) :: .v 112 (.pointer (some ⟨d, o + j * 5 + 3, none⟩)) :: .v 113 (.int .i64 (p.line : Int)) :: .v 114 (.bool true) :: .v 115 (.bool true) :: .v 116 (.slice (some ⟨d, o, none⟩) l.length c1) :: .v 117 (.int .i64 (k : Int)) :: .v 118 (.pointer (some ⟨d, o + k * 5, none⟩)) :: .v 119 (.pointer (some ⟨d, o + k * 5 + 3, none⟩)) :: .v 120 (.pointer (some ⟨d, o + k * 5 + 3 + 1, none⟩)) :: .v 121 (.int .i64 (t.col : Int)) :: .v 122 (.slice (some ⟨d, o, none⟩) l.length c1) :: .v 123 (.int .i64 (k : Int)) :: .v 124 (.int .i64 (j : Int)) :: .v 125 (.pointer (some ⟨d, o + j * 5, none⟩)) :: .v 126 (.pointer (some ⟨d, o + j * 5 + 3, none⟩)) :: .v 127 (.pointer (some ⟨d, o + j * 5 + 3 + 1, none⟩)) :: .v 128 (.int .i64 (p.col : Int)) :: .v 129 (.bool false) :: .v 130 (.bool false) :: .v 131 (.bool false) :: .v 132 (.bool false) :: .v 133 (.bool false) :: []) [] [] [] [] [] [] [] (by kernel_rfl) (Below.refl wr.heap.size wr) trivial trivial ⟨pu, pu, ?_, ?_, pu, pu, ?_, ?_, cl RSM.out, pu, pu, pu, ?_, pu, pu, pu, ?_, pu, pu, ?_, pu, pu, ?_, ?_, pu, pu, ?_, ?_, pu, pu, pu, ?_, pu, pu, ?_, pu, pu, ?_, ?_, pu, pu, ?_, ?_, pu, pu, pu, ?_, pu, pu, ?_, pu, pu, ?_, ?_, pu, pu, ?_, ?_, pu, pu, pu, pu, trivial⟩ ?_
        ·intro L a U ho J hn dd KK kk; refine .free rfl ?_; have r0 := J.read 0 rfl (dd.get 0 rfl); have r1 := J.read 1 rfl (dd.get 1 rfl); go_simp; exact kk.out _ _ (J.st 2 rfl rfl)
        ·intro L a U ho J hn dd KK kk; refine .free rfl ?_; have r2 := J.read 2 rfl (dd.get 2 rfl); have c0 := (J.bb.cell (p := ⟨d, o + k * 5, none⟩) hd).trans x0; have c1 := (J.bb.cell (p := ⟨d, o + k * 5 + 1, none⟩) hd).trans x1; have c2 := (J.bb.cell (p := ⟨d, o + k * 5 + 2, none⟩) hd).trans x2; have c3 := (J.bb.cell (p := ⟨d, o + k * 5 + 3, none⟩) hd).trans x3; have c4 := (J.bb.cell (p := ⟨d, o + k * 5 + 4, none⟩) hd).trans x4; go_simp; exact kk.out _ _ (J.st 3 rfl rfl)
        ·intro L a U ho J hn dd KK kk; refine .free rfl ?_; have r4 := J.read 4 rfl (dd.get 4 rfl); have r5 := J.read 5 rfl (dd.get 5 rfl); go_simp; exact kk.out _ _ (J.st 6 rfl rfl)
        ·intro L a U ho J hn dd KK kk; refine .free rfl ?_; have r6 := J.read 6 rfl (dd.get 6 rfl); have c0 := (J.bb.cell (p := ⟨d', o' + k * 5, none⟩) hd').trans y0; have c1 := (J.bb.cell (p := ⟨d', o' + k * 5 + 1, none⟩) hd').trans y1; have c2 := (J.bb.cell (p := ⟨d', o' + k * 5 + 2, none⟩) hd').trans y2; have c3 := (J.bb.cell (p := ⟨d', o' + k * 5 + 3, none⟩) hd').trans y3; have c4 := (J.bb.cell (p := ⟨d', o' + k * 5 + 4, none⟩) hd').trans y4; go_simp; exact kk.out _ _ (J.st 7 rfl rfl)
        ·intro L a U ho J hn dd KK kk; refine .pos (s := 82) rfl rfl (J.vals 10 _ _ rfl (dd.get 10 rfl)) ?_; have r11 := J.read 11 rfl (dd.get 11 rfl); go_simp; exact kk.out _ _ (J.st 12 rfl rfl)
        ·intro L a U ho J hn dd KK kk; refine .pos (s := 85) rfl rfl (J.vals 13 _ _ rfl (dd.get 13 rfl)) ?_; have r14 := J.read 14 rfl (dd.get 14 rfl); have r15 := J.read 15 rfl (dd.get 15 rfl); go_simp; exact kk.out _ _ (J.st 16 rfl rfl)
        ·intro L a U ho J hn dd KK kk; refine .pos (s := 85) rfl rfl (J.vals 13 _ _ rfl (dd.get 13 rfl)) ?_; have r18 := J.read 18 rfl (dd.get 18 rfl); have cc := (J.bb.cell (p := ⟨d, o + k * 5 + 3, none⟩) hd).trans x3; go_simp; exact kk.out _ _ (J.st 19 rfl rfl)
        ·intro L a U ho J hn dd KK kk; refine .pos (s := 85) rfl rfl (J.vals 13 _ _ rfl (dd.get 13 rfl)) ?_; have r21 := J.read 21 rfl (dd.get 21 rfl); go_simp; exact kk.out _ _ (J.st 22 rfl rfl)
        ·intro L a U ho J hn dd KK kk; refine .pos (s := 85) rfl rfl (J.vals 13 _ _ rfl (dd.get 13 rfl)) ?_; have r20 := J.read 20 rfl (dd.get 20 rfl); have r22 := J.read 22 rfl (dd.get 22 rfl); go_simp; exact kk.out _ _ (J.st 23 rfl rfl)
        ·intro L a U ho J hn dd KK kk; refine .pos (s := 85) rfl rfl (J.vals 13 _ _ rfl (dd.get 13 rfl)) ?_; have r25 := J.read 25 rfl (dd.get 25 rfl); have cc := (J.bb.cell (p := ⟨d, o + j * 5 + 3, none⟩) hd).trans z3; go_simp; exact kk.out _ _ (J.st 26 rfl rfl)
        ·intro L a U ho J hn dd KK kk; refine .pos (s := 85) rfl rfl (J.vals 13 _ _ rfl (dd.get 13 rfl)) ?_; have r19 := J.read 19 rfl (dd.get 19 rfl); have r26 := J.read 26 rfl (dd.get 26 rfl); go_simp; exact kk.out _ _ (J.st 27 rfl rfl)
        ·intro L a U ho J hn dd KK kk; refine .pos (s := 100) rfl rfl (J.vals 28 _ _ rfl (dd.get 28 rfl)) ?_; have r29 := J.read 29 rfl (dd.get 29 rfl); have r30 := J.read 30 rfl (dd.get 30 rfl); go_simp; exact kk.out _ _ (J.st 31 rfl rfl)
        ·intro L a U ho J hn dd KK kk; refine .pos (s := 100) rfl rfl (J.vals 28 _ _ rfl (dd.get 28 rfl)) ?_; have r33 := J.read 33 rfl (dd.get 33 rfl); have cc := (J.bb.cell (p := ⟨d, o + k * 5 + 3, none⟩) hd).trans x3; go_simp; exact kk.out _ _ (J.st 34 rfl rfl)
        ·intro L a U ho J hn dd KK kk; refine .pos (s := 100) rfl rfl (J.vals 28 _ _ rfl (dd.get 28 rfl)) ?_; have r36 := J.read 36 rfl (dd.get 36 rfl); go_simp; exact kk.out _ _ (J.st 37 rfl rfl)
        ·intro L a U ho J hn dd KK kk; refine .pos (s := 100) rfl rfl (J.vals 28 _ _ rfl (dd.get 28 rfl)) ?_; have r35 := J.read 35 rfl (dd.get 35 rfl); have r37 := J.read 37 rfl (dd.get 37 rfl); go_simp; exact kk.out _ _ (J.st 38 rfl rfl)
        ·intro L a U ho J hn dd KK kk; refine .pos (s := 100) rfl rfl (J.vals 28 _ _ rfl (dd.get 28 rfl)) ?_; have r40 := J.read 40 rfl (dd.get 40 rfl); have cc := (J.bb.cell (p := ⟨d, o + j * 5 + 3, none⟩) hd).trans z3; go_simp; exact kk.out _ _ (J.st 41 rfl rfl)
        ·intro L a U ho J hn dd KK kk; refine .pos (s := 100) rfl rfl (J.vals 28 _ _ rfl (dd.get 28 rfl)) ?_; have r34 := J.read 34 rfl (dd.get 34 rfl); have r41 := J.read 41 rfl (dd.get 41 rfl); go_simp; exact kk.out _ _ (J.st 42 rfl rfl)
        ·intro L a U ho J hn dd KK kk; refine .pos (s := 115) rfl rfl (J.vals 43 _ _ rfl (dd.get 43 rfl)) ?_; have r44 := J.read 44 rfl (dd.get 44 rfl); have r45 := J.read 45 rfl (dd.get 45 rfl); go_simp; exact kk.out _ _ (J.st 46 rfl rfl)
        ·intro L a U ho J hn dd KK kk; refine .pos (s := 115) rfl rfl (J.vals 43 _ _ rfl (dd.get 43 rfl)) ?_; have r48 := J.read 48 rfl (dd.get 48 rfl); have cc := (J.bb.cell (p := ⟨d, o + k * 5 + 4, none⟩) hd).trans x4; go_simp; exact kk.out _ _ (J.st 49 rfl rfl)
        ·intro L a U ho J hn dd KK kk; refine .pos (s := 115) rfl rfl (J.vals 43 _ _ rfl (dd.get 43 rfl)) ?_; have r51 := J.read 51 rfl (dd.get 51 rfl); go_simp; exact kk.out _ _ (J.st 52 rfl rfl)
        ·intro L a U ho J hn dd KK kk; refine .pos (s := 115) rfl rfl (J.vals 43 _ _ rfl (dd.get 43 rfl)) ?_; have r50 := J.read 50 rfl (dd.get 50 rfl); have r52 := J.read 52 rfl (dd.get 52 rfl); go_simp; exact kk.out _ _ (J.st 53 rfl rfl)
        ·intro L a U ho J hn dd KK kk; refine .pos (s := 115) rfl rfl (J.vals 43 _ _ rfl (dd.get 43 rfl)) ?_; have r55 := J.read 55 rfl (dd.get 55 rfl); have cc := (J.bb.cell (p := ⟨d, o + j * 5 + 4, none⟩) hd).trans z4; go_simp; exact kk.out _ _ (J.st 56 rfl rfl)
        ·intro L a U ho J hn dd KK kk; refine .pos (s := 115) rfl rfl (J.vals 43 _ _ rfl (dd.get 43 rfl)) ?_; have r49 := J.read 49 rfl (dd.get 49 rfl); have r56 := J.read 56 rfl (dd.get 56 rfl); go_simp; exact kk.out _ _ (J.st 57 rfl rfl)
        rintro σ W9 _ _ _ _ QQ
        simp only [slotsOf, finX, nval, nvalN, nvalA, Nat.reduceBEq, cond_true, cond_false, putAll, Act.put, List.setIfInBounds_toArray, List.set_cons_succ, List.set_cons_zero]
        have QB2 := Lib.hid (QB.out.trans (QQ.out.mono QB.out.size))
        clear QQ SM1 RSM
        go_wp2
        go_round
        case rel => exact ⟨k + 1, hlt, by go_num, QB2.out⟩
        case measure => simp [intOf]; omega
     ·obtain rfl : k = l.length := by omega
      have BB := Lib.hid (B.out.trans (QB.out.mono B.out.size))
      by_cases h0 : l.length = 0
      ·have e0 : ((l.length : Int) == 0) = true := by rw [beq_iff_eq]; omega
       clear h0
       go_wp2
       go_ret
       exact ⟨rfl, BB.out⟩
      ·have e0 : ((l.length : Int) == 0) = false := by rw [beq_eq_false_iff_ne]; omega
       obtain ⟨m, hm⟩ : ∃ m, l.length - 1 = m := ⟨_, rfl⟩
       have hml : m < l.length := by omega
       obtain ⟨d, o, c3, e1, hd, q1⟩ := (TA.out.below QB.out).cell2 m hml
       injection e1 with e1 _ e1c
       subst e1 e1c
       have hla := LAST.out l[m] (by rw [hm]; exact List.getElem?_eq_getElem hml)
       have x0 : wr.cell? ⟨d, o + m * 5, none⟩ = _ := q1 0 _ rfl
       generalize l[m] = t at *
       have x5 : (t.kind == 5) = true := by rw [hla]; rfl
       have hmi : (l.length : Int) - 1 = (m : Int) := by omega
       have hmi2 : (m : Int) < (l.length : Int) := by omega
       clear q1 hla hm h0
       go_wp2
       go_ret
       exact ⟨rfl, BB.out⟩
 ·have ef : (R.err != 0) = true := by rw [bne_iff_ne]; exact he
  go_wp2
  go_ret
  exact ⟨rfl, B.out⟩

end Go.Proofs.YtfhmgkicccfghaaGreatDoor
