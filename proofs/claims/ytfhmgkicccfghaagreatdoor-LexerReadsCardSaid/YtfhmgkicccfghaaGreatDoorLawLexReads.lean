/- LexerReads: for every list of numbers of words and of methods the call returns true. -/
import Derived.Test.YtfhmgkicccfghaaGreatDoorLexZE
import Derived.Test.YtfhmgkicccfghaaGreatDoorLexYD
namespace Go.Proofs.YtfhmgkicccfghaaGreatDoor
set_option linter.all false
open Go.RowKit

theorem ne_blk2 {b t : Nat} (h : b ≠ t) : some b ≠ some t := fun e => h (Option.some.inj e)
theorem Rd.near {w w1 w' : World} {b n : Nat} {s : Value} {ts : List Tok} (h : Rd w b s n ts) (e : Near w w1) (q : Below w1.heap.size w1 w') : Rd w' b s n ts := by
 rcases e with rfl | rfl
 ·exact h.below q
 ·exact h.below ((Below.refl _ w).drew.trans (q.mono (Nat.le_refl _)))
theorem TokAt.near {w w1 w' : World} {v : Value} {ts : List Tok} (h : TokAt w v ts) (e : Near w w1) (q : Below w1.heap.size w1 w') : TokAt w' v ts := by
 rcases e with rfl | rfl
 ·exact h.below q
 ·exact h.below ((Below.refl _ w).drew.trans (q.mono (Nat.le_refl _)))
theorem Rd.belowE {w W : World} {b n B : Nat} {s : Value} {ts : List Tok} (h : Rd w b s n ts) (e : w.heap.size = B) (q : Below B w W) : Rd W b s n ts := by subst e; exact h.below q
theorem TokAt.belowE {w W : World} {B : Nat} {v : Value} {ts : List Tok} (h : TokAt w v ts) (e : w.heap.size = B) (q : Below B w W) : TokAt W v ts := by subst e; exact h.below q
theorem RestTo.uniq {ts : List Tok} {n m m' : Nat} (h : RestTo ts n m) (h' : RestTo ts n m') : m = m' := by
 rcases Nat.lt_trichotomy m m' with h1 | h1 | h1
 ·have hl : m < ts.length := Nat.lt_of_lt_of_le h1 h'.lt
  exact absurd (h.fin _ (List.getElem?_eq_getElem hl)) (h'.no m _ h.le h1 (List.getElem?_eq_getElem hl))
 ·exact h1
 ·have hl : m' < ts.length := Nat.lt_of_lt_of_le h1 h.lt
  exact absurd (h'.fin _ (List.getElem?_eq_getElem hl)) (h.no m' _ h'.le h1 (List.getElem?_eq_getElem hl))
theorem TokAt.part {w : World} {d c c' : Nat} {ts : List Tok} (h : TokAt w (.slice (some ⟨d, 0, none⟩) ts.length c) ts) (n m : Nat) (hn : n ≤ m) (hm : m ≤ ts.length) (off : Nat) (ho : off = n * 5) : TokAt w (.slice (some ⟨d, off, none⟩) ((ts.drop n).take (m - n)).length c') ((ts.drop n).take (m - n)) := by
 subst ho
 refine ⟨_, c', rfl, fun i t ht => ?_⟩
 have hi : i < m - n := by
  have := (List.getElem?_eq_some_iff.1 ht).1
  rw [List.length_take] at this
  omega
 rw [List.getElem?_take_of_lt hi, List.getElem?_drop] at ht
 obtain ⟨a, c2, e, h2⟩ := h
 injection e with e1 _ _
 subst e1
 obtain ⟨d', o', e2, hd, hc⟩ := h2 (n + i) t ht
 injection e2 with e2
 injection e2 with e3 e4
 subst e3 e4
 refine ⟨d, n * 5, rfl, hd, fun j u hu => ?_⟩
 have := hc j u hu
 rw [show 0 + (n + i) * 5 + j = n * 5 + i * 5 + j by omega] at this
 exact this

set_option maxRecDepth 100000 in
set_option maxHeartbeats 8000000 in
theorem lexReads_walk (v u : Value) (zs ss : List Int) (w : World) (he : Env w) (hv : U8At w v zs) (hu : U8At w u ss) :
  Calls Tryz.prog 7 #[v, u] w fun e w' => e = .returned (.bool true) ∧ Below w.heap.size w w' := by
 have KN := Lib.hid (fun W (hW : Below w.heap.size w W) => known51 W (he.below hW))
 have B := Lib.hid (Below.refl w.heap.size w)
 have HU := Lib.hid hu
 by_cases hlim : 40 < zs.length
 ·obtain ⟨a, c, rfl, _⟩ := hv
  obtain ⟨a', c', rfl, _⟩ := hu
  have t1 : decide ((zs.length : Int) > 40) = true := decide_eq_true (by omega)
  go_enter Tryz.func7, Tryz.ntmps7
  go_wp2_with (first
   | (go_at_call 11; with_reducible refine (KN.out _ (baseI B.out)).mono ?_; rintro e wx ⟨rfl, q⟩; replace B := Lib.hid (goI B.out q); clear q)
   | fail "arm")
  go_ret
  exact ⟨rfl, B.out⟩
 by_cases hlim2 : 30 < ss.length
 ·obtain ⟨a, c, rfl, _⟩ := hv
  obtain ⟨a', c', rfl, _⟩ := hu
  have t1 : decide ((zs.length : Int) > 40) = false := decide_eq_false (by omega)
  have t2 : decide ((ss.length : Int) > 30) = true := decide_eq_true (by omega)
  go_enter Tryz.func7, Tryz.ntmps7
  go_wp2_with (first
   | (go_at_call 11; with_reducible refine (KN.out _ (baseI B.out)).mono ?_; rintro e wx ⟨rfl, q⟩; replace B := Lib.hid (goI B.out q); clear q)
   | fail "arm")
  go_ret
  exact ⟨rfl, B.out⟩
 have t1 : decide ((zs.length : Int) > 40) = false := decide_eq_false (by omega)
 have t2 : decide ((ss.length : Int) > 30) = false := decide_eq_false (by omega)
 obtain ⟨parse, hp⟩ := parse_exists
 have tx := fun W (hW : Below w.heap.size w W) => text_any v zs W (hv.below hW) (by omega)
 have hT : (⟨(zs.flatMap wordL).toArray⟩ : ByteArray).size ≤ 200 := by rw [Lib.size_eq]; have := text_len zs; show (zs.flatMap wordL).length ≤ 200; omega
 generalize (⟨(zs.flatMap wordL).toArray⟩ : ByteArray) = T at *
 obtain ⟨a, c, rfl, _⟩ := hv
 obtain ⟨a', c', rfl, _⟩ := hu
 have TX := Lib.hid tx
 clear tx
 have s2 : ∀ W, Below w.heap.size w W → Calls Tryz.prog 14 #[.string T] W (ScanR W (scanF parse T.data.toList 1 1 false [])) := fun W hW => kscan_any parse T W (by omega) (hp.sub W (he.below hW) T (by omega))
 have hmax := scan_max parse T.data.toList.length T.data.toList 1 1 false [] (Nat.le_refl _) (by decide)
 generalize scanF parse T.data.toList 1 1 false [] = R at *
 have S2 : Hid (∀ W, Below w.heap.size w W → Calls Tryz.prog 14 #[.string T] W fun e w' => ∃ v, e = .returned (.tuple #[v, .agg #[.int .i64 R.line, .int .i64 R.col], .int .i64 R.err]) ∧ TokRow w' W.heap.size v R.toks ∧ Below W.heap.size W w') := Lib.hid s2
 clear s2 hp he
 go_enter Tryz.func7, Tryz.ntmps7
 go_upto_region 4 with (first
  | (go_at_call 11; with_reducible refine (KN.out _ (baseI B.out)).mono ?_; rintro e wx ⟨rfl, q⟩; replace B := Lib.hid (goI B.out q); clear q)
  | (go_at_call 12; with_reducible refine (TX.out _ (baseI B.out)).mono ?_; rintro e wx ⟨rfl, q⟩; replace B := Lib.hid (goI B.out q); clear q)
  | (go_at_call 14; with_reducible refine (S2.out _ (baseI B.out)).mono ?_; rintro e w1 ⟨v1, rfl, tr1, q1⟩)
  | fail "arm")
 have TR1 := Lib.hid (tr1.below (below_new w1 (.cells #[.int .i64 R.line, .int .i64 R.col] 27)))
 replace B := Lib.hid ((goI B.out q1).alloc (goI B.out q1).size (.cells #[.int .i64 R.line, .int .i64 R.col] 27))
 have hform : (R.toks = [] ∧ v1 = .slice none 0 0) ∨ (R.toks ≠ [] ∧ ∃ d c, v1 = .slice (some ⟨d, 0, none⟩) R.toks.length c ∧ R.toks.length ≤ c) := by
  rcases tr1 with h | ⟨d, c, r, h1, _, h3, _, h5⟩
  ·exact .inl h
  ·exact .inr ⟨h3, d, c, h1, h5.le⟩
 clear tr1 q1
 generalize (w1.alloc (Obj.cells #[.int .i64 R.line, .int .i64 R.col] 27)) = W1 at *
 by_cases he : R.err = 0
 ·have ef : (R.err != 0) = false := by rw [he]; rfl
  generalize R.toks = ts at *
  have OP : Hid (Calls Tryz.prog 17 #[v1] W1 fun e w' => (∃ b v, W1.heap.size ≤ b ∧ e = .returned (.pointer (some ⟨b, 0, none⟩)) ∧ Rdr w' b v 0 ∧ TokRow w' W1.heap.size v ts) ∧ Below W1.heap.size W1 w') := Lib.hid (open_tok _ ts W1 _ TR1.out hmax)
  have hform2 : ∃ a1 c1, v1 = .slice a1 ts.length c1 ∧ ((ts = [] ∧ a1 = none ∧ c1 = 0) ∨ (ts ≠ [] ∧ (∃ d, a1 = some ⟨d, 0, none⟩) ∧ ts.length ≤ c1)) := by
   rcases hform with ⟨rfl, rfl⟩ | ⟨h1, d, c, rfl, h2⟩
   ·exact ⟨none, 0, rfl, .inl ⟨rfl, rfl, rfl⟩⟩
   ·exact ⟨_, c, rfl, .inr ⟨h1, ⟨d, rfl⟩, h2⟩⟩
  clear hform
  obtain ⟨a1, c1, rfl, hform⟩ := hform2
  have HF := Lib.hid hform
  clear he hform
  go_upto_region 7 with (first
   | (go_at_call 17; with_reducible refine OP.out.mono ?_; rintro e w2 ⟨⟨b, s, hb, rfl, hr, ht⟩, q2⟩)
   | fail "arm")
  have hs : ∃ a l c, s = .slice a l c := by obtain ⟨a, c, h⟩ := ht.len_eval; exact ⟨a, _, c, h⟩
  have RR := Lib.hid (show Rd w2 b s 0 ts from ⟨hr, ht.look, hmax, by decide⟩)
  have TA := Lib.hid (TR1.out.look.below q2)
  have hwb : w.heap.size ≤ b := Nat.le_trans B.out.size hb
  replace B := Lib.hid (B.out.trans (q2.mono B.out.size))
  clear OP hr ht q2 TR1
  go_wp2
  go_loopw [9, 51] (fun nv iv wr => ∃ n j : Nat, n ≤ ts.length ∧ j ≤ ss.length ∧ nv = .int .i64 n ∧ iv = .int .i64 j ∧ Rd wr b s n ts ∧ TokAt wr (.slice a1 ts.length c1) ts ∧ Below w.heap.size w wr) (fun _ iv _ => ss.length - (intOf iv).toNat)
  case atStart => exact ⟨0, 0, Nat.zero_le _, Nat.zero_le _, rfl, rfl, RR.out, TA.out, B.out⟩
  case round =>
   obtain ⟨n, j, hn, hj, rfl, rfl, hrr, hta, hB⟩ := hrel
   clear RR TA B
   have RR := Lib.hid hrr
   have TA := Lib.hid hta
   have B := Lib.hid hB
   have hn5 := hrr.nle
   by_cases hlt : j < ss.length
   ·obtain ⟨a3, c3, e3, hh⟩ := HU.out.below B.out
    injection e3 with e1 _ e3
    subst e1 e3
    obtain ⟨h0, h1, d, o, rfl, _, hc⟩ := hh j _ (List.getElem?_eq_getElem hlt)
    have hbl := hrr.r.lt
    generalize ss[j] = z at *
    clear hh hrr hta hB
    have hi : (j : Int) < (ss.length : Int) := by omega
    go_upto_region 11 with (fail)
    clear hc hi
    go_upto_if 58 with (fail)
    have K12 := Lib.hid (Blk.fresh wr #[.int .i64 0, .string ⟨#[]⟩, .string ⟨#[]⟩, .int .i64 0, .int .i64 0] 38)
    have q := below_new wr (.cells #[.int .i64 0, .string ⟨#[]⟩, .string ⟨#[]⟩, .int .i64 0, .int .i64 0] 38)
    have RR0 := RR
    have TA0 := TA
    have Q0 := Lib.hid q
    replace RR := Lib.hid (RR.out.below q)
    replace TA := Lib.hid (TA.out.below q)
    replace B := Lib.hid (B.out.alloc B.out.size (.cells #[.int .i64 0, .string ⟨#[]⟩, .string ⟨#[]⟩, .int .i64 0, .int .i64 0] 38))
    have htb : b ≠ wr.heap.size := by omega
    have hwt := B.out.size
    have hws : w.heap.size ≤ wr.heap.size := by omega
    clear q hbl hwt
    generalize (wr.alloc (Obj.cells #[.int .i64 0, .string ⟨#[]⟩, .string ⟨#[]⟩, .int .i64 0, .int .i64 0] 38)) = W3 at *
    generalize htw : wr.heap.size = tb at *
    go_cut [] from 58 to 62 (fun wc => Blk wc tb (tokN ts n).cells.toArray 38 ∧ Rd wc b s n ts ∧ TokAt wc (.slice a1 ts.length c1) ts ∧ Below w.heap.size w wc)
    case first =>
     by_cases hlt2 : n < ts.length
     ·obtain ⟨d2, o2, c2, e2, q2⟩ := TA.out.cell n hlt2
      injection e2 with e2 _ e4
      subst e2 e4
      have hN : ts[n] = tokN ts n := by have := tokN_some hlt2; rw [List.getElem?_eq_getElem hlt2] at this; injection this
      rw [hN] at q2
      have y0 : W3.cell? ⟨d2, o2 + n * 5, none⟩ = _ := q2 0 _ rfl
      have y1 := q2 1 _ rfl
      have y2 := q2 2 _ rfl
      have y3 := q2 3 _ rfl
      have y4 := q2 4 _ rfl
      clear q2 hN
      have hi : (n : Int) < (ts.length : Int) := by omega
      have c0 := K12.out.at_ 0 _ rfl
      have z0 := K12.out.free 0
      have c1 := K12.out.at_ 1 _ rfl
      have z1 := K12.out.free 1
      have c2 := K12.out.at_ 2 _ rfl
      have z2 := K12.out.free 2
      have c3 := K12.out.at_ 3 _ rfl
      have z3 := K12.out.free 3
      have c4 := K12.out.at_ 4 _ rfl
      have z4 := K12.out.free 4
      go_wp2
      have QS := below_set5 (Below.refl tb W3) (Nat.le_refl _) (.int .i64 (tokN ts n).kind) (.string ⟨(tokN ts n).text.toArray⟩) (.string ⟨(tokN ts n).value.toArray⟩) (.int .i64 (tokN ts n).line) (.int .i64 (tokN ts n).col)
      go_meet
      case rel => exact ⟨K12.out.set5 _ _ _ _ _, RR0.out.belowE htw (Q0.out.trans QS), TA0.out.belowE htw (Q0.out.trans QS), B.out.trans (QS.mono hws)⟩
     ·go_wp2
      go_meet
      case rel => exact ⟨by rw [tokN_none hlt2]; exact K12.out, RR.out, TA.out, B.out⟩
    case rest =>
     clear K12 RR TA B RR0 TA0 Q0 htw
     obtain ⟨hk, hrr, hta, hB⟩ := hcut
     have hmn := hrr.nle
     have K12 := Lib.hid hk
     have RR := Lib.hid hrr
     have TA := Lib.hid hta
     have B := Lib.hid hB
     have pk := fun W (h : Rd W b s n ts) => peek_any h
     have nx := fun W (h : Rd W b s n ts) => next_any h
     have at_ := fun W (h : Rd W b s n ts) => at_any h
     have pl := fun W (h : TokAt W (.slice a1 ts.length c1) ts) => place_any _ h hmax hn5
     have tkt : ∀ W, Rd W b s n ts → ∀ k, true = (decide (n < ts.length) && (tokN ts n).kind == k) → Calls Tryz.prog 23 #[ptrV b, .int .i64 k] W fun e w' => (e = .returned (.tuple #[.agg #[.int .i64 (tokN ts n).kind, .string ⟨(tokN ts n).text.toArray⟩, .string ⟨(tokN ts n).value.toArray⟩, .int .i64 (tokN ts n).line, .int .i64 (tokN ts n).col], .bool true]) ∧ Rdr w' b s (n + 1)) ∧ W.grownBy w' (some b) := fun W h k hi => rdtake_any k h true hi
     have tkf : ∀ W, Rd W b s n ts → ∀ k, false = (decide (n < ts.length) && (tokN ts n).kind == k) → Calls Tryz.prog 23 #[ptrV b, .int .i64 k] W fun e w' => (e = .returned (.tuple #[.agg #[.int .i64 0, .string ⟨#[]⟩, .string ⟨#[]⟩, .int .i64 0, .int .i64 0], .bool false]) ∧ Rdr w' b s (n)) ∧ W.grownBy w' (some b) := fun W h k hi => rdtake_any k h false hi
     have ac := fun W (h : Rd W b s n ts) S is hi => accept_any S h is hi
     generalize tokN ts n = t at *
     unfold tokV at pk nx
     unfold Tok.cells at pk nx hk
     unfold acceptB at ac
     generalize hfd : decide (n < ts.length) = fd at *
     have K12b : Hid (Blk wc tb #[.int .i64 t.kind, .string ⟨t.text.toArray⟩, .string ⟨t.value.toArray⟩, .int .i64 t.line, .int .i64 t.col] 38) := Lib.hid hk
     clear K12
     have K12 := K12b
     clear K12b hk
     generalize (⟨t.text.toArray⟩ : ByteArray) = TX at *
     generalize (⟨t.value.toArray⟩ : ByteArray) = TV at *
     generalize (placeS ts n).1 = l at *
     generalize (placeS ts n).2 = c2 at *
     have PK : Hid (∀ W, Rd W b s n ts → Calls Tryz.prog 18 #[.pointer (some ⟨b, 0, none⟩)] W fun e w' => e = .returned (.tuple #[.agg #[.int .i64 t.kind, .string TX, .string TV, .int .i64 t.line, .int .i64 t.col], .bool fd]) ∧ Below W.heap.size W w') := Lib.hid pk
     have PS : Hid (∀ W, Rd W b s n ts → Calls Tryz.prog 19 #[.pointer (some ⟨b, 0, none⟩)] W fun e w' => e = .returned (.int .i64 n) ∧ Below W.heap.size W w') := Lib.hid (fun W h => pos_any b s n W h.r)
     have AT : Hid (∀ W, Rd W b s n ts → Calls Tryz.prog 20 #[.pointer (some ⟨b, 0, none⟩)] W fun e w' => e = .returned (.agg #[.int .i64 l, .int .i64 c2]) ∧ Below W.heap.size W w') := Lib.hid at_
     have PLC : Hid (∀ W, TokAt W (.slice a1 ts.length c1) ts → Calls Tryz.prog 21 #[.slice a1 ts.length c1, .int .i64 n] W fun e w' => e = .returned (.agg #[.int .i64 l, .int .i64 c2]) ∧ Below W.heap.size W w') := Lib.hid pl
     have NX := Lib.hid nx
     have TKT := Lib.hid tkt
     have TKF := Lib.hid tkf
     have AC := Lib.hid ac
     clear pk nx at_ pl tkt tkf ac hrr hta hB
     go_upto_region 15 with (first
      | (go_at_call 18; with_reducible refine (PK.out _ RR.out).mono ?_; rintro e wx ⟨rfl, q⟩; replace K12 := Lib.hid (K12.out.near (by first | exact Near.same _ | exact Near.one _) q); replace RR := Lib.hid (RR.out.near (by first | exact Near.same _ | exact Near.one _) q); replace TA := Lib.hid (TA.out.near (by first | exact Near.same _ | exact Near.one _) q); replace B := Lib.hid (goI B.out q); clear q)
      | fail "arm")
     have K13 := Lib.hid (Blk.fresh wx #[.int .i64 t.kind, .string TX, .string TV, .int .i64 t.line, .int .i64 t.col] 38)
     have q := below_new wx (.cells #[.int .i64 t.kind, .string TX, .string TV, .int .i64 t.line, .int .i64 t.col] 38)
     replace K12 := Lib.hid (K12.out.below q)
     replace RR := Lib.hid (RR.out.below q)
     replace TA := Lib.hid (TA.out.below q)
     replace B := Lib.hid (B.out.alloc B.out.size (.cells #[.int .i64 t.kind, .string TX, .string TV, .int .i64 t.line, .int .i64 t.col] 38))
     clear q
     generalize (wx.alloc (Obj.cells #[.int .i64 t.kind, .string TX, .string TV, .int .i64 t.line, .int .i64 t.col] 38)) = W4 at *
     have x120 := K12.out.at_ 0 _ rfl
     have x121 := K12.out.at_ 1 _ rfl
     have x122 := K12.out.at_ 2 _ rfl
     have x123 := K12.out.at_ 3 _ rfl
     have x124 := K12.out.at_ 4 _ rfl
     have x130 := K13.out.at_ 0 _ rfl
     have x131 := K13.out.at_ 1 _ rfl
     have x132 := K13.out.at_ 2 _ rfl
     have x133 := K13.out.at_ 3 _ rfl
     have x134 := K13.out.at_ 4 _ rfl
     go_upto_region 17 with (first
      | (go_at_call 19; with_reducible refine (PS.out _ RR.out).mono ?_; rintro e wx ⟨rfl, q⟩; replace K12 := Lib.hid (K12.out.near (by first | exact Near.same _ | exact Near.one _) q); replace RR := Lib.hid (RR.out.near (by first | exact Near.same _ | exact Near.one _) q); replace TA := Lib.hid (TA.out.near (by first | exact Near.same _ | exact Near.one _) q); replace B := Lib.hid (goI B.out q); clear q)
      | (go_at_call 20; with_reducible refine (AT.out _ RR.out).mono ?_; rintro e wx ⟨rfl, q⟩; replace K12 := Lib.hid (K12.out.near (by first | exact Near.same _ | exact Near.one _) q); replace RR := Lib.hid (RR.out.near (by first | exact Near.same _ | exact Near.one _) q); replace TA := Lib.hid (TA.out.near (by first | exact Near.same _ | exact Near.one _) q); replace B := Lib.hid (goI B.out q); clear q)
      | (go_at_call 21; with_reducible refine (PLC.out _ TA.out).mono ?_; rintro e wx ⟨rfl, q⟩; replace K12 := Lib.hid (K12.out.near (by first | exact Near.same _ | exact Near.one _) q); replace RR := Lib.hid (RR.out.near (by first | exact Near.same _ | exact Near.one _) q); replace TA := Lib.hid (TA.out.near (by first | exact Near.same _ | exact Near.one _) q); replace B := Lib.hid (goI B.out q); clear q)
      | fail "arm")
     clear x120 x121 x122 x123 x124 x130 x131 x132 x133 x134 K13 PK PS AT PLC
     have hz6 : 0 ≤ z % 6 := Int.emod_nonneg _ (by decide)
     have hz7 : z % 6 < 6 := Int.emod_lt_of_pos _ (by decide)
     have hd0 : 0 ≤ z / 6 := Int.ediv_nonneg h0 (by decide)
     have hd1 : z / 6 ≤ 42 := by omega
     rcases (by omega : z % 6 = 0 ∨ z % 6 = 1 ∨ z % 6 = 2 ∨ z % 6 = 3 ∨ (z % 6 ≠ 0 ∧ z % 6 ≠ 1 ∧ z % 6 ≠ 2 ∧ z % 6 ≠ 3)) with h6 | h6 | h6 | h6 | ⟨g0, g1, g2, g3⟩
     ·as_aux_lemma =>
       have m0 : (z % 6 == 0) = true := by rw [h6]; rfl
       clear h6
       cases fd with
       | true =>
        have hlt3 : n < ts.length := of_decide_eq_true hfd
        have NX2 : Hid (Calls Tryz.prog 22 #[.pointer (some ⟨b, 0, none⟩)] wx fun e w' => (e = .returned (.tuple #[.agg #[.int .i64 t.kind, .string TX, .string TV, .int .i64 t.line, .int .i64 t.col], .bool true]) ∧ Rdr w' b s (n + 1)) ∧ wx.grownBy w' (some b)) := Lib.hid (NX.out wx RR.out)
        go_upto_region 26 with (first
         | (go_at_call 22; with_reducible refine NX2.out.mono ?_; rintro e wx ⟨⟨rfl, hr2⟩, q⟩; have g := near_grown (by first | exact Near.same _ | exact Near.one _) q; replace K12 := Lib.hid (K12.out.grown g (ne_blk2 htb)); replace TA := Lib.hid (TA.out.grown RR.out.r hs g); replace B := Lib.hid (B.out.grown g B.out.size (fun k hk => by injection hk with hk; omega)); replace RR := Lib.hid (RR.out.grown hs g hr2 (by omega)); clear q g hr2)
         | fail "arm")
        have K15 := Lib.hid (Blk.fresh wx #[.int .i64 t.kind, .string TX, .string TV, .int .i64 t.line, .int .i64 t.col] 38)
        have q := below_new wx (.cells #[.int .i64 t.kind, .string TX, .string TV, .int .i64 t.line, .int .i64 t.col] 38)
        replace K12 := Lib.hid (K12.out.below q)
        replace RR := Lib.hid (RR.out.below q)
        replace TA := Lib.hid (TA.out.below q)
        replace B := Lib.hid (B.out.alloc B.out.size (.cells #[.int .i64 t.kind, .string TX, .string TV, .int .i64 t.line, .int .i64 t.col] 38))
        clear q
        generalize (wx.alloc (Obj.cells #[.int .i64 t.kind, .string TX, .string TV, .int .i64 t.line, .int .i64 t.col] 38)) = W5 at *
        have x120 := K12.out.at_ 0 _ rfl
        have x121 := K12.out.at_ 1 _ rfl
        have x122 := K12.out.at_ 2 _ rfl
        have x123 := K12.out.at_ 3 _ rfl
        have x124 := K12.out.at_ 4 _ rfl
        have x150 := K15.out.at_ 0 _ rfl
        have x151 := K15.out.at_ 1 _ rfl
        have x152 := K15.out.at_ 2 _ rfl
        have x153 := K15.out.at_ 3 _ rfl
        have x154 := K15.out.at_ 4 _ rfl
        go_wp2
        exact ⟨⟨n + 1, j + 1, by omega, by omega, by go_num, by go_num, RR.out, TA.out, B.out⟩, by simp [intOf]; omega⟩
       | false =>
        have NX2 : Hid (Calls Tryz.prog 22 #[.pointer (some ⟨b, 0, none⟩)] wx fun e w' => (e = .returned (.tuple #[.agg #[.int .i64 t.kind, .string TX, .string TV, .int .i64 t.line, .int .i64 t.col], .bool false]) ∧ Rdr w' b s (n)) ∧ wx.grownBy w' (some b)) := Lib.hid (NX.out wx RR.out)
        go_upto_region 26 with (first
         | (go_at_call 22; with_reducible refine NX2.out.mono ?_; rintro e wx ⟨⟨rfl, hr2⟩, q⟩; have g := near_grown (by first | exact Near.same _ | exact Near.one _) q; replace K12 := Lib.hid (K12.out.grown g (ne_blk2 htb)); replace TA := Lib.hid (TA.out.grown RR.out.r hs g); replace B := Lib.hid (B.out.grown g B.out.size (fun k hk => by injection hk with hk; omega)); replace RR := Lib.hid (RR.out.grown hs g hr2 (by omega)); clear q g hr2)
         | fail "arm")
        have K15 := Lib.hid (Blk.fresh wx #[.int .i64 t.kind, .string TX, .string TV, .int .i64 t.line, .int .i64 t.col] 38)
        have q := below_new wx (.cells #[.int .i64 t.kind, .string TX, .string TV, .int .i64 t.line, .int .i64 t.col] 38)
        replace K12 := Lib.hid (K12.out.below q)
        replace RR := Lib.hid (RR.out.below q)
        replace TA := Lib.hid (TA.out.below q)
        replace B := Lib.hid (B.out.alloc B.out.size (.cells #[.int .i64 t.kind, .string TX, .string TV, .int .i64 t.line, .int .i64 t.col] 38))
        clear q
        generalize (wx.alloc (Obj.cells #[.int .i64 t.kind, .string TX, .string TV, .int .i64 t.line, .int .i64 t.col] 38)) = W5 at *
        have x120 := K12.out.at_ 0 _ rfl
        have x121 := K12.out.at_ 1 _ rfl
        have x122 := K12.out.at_ 2 _ rfl
        have x123 := K12.out.at_ 3 _ rfl
        have x124 := K12.out.at_ 4 _ rfl
        have x150 := K15.out.at_ 0 _ rfl
        have x151 := K15.out.at_ 1 _ rfl
        have x152 := K15.out.at_ 2 _ rfl
        have x153 := K15.out.at_ 3 _ rfl
        have x154 := K15.out.at_ 4 _ rfl
        go_wp2
        exact ⟨⟨n, j + 1, by omega, by omega, rfl, by go_num, RR.out, TA.out, B.out⟩, by simp [intOf]; omega⟩
     ·as_aux_lemma =>
       have m0 : (z % 6 == 0) = false := by rw [h6]; rfl
       have m1 : (z % 6 == 1) = true := by rw [h6]; rfl
       clear h6
       have q0 : 0 ≤ z / 6 % 5 := Int.emod_nonneg _ (by decide)
       have q1 : z / 6 % 5 < 5 := Int.emod_lt_of_pos _ (by decide)
       go_upto_region 32 with (fail)
       generalize (1 + z / 6 % 5) = kk at *
       cases fd with
       | true =>
        have hlt3 : n < ts.length := of_decide_eq_true hfd
        cases hk : (t.kind == kk) with
        | true =>
         have TK2 : Hid (Calls Tryz.prog 23 #[.pointer (some ⟨b, 0, none⟩), .int .i64 kk] wx fun e w' => (e = .returned (.tuple #[.agg #[.int .i64 t.kind, .string TX, .string TV, .int .i64 t.line, .int .i64 t.col], .bool true]) ∧ Rdr w' b s (n + 1)) ∧ wx.grownBy w' (some b)) := Lib.hid (TKT.out wx RR.out kk (by rw [hk]; rfl))
         go_upto_region 33 with (first
          | (go_at_call 23; with_reducible refine TK2.out.mono ?_; rintro e wx ⟨⟨rfl, hr2⟩, q⟩; have g := near_grown (by first | exact Near.same _ | exact Near.one _) q; replace K12 := Lib.hid (K12.out.grown g (ne_blk2 htb)); replace TA := Lib.hid (TA.out.grown RR.out.r hs g); replace B := Lib.hid (B.out.grown g B.out.size (fun k hk => by injection hk with hk; omega)); replace RR := Lib.hid (RR.out.grown hs g hr2 (by omega)); clear q g hr2)
          | fail "arm")
         have K18 := Lib.hid (Blk.fresh wx #[.int .i64 t.kind, .string TX, .string TV, .int .i64 t.line, .int .i64 t.col] 38)
         have q := below_new wx (.cells #[.int .i64 t.kind, .string TX, .string TV, .int .i64 t.line, .int .i64 t.col] 38)
         replace K12 := Lib.hid (K12.out.below q)
         replace RR := Lib.hid (RR.out.below q)
         replace TA := Lib.hid (TA.out.below q)
         replace B := Lib.hid (B.out.alloc B.out.size (.cells #[.int .i64 t.kind, .string TX, .string TV, .int .i64 t.line, .int .i64 t.col] 38))
         clear q
         generalize (wx.alloc (Obj.cells #[.int .i64 t.kind, .string TX, .string TV, .int .i64 t.line, .int .i64 t.col] 38)) = W5 at *
         have x120 := K12.out.at_ 0 _ rfl
         have x121 := K12.out.at_ 1 _ rfl
         have x122 := K12.out.at_ 2 _ rfl
         have x123 := K12.out.at_ 3 _ rfl
         have x124 := K12.out.at_ 4 _ rfl
         have x180 := K18.out.at_ 0 _ rfl
         have x181 := K18.out.at_ 1 _ rfl
         have x182 := K18.out.at_ 2 _ rfl
         have x183 := K18.out.at_ 3 _ rfl
         have x184 := K18.out.at_ 4 _ rfl
         go_wp2
         exact ⟨⟨n + 1, j + 1, by omega, by omega, by go_num, by go_num, RR.out, TA.out, B.out⟩, by simp [intOf]; omega⟩
        | false =>
         have TK2 : Hid (Calls Tryz.prog 23 #[.pointer (some ⟨b, 0, none⟩), .int .i64 kk] wx fun e w' => (e = .returned (.tuple #[.agg #[.int .i64 0, .string ⟨#[]⟩, .string ⟨#[]⟩, .int .i64 0, .int .i64 0], .bool false]) ∧ Rdr w' b s (n)) ∧ wx.grownBy w' (some b)) := Lib.hid (TKF.out wx RR.out kk (by rw [hk]; rfl))
         go_upto_region 33 with (first
          | (go_at_call 23; with_reducible refine TK2.out.mono ?_; rintro e wx ⟨⟨rfl, hr2⟩, q⟩; have g := near_grown (by first | exact Near.same _ | exact Near.one _) q; replace K12 := Lib.hid (K12.out.grown g (ne_blk2 htb)); replace TA := Lib.hid (TA.out.grown RR.out.r hs g); replace B := Lib.hid (B.out.grown g B.out.size (fun k hk => by injection hk with hk; omega)); replace RR := Lib.hid (RR.out.grown hs g hr2 (by omega)); clear q g hr2)
          | fail "arm")
         have K18 := Lib.hid (Blk.fresh wx #[.int .i64 0, .string ⟨#[]⟩, .string ⟨#[]⟩, .int .i64 0, .int .i64 0] 38)
         have q := below_new wx (.cells #[.int .i64 0, .string ⟨#[]⟩, .string ⟨#[]⟩, .int .i64 0, .int .i64 0] 38)
         replace K12 := Lib.hid (K12.out.below q)
         replace RR := Lib.hid (RR.out.below q)
         replace TA := Lib.hid (TA.out.below q)
         replace B := Lib.hid (B.out.alloc B.out.size (.cells #[.int .i64 0, .string ⟨#[]⟩, .string ⟨#[]⟩, .int .i64 0, .int .i64 0] 38))
         clear q
         generalize (wx.alloc (Obj.cells #[.int .i64 0, .string ⟨#[]⟩, .string ⟨#[]⟩, .int .i64 0, .int .i64 0] 38)) = W5 at *
         have x120 := K12.out.at_ 0 _ rfl
         have x121 := K12.out.at_ 1 _ rfl
         have x122 := K12.out.at_ 2 _ rfl
         have x123 := K12.out.at_ 3 _ rfl
         have x124 := K12.out.at_ 4 _ rfl
         have x180 := K18.out.at_ 0 _ rfl
         have x181 := K18.out.at_ 1 _ rfl
         have x182 := K18.out.at_ 2 _ rfl
         have x183 := K18.out.at_ 3 _ rfl
         have x184 := K18.out.at_ 4 _ rfl
         go_wp2
         exact ⟨⟨n, j + 1, by omega, by omega, rfl, by go_num, RR.out, TA.out, B.out⟩, by simp [intOf]; omega⟩
       | false =>
        have TK2 : Hid (Calls Tryz.prog 23 #[.pointer (some ⟨b, 0, none⟩), .int .i64 kk] wx fun e w' => (e = .returned (.tuple #[.agg #[.int .i64 0, .string ⟨#[]⟩, .string ⟨#[]⟩, .int .i64 0, .int .i64 0], .bool false]) ∧ Rdr w' b s (n)) ∧ wx.grownBy w' (some b)) := Lib.hid (TKF.out wx RR.out kk (rfl))
        go_upto_region 33 with (first
         | (go_at_call 23; with_reducible refine TK2.out.mono ?_; rintro e wx ⟨⟨rfl, hr2⟩, q⟩; have g := near_grown (by first | exact Near.same _ | exact Near.one _) q; replace K12 := Lib.hid (K12.out.grown g (ne_blk2 htb)); replace TA := Lib.hid (TA.out.grown RR.out.r hs g); replace B := Lib.hid (B.out.grown g B.out.size (fun k hk => by injection hk with hk; omega)); replace RR := Lib.hid (RR.out.grown hs g hr2 (by omega)); clear q g hr2)
         | fail "arm")
        have K18 := Lib.hid (Blk.fresh wx #[.int .i64 0, .string ⟨#[]⟩, .string ⟨#[]⟩, .int .i64 0, .int .i64 0] 38)
        have q := below_new wx (.cells #[.int .i64 0, .string ⟨#[]⟩, .string ⟨#[]⟩, .int .i64 0, .int .i64 0] 38)
        replace K12 := Lib.hid (K12.out.below q)
        replace RR := Lib.hid (RR.out.below q)
        replace TA := Lib.hid (TA.out.below q)
        replace B := Lib.hid (B.out.alloc B.out.size (.cells #[.int .i64 0, .string ⟨#[]⟩, .string ⟨#[]⟩, .int .i64 0, .int .i64 0] 38))
        clear q
        generalize (wx.alloc (Obj.cells #[.int .i64 0, .string ⟨#[]⟩, .string ⟨#[]⟩, .int .i64 0, .int .i64 0] 38)) = W5 at *
        have x120 := K12.out.at_ 0 _ rfl
        have x121 := K12.out.at_ 1 _ rfl
        have x122 := K12.out.at_ 2 _ rfl
        have x123 := K12.out.at_ 3 _ rfl
        have x124 := K12.out.at_ 4 _ rfl
        have x180 := K18.out.at_ 0 _ rfl
        have x181 := K18.out.at_ 1 _ rfl
        have x182 := K18.out.at_ 2 _ rfl
        have x183 := K18.out.at_ 3 _ rfl
        have x184 := K18.out.at_ 4 _ rfl
        go_wp2
        exact ⟨⟨n, j + 1, by omega, by omega, rfl, by go_num, RR.out, TA.out, B.out⟩, by simp [intOf]; omega⟩
     ·as_aux_lemma =>
       have m0 : (z % 6 == 0) = false := by rw [h6]; rfl
       have m1 : (z % 6 == 1) = false := by rw [h6]; rfl
       have m2 : (z % 6 == 2) = true := by rw [h6]; rfl
       clear h6
       have WD : Hid (∀ W, Calls Tryz.prog 24 #[.int .u8 (z / 6)] W fun e w' => e = .returned (.string ⟨(wordL (z / 6)).toArray⟩) ∧ Below W.heap.size W w') := Lib.hid (fun W => words_any (z / 6) hd0 (by omega) W)
       generalize (⟨(wordL (z / 6)).toArray⟩ : ByteArray) = X at *
       go_upto_region 39 with (first
        | (go_at_call 24; with_reducible refine (WD.out _).mono ?_; rintro e wx ⟨rfl, q⟩; replace K12 := Lib.hid (K12.out.near (by first | exact Near.same _ | exact Near.one _) q); replace RR := Lib.hid (RR.out.near (by first | exact Near.same _ | exact Near.one _) q); replace TA := Lib.hid (TA.out.near (by first | exact Near.same _ | exact Near.one _) q); replace B := Lib.hid (goI B.out q); clear q)
        | fail "arm")
       cases fd with
       | true =>
        have hlt3 : n < ts.length := of_decide_eq_true hfd
        cases hx : (TX.toList == X.toList) with
        | true =>
         cases h1k : (t.kind == 1) with
         | true =>
          have AC2 : Hid (Calls Tryz.prog 25 #[.pointer (some ⟨b, 0, none⟩), .string X] wx fun e w' => (e = .returned (.bool true) ∧ Rdr w' b s (n + 1)) ∧ wx.grownBy w' (some b)) := Lib.hid (AC.out wx RR.out X true (by rw [hx, h1k]; rfl))

          go_wp2_with (first
           | (go_at_call 25; with_reducible refine AC2.out.mono ?_; rintro e wx ⟨⟨rfl, hr2⟩, q⟩; have g := near_grown (by first | exact Near.same _ | exact Near.one _) q; replace K12 := Lib.hid (K12.out.grown g (ne_blk2 htb)); replace TA := Lib.hid (TA.out.grown RR.out.r hs g); replace B := Lib.hid (B.out.grown g B.out.size (fun k hk => by injection hk with hk; omega)); replace RR := Lib.hid (RR.out.grown hs g hr2 (by omega)); clear q g hr2; have x120 := K12.out.at_ 0 _ rfl; have x121 := K12.out.at_ 1 _ rfl)
           | fail "arm")
          exact ⟨⟨n + 1, j + 1, by omega, by omega, by go_num, by go_num, RR.out, TA.out, B.out⟩, by simp [intOf]; omega⟩
         | false =>
          cases h4k : (t.kind == 4) with
          | true =>
           have AC2 : Hid (Calls Tryz.prog 25 #[.pointer (some ⟨b, 0, none⟩), .string X] wx fun e w' => (e = .returned (.bool true) ∧ Rdr w' b s (n + 1)) ∧ wx.grownBy w' (some b)) := Lib.hid (AC.out wx RR.out X true (by rw [hx, h1k, h4k]; rfl))

           go_wp2_with (first
            | (go_at_call 25; with_reducible refine AC2.out.mono ?_; rintro e wx ⟨⟨rfl, hr2⟩, q⟩; have g := near_grown (by first | exact Near.same _ | exact Near.one _) q; replace K12 := Lib.hid (K12.out.grown g (ne_blk2 htb)); replace TA := Lib.hid (TA.out.grown RR.out.r hs g); replace B := Lib.hid (B.out.grown g B.out.size (fun k hk => by injection hk with hk; omega)); replace RR := Lib.hid (RR.out.grown hs g hr2 (by omega)); clear q g hr2; have x120 := K12.out.at_ 0 _ rfl; have x121 := K12.out.at_ 1 _ rfl)
            | fail "arm")
           exact ⟨⟨n + 1, j + 1, by omega, by omega, by go_num, by go_num, RR.out, TA.out, B.out⟩, by simp [intOf]; omega⟩
          | false =>
           have AC2 : Hid (Calls Tryz.prog 25 #[.pointer (some ⟨b, 0, none⟩), .string X] wx fun e w' => (e = .returned (.bool false) ∧ Rdr w' b s (n)) ∧ wx.grownBy w' (some b)) := Lib.hid (AC.out wx RR.out X false (by rw [hx, h1k, h4k]; rfl))

           go_wp2_with (first
            | (go_at_call 25; with_reducible refine AC2.out.mono ?_; rintro e wx ⟨⟨rfl, hr2⟩, q⟩; have g := near_grown (by first | exact Near.same _ | exact Near.one _) q; replace K12 := Lib.hid (K12.out.grown g (ne_blk2 htb)); replace TA := Lib.hid (TA.out.grown RR.out.r hs g); replace B := Lib.hid (B.out.grown g B.out.size (fun k hk => by injection hk with hk; omega)); replace RR := Lib.hid (RR.out.grown hs g hr2 (by omega)); clear q g hr2; have x120 := K12.out.at_ 0 _ rfl; have x121 := K12.out.at_ 1 _ rfl)
            | fail "arm")
           exact ⟨⟨n, j + 1, by omega, by omega, rfl, by go_num, RR.out, TA.out, B.out⟩, by simp [intOf]; omega⟩
        | false =>
         have AC2 : Hid (Calls Tryz.prog 25 #[.pointer (some ⟨b, 0, none⟩), .string X] wx fun e w' => (e = .returned (.bool false) ∧ Rdr w' b s (n)) ∧ wx.grownBy w' (some b)) := Lib.hid (AC.out wx RR.out X false (by rw [hx]; simp))

         go_wp2_with (first
          | (go_at_call 25; with_reducible refine AC2.out.mono ?_; rintro e wx ⟨⟨rfl, hr2⟩, q⟩; have g := near_grown (by first | exact Near.same _ | exact Near.one _) q; replace K12 := Lib.hid (K12.out.grown g (ne_blk2 htb)); replace TA := Lib.hid (TA.out.grown RR.out.r hs g); replace B := Lib.hid (B.out.grown g B.out.size (fun k hk => by injection hk with hk; omega)); replace RR := Lib.hid (RR.out.grown hs g hr2 (by omega)); clear q g hr2; have x120 := K12.out.at_ 0 _ rfl; have x121 := K12.out.at_ 1 _ rfl)
          | fail "arm")
         exact ⟨⟨n, j + 1, by omega, by omega, rfl, by go_num, RR.out, TA.out, B.out⟩, by simp [intOf]; omega⟩
       | false =>
        have AC2 : Hid (Calls Tryz.prog 25 #[.pointer (some ⟨b, 0, none⟩), .string X] wx fun e w' => (e = .returned (.bool false) ∧ Rdr w' b s (n)) ∧ wx.grownBy w' (some b)) := Lib.hid (AC.out wx RR.out X false (rfl))

        go_wp2_with (first
         | (go_at_call 25; with_reducible refine AC2.out.mono ?_; rintro e wx ⟨⟨rfl, hr2⟩, q⟩; have g := near_grown (by first | exact Near.same _ | exact Near.one _) q; replace K12 := Lib.hid (K12.out.grown g (ne_blk2 htb)); replace TA := Lib.hid (TA.out.grown RR.out.r hs g); replace B := Lib.hid (B.out.grown g B.out.size (fun k hk => by injection hk with hk; omega)); replace RR := Lib.hid (RR.out.grown hs g hr2 (by omega)); clear q g hr2; have x120 := K12.out.at_ 0 _ rfl; have x121 := K12.out.at_ 1 _ rfl)
         | fail "arm")
        exact ⟨⟨n, j + 1, by omega, by omega, rfl, by go_num, RR.out, TA.out, B.out⟩, by simp [intOf]; omega⟩
     ·as_aux_lemma =>
       have m0 : (z % 6 == 0) = false := by rw [h6]; rfl
       have m1 : (z % 6 == 1) = false := by rw [h6]; rfl
       have m2 : (z % 6 == 2) = false := by rw [h6]; rfl
       have m3 : (z % 6 == 3) = true := by rw [h6]; rfl
       clear h6
       go_upto_block 3 with (fail)
       go_cut [22] from 206 to 219 (fun mv wd => ∃ m : Nat, mv = .int .i64 m ∧ RestTo ts n m ∧ wd = wx)
       case first =>
        go_wp2_with (fail)
        go_loopw [22] (fun mv wy => ∃ m : Nat, n ≤ m ∧ m ≤ ts.length ∧ mv = .int .i64 m ∧ (∀ j t, n ≤ j → j < m → ts[j]? = some t → t.kind ≠ 5) ∧ wy = wx) (fun mv _ => ts.length - (intOf mv).toNat)
        case atStart => exact ⟨n, Nat.le_refl _, hn, rfl, (fun j t h1 h2 => by omega), rfl⟩
        case round =>
         obtain ⟨m, hm1, hm2, rfl, hno, rfl⟩ := hrel
         have HNO := Lib.hid hno
         clear hno
         by_cases hlm : m < ts.length
         ·obtain ⟨d2, o2, c3, e2, q2⟩ := TA.out.cell m hlm
          injection e2 with e2 _ e4
          subst e2 e4
          have y0 : wr.cell? ⟨d2, o2 + m * 5, none⟩ = _ := q2 0 _ rfl
          clear q2
          have hmt := List.getElem?_eq_getElem hlm
          generalize ts[m] = tm at *
          have HMT := Lib.hid hmt
          clear hmt
          have hi : (m : Int) < (ts.length : Int) := by omega
          by_cases h5 : tm.kind = 5
          ·have x5 : (tm.kind == 5) = true := by rw [h5]; rfl
           have x6 : (tm.kind != 5) = false := by rw [bne, x5]; rfl
           have H5 := Lib.hid h5
           clear h5
           go_wp2
           go_meet
           case rel => exact ⟨m, rfl, ⟨hm1, hm2, HNO.out, fun u hu => by rw [HMT.out] at hu; injection hu with hu; rw [← hu]; exact H5.out⟩, rfl⟩
          ·have x5 : (tm.kind == 5) = false := by rw [beq_eq_false_iff_ne]; exact h5
           have x6 : (tm.kind != 5) = true := by rw [bne, x5]; rfl
           have H5 := Lib.hid h5
           clear h5
           go_wp2
           refine ⟨⟨m + 1, by omega, by omega, by go_num, fun j u h1 h2 hu => ?_, trivial⟩, by simp [intOf]; omega⟩
           by_cases hj : j = m
           ·subst hj; rw [HMT.out] at hu; injection hu with hu; rw [← hu]; exact H5.out
           ·exact HNO.out j u h1 (by omega) hu
         ·obtain rfl : m = ts.length := by omega
          go_wp2
          go_meet
          case rel => exact ⟨ts.length, rfl, ⟨hm1, Nat.le_refl _, HNO.out, fun u hu => by rw [List.getElem?_eq_none (Nat.le_refl _)] at hu; cases hu⟩, rfl⟩
       case rest =>
        obtain ⟨m, rfl, hrt, rfl⟩ := hcut
        have hm1 := hrt.le
        have hm2 := hrt.lt
        have rs : ∀ W, Rd W b s n ts → Calls Tryz.prog 26 #[.pointer (some ⟨b, 0, none⟩)] W fun e w' => (∃ v, e = .returned v ∧ TokRow w' W.heap.size v ((ts.drop n).take (m - n)) ∧ Rdr w' b s (min (m + 1) ts.length)) ∧ W.grownBy w' (some b) := fun W hW => by
         refine (rest_any b n s ts W hW hs hn).mono ?_
         rintro e w' ⟨⟨v, m', h1, h2, h3, h4⟩, h5⟩
         have hm := h3.uniq hrt
         subst hm
         exact ⟨⟨v, h1, h2, h4⟩, h5⟩
        have RS := Lib.hid rs
        have hlen : ((ts.drop n).take (m - n)).length = m - n := by rw [List.length_take, List.length_drop]; omega
        have hl5 : ((ts.drop n).take (m - n)).length ≤ 5000 := by omega
        have hRd := RR.out
        have hRd2 : Rd wc.drew b s n ts := hRd.below ((Below.refl _ wc).drew)
        have HRD := Lib.hid hRd
        have HRD2 := Lib.hid hRd2
        clear rs hrt hRd hRd2
        have hm5 : m ≤ 5000 := by omega
        have HLEN := Lib.hid hlen
        have HL5 := Lib.hid hl5
        clear hlen hl5
        rcases HF.out with ⟨h1, h2, h3⟩ | ⟨hne, ⟨d3, rfl⟩, hcap⟩
        ·have hl0 : ts.length = 0 := by rw [h1]; rfl
         clear h1
         subst h2
         have hcn : c1 = n := by omega
         have hcap : ts.length ≤ c1 := by omega
         have hi0 : (m : Int) ≤ (c1 : Int) := by omega
         clear HF
         have hmc : m = c1 := by omega
         clear h3 hl0
         have hi2 := hi0
         subst hcn
         subst hmc
         have hi1 := hi2
         have HL0 := Lib.hid (HLEN.out.trans (Nat.sub_self _))
         have emp := fun (W : World) (a' : Option Addr) (len c' : Nat) (h2 : len = m - m) => (show TokAt W (.slice a' len c') ((ts.drop m).take (m - m)) from by rw [Nat.sub_self] at h2; subst h2; exact ⟨a', c', by simp, fun i t ht => by simp at ht⟩)
         have EMP := Lib.hid emp
         clear emp hi1 hi2 hi0
         have hi1 : (m : Int) ≤ (m : Int) := Int.le_refl _
         go_upto_region 48 with (fail)
         go_region_with (first
          | (go_at_call 26; go_loud (with_reducible refine (RS.out _ (by first | exact HRD.out | exact HRD2.out)).mono ?_; rintro e wx ⟨⟨v3, rfl, tr3, hr2⟩, q⟩; obtain ⟨a3, c3, rfl⟩ := tr3.len_eval; have g : wc.grownBy wx (some b) := near_grown (by first | exact Near.same _ | exact Near.one _) q; have tl := tr3.look; rw [HL0.out] at tl; have EQ := Lib.hid (fun a' len c' h2 => equal_true _ (.slice a' len c') _ wx tl (EMP.out wx a' len c' h2) HL5.out); have HG := Lib.hid g; have HR2 := Lib.hid hr2; clear q g hr2 tr3 tl))
          | (go_at_call 15; go_loud (with_reducible refine (EQ.out _ _ _ (by first | rfl | omega)).mono ?_; rintro e wy ⟨rfl, q⟩; have HQ := Lib.hid q; clear q))
          | fail "arm")
         have g := HG.out
         have RR3 := RR.out.grown hs g HR2.out (by omega)
         have RR2 := RR3.below HQ.out
         have TA2 := Lib.hid ((TA.out.grown RR.out.r hs g).below HQ.out)
         have B3 := B.out.grown g B.out.size (fun k hk => by injection hk with hk; omega)
         have B2 := Lib.hid (B3.trans (HQ.out.mono B3.size))
         clear RR3 g B3 HG HR2 HQ EQ RR TA B RS HRD HRD2 HL5 HL0 HLEN
         have e2 : min (m + 1) ts.length = m := by omega
         rw [e2] at RR2
         clear e2
         have RR4 := Lib.hid RR2
         clear RR2
         go_wp2
         exact ⟨⟨m, j + 1, by omega, by omega, by rw [show min ((m : Int) + 1) (ts.length : Int) = ((m : Nat) : Int) from by omega], by go_num, RR4.out, TA2.out, B2.out⟩, by simp [intOf]; omega⟩
        ·have hi1 : (n : Int) ≤ (m : Int) := by omega
         have hi2 : (m : Int) ≤ (c1 : Int) := by omega
         by_cases hcn : c1 = n
         ·subst hcn
          obtain rfl : m = c1 := by omega
          have HL0 := Lib.hid (HLEN.out.trans (Nat.sub_self _))
          have emp := fun (W : World) (a' : Option Addr) (len c' : Nat) (h2 : len = m - m) => (show TokAt W (.slice a' len c') ((ts.drop m).take (m - m)) from by rw [Nat.sub_self] at h2; subst h2; exact ⟨a', c', by simp, fun i t ht => by simp at ht⟩)
          have EMP := Lib.hid emp
          clear emp hi1 hi2
          have hi1 : (m : Int) ≤ (m : Int) := Int.le_refl _
          go_upto_region 48 with (fail)
          go_region_with (first
           | (go_at_call 26; go_loud (with_reducible refine (RS.out _ (by first | exact HRD.out | exact HRD2.out)).mono ?_; rintro e wx ⟨⟨v3, rfl, tr3, hr2⟩, q⟩; obtain ⟨a3, c3, rfl⟩ := tr3.len_eval; have g : wc.grownBy wx (some b) := near_grown (by first | exact Near.same _ | exact Near.one _) q; have tl := tr3.look; rw [HL0.out] at tl; have EQ := Lib.hid (fun a' len c' h2 => equal_true _ (.slice a' len c') _ wx tl (EMP.out wx a' len c' h2) HL5.out); have HG := Lib.hid g; have HR2 := Lib.hid hr2; clear q g hr2 tr3 tl))
           | (go_at_call 15; go_loud (with_reducible refine (EQ.out _ _ _ (by first | rfl | omega)).mono ?_; rintro e wy ⟨rfl, q⟩; have HQ := Lib.hid q; clear q))
           | fail "arm")
          have g := HG.out
          have RR3 := RR.out.grown hs g HR2.out (by omega)
          have RR2 := RR3.below HQ.out
          have TA2 := Lib.hid ((TA.out.grown RR.out.r hs g).below HQ.out)
          have B3 := B.out.grown g B.out.size (fun k hk => by injection hk with hk; omega)
          have B2 := Lib.hid (B3.trans (HQ.out.mono B3.size))
          clear RR3 g B3 HG HR2 HQ EQ RR TA B RS HRD HRD2 HL5 HL0 HLEN
          have e2 : min (m + 1) ts.length = m := by omega
          rw [e2] at RR2
          clear e2
          have RR4 := Lib.hid RR2
          clear RR2
          go_wp2
          exact ⟨⟨m, j + 1, by omega, by omega, by rw [show min ((m : Int) + 1) (ts.length : Int) = ((m : Nat) : Int) from by omega], by go_num, RR4.out, TA2.out, B2.out⟩, by simp [intOf]; omega⟩
         ·have HL0 := HLEN
          have part := fun (W : World) (h : TokAt W (.slice (some ⟨d3, 0, none⟩) ts.length c1) ts) (off len c' : Nat) (h1 : off = n * 5) (h2 : len = m - n) => (show TokAt W (.slice (some ⟨d3, off, none⟩) len c') ((ts.drop n).take (m - n)) from by have hh := h.part n m hm1 hm2 off h1 (c' := c'); rw [HLEN.out] at hh; rw [h2]; exact hh)
          have PART := Lib.hid part
          clear part
          go_upto_region 48 with (fail)
          go_region_with (first
           | (go_at_call 26; go_loud (with_reducible refine (RS.out _ (by first | exact HRD.out | exact HRD2.out)).mono ?_; rintro e wx ⟨⟨v3, rfl, tr3, hr2⟩, q⟩; obtain ⟨a3, c3, rfl⟩ := tr3.len_eval; have g : wc.grownBy wx (some b) := near_grown (by first | exact Near.same _ | exact Near.one _) q; have TA2 := TA.out.grown RR.out.r hs g; have tl := tr3.look; rw [HL0.out] at tl; have EQ := Lib.hid (fun off len c' h1 h2 => equal_true _ (.slice (some ⟨d3, off, none⟩) len c') _ wx tl (PART.out wx TA2 off len c' h1 h2) HL5.out); clear TA2; have HG := Lib.hid g; have HR2 := Lib.hid hr2; clear q g hr2 tr3 tl))
           | (go_at_call 15; go_loud (with_reducible refine (EQ.out _ _ _ (by first | rfl | omega) (by first | rfl | omega)).mono ?_; rintro e wy ⟨rfl, q⟩; have HQ := Lib.hid q; clear q))
           | fail "arm")
          have g := HG.out
          have RR3 := RR.out.grown hs g HR2.out (by omega)
          have RR2 := RR3.below HQ.out
          have TA2 := Lib.hid ((TA.out.grown RR.out.r hs g).below HQ.out)
          have B3 := B.out.grown g B.out.size (fun k hk => by injection hk with hk; omega)
          have B2 := Lib.hid (B3.trans (HQ.out.mono B3.size))
          clear RR3 g B3 HG HR2 HQ EQ RR TA B RS HRD HRD2 HL5 HL0 HLEN
          by_cases hml : m < ts.length
          ·have e2 : min (m + 1) ts.length = m + 1 := by omega
           rw [e2] at RR2
           clear e2
           have hi3 : (m : Int) + 1 ≤ (ts.length : Int) := by omega
           have RR4 := Lib.hid RR2
           clear RR2
           go_wp2
           exact ⟨⟨m + 1, j + 1, by omega, by omega, by rw [show min ((m : Int) + 1) (ts.length : Int) = (((m + 1) : Nat) : Int) from by omega], by go_num, RR4.out, TA2.out, B2.out⟩, by simp [intOf]; omega⟩
          ·have e2 : min (m + 1) ts.length = ts.length := by omega
           rw [e2] at RR2
           clear e2
           have hi3 : (ts.length : Int) < (m : Int) + 1 := by omega
           have RR4 := Lib.hid RR2
           clear RR2
           go_wp2
           exact ⟨⟨ts.length, j + 1, by omega, by omega, by rw [show min ((m : Int) + 1) (ts.length : Int) = ((ts.length : Nat) : Int) from by omega], by go_num, RR4.out, TA2.out, B2.out⟩, by simp [intOf]; omega⟩
     ·as_aux_lemma =>
       have m0 : (z % 6 == 0) = false := by rw [beq_eq_false_iff_ne]; exact g0
       have m1 : (z % 6 == 1) = false := by rw [beq_eq_false_iff_ne]; exact g1
       have m2 : (z % 6 == 2) = false := by rw [beq_eq_false_iff_ne]; exact g2
       have m3 : (z % 6 == 3) = false := by rw [beq_eq_false_iff_ne]; exact g3
       clear g0 g1 g2 g3
       go_upto_region 19 with (fail)
       by_cases hp0 : 0 ≤ z / 6 - 2
       ·have dp0 : decide (z / 6 - 2 ≥ 0) = true := decide_eq_true hp0
        obtain ⟨m, hm⟩ : ∃ m : Nat, z / 6 - 2 = m := ⟨(z / 6 - 2).toNat, by omega⟩
        by_cases hp1 : m ≤ n
        ·have dp1 : decide ((m : Int) ≤ (n : Int)) = true := decide_eq_true (by omega)
         have bk := back_any (m : Int) RR.out true (decide_eq_true ⟨by omega, by omega⟩).symm
         have BK : Hid (Calls Tryz.prog 27 #[.pointer (some ⟨b, 0, none⟩), .int .i64 (m : Int)] wx fun e w' => (e = .returned (.bool true) ∧ Rdr w' b s (m)) ∧ wx.grownBy w' (some b)) := Lib.hid bk
         clear bk
         rw [hm]
         clear hp0 dp0 hm
         have dp2 : decide ((m : Int) ≥ 0) = true := decide_eq_true (by omega)
         go_wp2_with (first
          | (go_at_call 27; with_reducible refine BK.out.mono ?_; rintro e wx ⟨⟨rfl, hr2⟩, q⟩; have g := near_grown (by first | exact Near.same _ | exact Near.one _) q; replace K12 := Lib.hid (K12.out.grown g (ne_blk2 htb)); replace TA := Lib.hid (TA.out.grown RR.out.r hs g); replace B := Lib.hid (B.out.grown g B.out.size (fun k hk => by injection hk with hk; omega)); replace RR := Lib.hid (RR.out.grown hs g hr2 (by omega)); clear q g hr2)
          | fail "arm")
         exact ⟨⟨m, j + 1, by omega, by omega, rfl, by go_num, RR.out, TA.out, B.out⟩, by simp [intOf]; omega⟩
        ·have bk := back_any (m : Int) RR.out false (decide_eq_false (fun h => hp1 (by omega))).symm
         have dp1 : decide ((m : Int) ≤ (n : Int)) = false := decide_eq_false (by omega)
         have BK : Hid (Calls Tryz.prog 27 #[.pointer (some ⟨b, 0, none⟩), .int .i64 (m : Int)] wx fun e w' => (e = .returned (.bool false) ∧ Rdr w' b s (n)) ∧ wx.grownBy w' (some b)) := Lib.hid bk
         clear bk
         rw [hm]
         clear hp0 dp0 hm
         have dp2 : decide ((m : Int) ≥ 0) = true := decide_eq_true (by omega)
         go_wp2_with (first
          | (go_at_call 27; with_reducible refine BK.out.mono ?_; rintro e wx ⟨⟨rfl, hr2⟩, q⟩; have g := near_grown (by first | exact Near.same _ | exact Near.one _) q; replace K12 := Lib.hid (K12.out.grown g (ne_blk2 htb)); replace TA := Lib.hid (TA.out.grown RR.out.r hs g); replace B := Lib.hid (B.out.grown g B.out.size (fun k hk => by injection hk with hk; omega)); replace RR := Lib.hid (RR.out.grown hs g hr2 (by omega)); clear q g hr2)
          | fail "arm")
         exact ⟨⟨n, j + 1, by omega, by omega, rfl, by go_num, RR.out, TA.out, B.out⟩, by simp [intOf]; omega⟩
       ·have dp0 : decide (z / 6 - 2 ≥ 0) = false := decide_eq_false hp0
        have bk := back_any (z / 6 - 2) RR.out false (decide_eq_false (fun h => hp0 h.1)).symm
        have BK : Hid (Calls Tryz.prog 27 #[.pointer (some ⟨b, 0, none⟩), .int .i64 (z / 6 - 2)] wx fun e w' => (e = .returned (.bool false) ∧ Rdr w' b s (n)) ∧ wx.grownBy w' (some b)) := Lib.hid bk
        clear bk
        go_wp2_with (first
         | (go_at_call 27; with_reducible refine BK.out.mono ?_; rintro e wx ⟨⟨rfl, hr2⟩, q⟩; have g := near_grown (by first | exact Near.same _ | exact Near.one _) q; replace K12 := Lib.hid (K12.out.grown g (ne_blk2 htb)); replace TA := Lib.hid (TA.out.grown RR.out.r hs g); replace B := Lib.hid (B.out.grown g B.out.size (fun k hk => by injection hk with hk; omega)); replace RR := Lib.hid (RR.out.grown hs g hr2 (by omega)); clear q g hr2)
         | fail "arm")
        exact ⟨⟨n, j + 1, by omega, by omega, rfl, by go_num, RR.out, TA.out, B.out⟩, by simp [intOf]; omega⟩
   ·obtain rfl : j = ss.length := by omega
    have PS : Hid (Calls Tryz.prog 19 #[.pointer (some ⟨b, 0, none⟩)] wr fun e w' => e = .returned (.int .i64 n) ∧ Below wr.heap.size wr w') := Lib.hid (pos_any b s n wr hrr.r)
    clear hrr hta hB
    go_wp2_with (first
     | (go_at_call 19; with_reducible refine PS.out.mono ?_; rintro e wx ⟨rfl, q⟩; replace B := Lib.hid (goI B.out q))
     | fail "arm")
    go_ret
    exact ⟨by simp, B.out⟩
 ·have ef : (R.err != 0) = true := by rw [bne_iff_ne]; exact he
  go_wp2
  go_ret
  exact ⟨rfl, B.out⟩

end Go.Proofs.YtfhmgkicccfghaaGreatDoor
