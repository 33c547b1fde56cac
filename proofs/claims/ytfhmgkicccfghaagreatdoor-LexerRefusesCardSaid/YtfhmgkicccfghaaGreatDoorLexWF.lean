/- lexer.Scan. -/
import Derived.Test.YtfhmgkicccfghaaGreatDoorLexWE
import Derived.Test.YtfhmgkicccfghaaGreatDoorGLexP
import Derived.Test.YtfhmgkicccfghaaGreatDoorGPar
import Derived.Test.YtfhmgkicccfghaaGreatDoorRatA
import Derived.Lib.Split
namespace Go.Proofs.YtfhmgkicccfghaaGreatDoor
set_option linter.all false
open Go.RowKit

theorem cons_of (X : ByteArray) (h : 0 < X.size) : X.data.toList = X[0] :: (X.extract 1 X.size).data.toList := by
 rw [Lib.extract_to_end]
 rcases X with ⟨⟨l⟩⟩
 cases l with
 | nil => exact absurd h (by decide)
 | cons c r => rfl
theorem blank_index (c : UInt8) : Lib.indexByte (ByteArray.mk #[32, 9, 13]).data.toList (c.toNat : Int).toNat.toUInt8 = if isBlank c = true then (((([32, 9, 13] : List UInt8).takeWhile (· != c)).length : Nat) : Int) else -1 := by
 have hu : ((c.toNat : Int)).toNat.toUInt8 = c := by simp
 rw [hu]
 split
 ·rename_i h
  refine indexByte_in c _ ?_
  unfold isBlank at h
  simp only [Bool.or_eq_true, beq_iff_eq] at h
  simp
  rcases h with (h | h) | h <;> simp [h]
 ·rename_i h
  refine indexByte_out c _ ?_
  unfold isBlank at h
  simp only [Bool.or_eq_true, beq_iff_eq, not_or] at h
  simp
  exact ⟨h.1.1, h.1.2, h.2⟩

theorem TokRow.mono {W : World} {base b' : Nat} {v : Value} {ts : List Tok} (h : TokRow W base v ts) (hb : b' ≤ base) : TokRow W b' v ts := by
 rcases h with h | ⟨d, c, r, h1, h2, h3, h4, h5⟩
 ·exact .inl h
 ·exact .inr ⟨d, c, r, h1, by omega, h3, h4, h5⟩
def ParseC (parse : List UInt8 → List UInt8 × Int) (w : World) (y : List UInt8) : Prop := ∀ W, Below w.heap.size w W → Calls Tryz.prog 53 #[.string ⟨y.toArray⟩] W fun e w' => e = .returned (.tuple #[.string ⟨(parse y).1.toArray⟩, .int .i64 (parse y).2]) ∧ Below W.heap.size W w'
def ScanR (w : World) (R : Res) (e : Ending) (w' : World) : Prop := ∃ v, e = .returned (scanV v R.line R.col R.err) ∧ TokRow w' w.heap.size v R.toks ∧ Below w.heap.size w w'
theorem split_any (S : ByteArray) (hs : S.size ≤ 65536) (w : World) (hm : MaxL w) :
  Calls Tryz.prog 31 #[.string S, .string ⟨#[10]⟩] w fun e w' => (∃ d, w.heap.size ≤ d ∧ e = .returned (.slice (some ⟨d, 0, none⟩) (linesB S).length (linesB S).length) ∧ Blk w' d ((linesB S).map Value.string).toArray 9) ∧ Below w.heap.size w w' := by
 obtain ⟨m, hm⟩ := hm
 refine (Tryz.strings_Split S ⟨#[10]⟩ m w (by omega) hm (by decide)).mono ?_
 rintro e w' ⟨h1, rfl⟩
 refine ⟨⟨w.heap.size, Nat.le_refl _, by rw [h1, linesB_len], Blk.fresh w _ _⟩, below_new w _⟩

set_option maxRecDepth 100000 in
set_option maxHeartbeats 4000000 in
theorem scan_any (parse : List UInt8 → List UInt8 × Int) (S : ByteArray) (w : World) (hs : S.size ≤ 65536) (hm : MaxL w)
  (hp : ∀ c r, isNumStart c r = true → (c :: r).Sublist S.data.toList → ParseC parse w (c :: r.takeWhile isNum)) :
  Calls Tryz.prog 13 #[.string S] w (ScanR w (scanF parse S.data.toList 1 1 false [])) := by
 have t1 : decide ((S.size : Int) > 65536) = false := decide_eq_false (by omega)
 have k0 := Blk.fresh w #[.int .i64 0, .int .i64 0] 27
 have b0 := (Below.refl w.heap.size w).alloc (Nat.le_refl _) (.cells #[.int .i64 0, .int .i64 0] 27)
 have K0 := Lib.hid k0
 have B := Lib.hid b0
 have sp : ∀ W, Below w.heap.size w W → Calls Tryz.prog 31 #[.string S, .string ⟨#[10]⟩] W fun e w' => (∃ d, W.heap.size ≤ d ∧ e = .returned (.slice (some ⟨d, 0, none⟩) (linesB S).length (linesB S).length) ∧ Blk w' d ((linesB S).map Value.string).toArray 9) ∧ Below W.heap.size W w' := fun W hW => split_any S hs W (hm.below hW)
 have SP := Lib.hid sp
 clear k0 b0 sp
 go_enter Tryz.func13, Tryz.ntmps13
 go_upto_region 1 with (fail)
 generalize (w.alloc (Obj.cells #[.int .i64 0, .int .i64 0] 27)) = W0 at *
 have hW0 := K0.out.lt
 go_upto_region 4 with (first
  | (go_at_call 31; with_reducible refine (SP.out _ (baseI B.out)).mono ?_; rintro e wx ⟨⟨d, hd, rfl, hD⟩, q⟩; have HD := Lib.hid hD; replace K0 := Lib.hid (K0.out.near (by first | exact Near.same _ | exact Near.one _) q); replace B := Lib.hid (goI B.out q); clear q hD)
  | fail "arm")
 have hpl : (linesB S).length ≤ 65537 := by have := linesB_count S; omega
 have hin : ∀ y ∈ linesB S, y.data.toList.Sublist S.data.toList := fun y hy => linesB_in S y hy
 have hres := linesB_scan parse S
 generalize scanF parse S.data.toList 1 1 false [] = R at *
 generalize hPL : linesB S = PL at *
 have HIN := Lib.hid hin
 have HP := Lib.hid hp
 have HRES := Lib.hid hres
 clear hPL hin hp hres
 go_loopw [2, 19] (fun l i wr => ∃ (k : Nat) (ts : List Tok) (la ca : Int), k ≤ PL.length ∧ i = .int .i64 k ∧ TokRow wr (d + 1) l ts ∧ Blk wr w.heap.size #[.int .i64 la, .int .i64 ca] 27 ∧ Blk wr d (PL.map Value.string).toArray 9 ∧ Below w.heap.size w wr ∧ ts.length ≤ 5000 ∧
   linesS parse ((PL.drop k).map (·.data.toList)) (k + 1) ts = R) (fun _ i _ => PL.length - (intOf i).toNat)
 case atStart => exact ⟨0, [], 0, 0, Nat.zero_le _, rfl, TokRow.nil _ _, K0.out, HD.out, B.out, by decide, HRES.out⟩
 case round =>
  obtain ⟨k, ts, la, ca, hk, rfl, htr, hbl, hdd, hB, ht5, hrest⟩ := hrel
  clear B K0 HD
  have TR := Lib.hid htr
  have KB := Lib.hid hbl
  have HD := Lib.hid hdd
  have B := Lib.hid hB
  have HREST := Lib.hid hrest
  clear htr hbl hdd hB hrest
  by_cases hlt : k < PL.length
  ·have cp : wr.cell? ⟨d, k, none⟩ = some (.string PL[k]) := HD.out.at_ k _ (by simp [hlt])
   obtain ⟨da, dc, rfl⟩ := TR.out.len_eval
   have z0 := KB.out.free 0
   have z1 := KB.out.free 1
   have c0 := KB.out.at_ 0 _ rfl
   have c1 := KB.out.at_ 1 _ rfl
   go_upto_region 8 with (fail)
   have K2 := Lib.hid ((KB.out.set 0 (.int .i64 ((k : Int) + 1))).set 1 (.int .i64 1))
   have TR2 := Lib.hid ((TR.out.set ⟨w.heap.size, 0, none⟩ (by show w.heap.size < _; omega) (.int .i64 ((k : Int) + 1))).set ⟨w.heap.size, 1, none⟩ (by show w.heap.size < _; omega) (.int .i64 1))
   have B2 := Lib.hid ((B.out.setCell (p := ⟨w.heap.size, 0, none⟩) (Nat.le_refl _) (.int .i64 ((k : Int) + 1))).setCell (p := ⟨w.heap.size, 1, none⟩) (Nat.le_refl _) (.int .i64 1))
   have HD2 := Lib.hid ((HD.out.else1 ⟨w.heap.size, 0, none⟩ (by show w.heap.size ≠ d; omega) (.int .i64 ((k : Int) + 1))).else1 ⟨w.heap.size, 1, none⟩ (by show w.heap.size ≠ d; omega) (.int .i64 1))
   clear z0 z1 c0 c1 cp KB TR B HD
   generalize ((wr.setCell ⟨w.heap.size, 0, none⟩ (.int .i64 ((k : Int) + 1))).setCell ⟨w.heap.size, 1, none⟩ (.int .i64 1)) = W2 at *
   have hdrop : PL.drop k = PL[k] :: PL.drop (k + 1) := List.drop_eq_getElem_cons hlt
   have hyin := HIN.out PL[k] (List.getElem_mem hlt)
   generalize hY : PL[k] = Y at *
   have hYs : Y.size ≤ S.size := sub_size hyin
   have HYI := Lib.hid hyin
   have HDR := Lib.hid hdrop
   clear hY hdrop hyin
   go_wp2
   go_loopw [2, 8] (fun l rest wq => ∃ (us : List Tok) (X : ByteArray) (col : Nat), TokRow wq (d + 1) l us ∧ rest = .string X ∧ (1 ≤ col ∧ X.size + col = Y.size + 1) ∧ Blk wq w.heap.size #[.int .i64 ((k : Int) + 1), .int .i64 col] 27 ∧ Blk wq d (PL.map Value.string).toArray 9 ∧ Below w.heap.size w wq ∧
     ts.length ≤ us.length ∧ us.length ≤ 5000 ∧ X.data.toList.Sublist S.data.toList ∧ lineS parse (k + 1) X.data.toList col us = lineS parse (k + 1) Y.data.toList 1 ts) (fun _ r _ => match r with | .string X => X.size | _ => 0)
   case atStart => exact ⟨ts, Y, 1, TR2.out, rfl, ⟨by omega, rfl⟩, K2.out, HD2.out, B2.out, Nat.le_refl _, ht5, HYI.out, rfl⟩
   case round =>
    obtain ⟨us, X, col, htr, rfl, ⟨hcol1, hcol⟩, hbl, hdd, hB, hle, hn64, hxin, hline⟩ := hrel
    clear TR2 K2 HD2 B2
    have TR := Lib.hid htr
    have KB := Lib.hid hbl
    have HD := Lib.hid hdd
    have B := Lib.hid hB
    have HL := Lib.hid hline
    have HXI := Lib.hid hxin
    clear htr hbl hdd hB hline hxin
    by_cases hX : 0 < X.size
    ·have n0 : (X.toList == []) = false := by rw [ByteArray.toList_eq, cons_of X hX]; rfl
     have hlist := cons_of X hX
     by_cases h35 : X[0] = 35
     ·have q35 : (((X[0].toNat : Nat) : Int) == 35) = true := u8_eq_true X[0] 35 (by decide) h35
      have hend : lineS parse (k + 1) Y.data.toList 1 ts = (us, col, 0) := by rw [← HL.out, hlist, h35, lineS_hash]
      go_upto_region 22 with (fail)
      have hstep := HREST.out
      rw [HDR.out, List.map_cons] at hstep
      unfold linesS at hstep
      rw [hend, if_neg (by simp)] at hstep
      have HST := Lib.hid hstep
      obtain ⟨ua, uc, rfl⟩ := TR.out.len_eval
      clear hstep hend HL HXI
      by_cases hsame : us.length = ts.length
      ·have e1 : (((us.length : Nat) : Int) == ((ts.length : Nat) : Int)) = true := by rw [hsame]; exact beq_self_eq_true _
       go_wp2
       rw [show ((k : Int) + 1) = ((k + 1 : Nat) : Int) by omega]
       exact ⟨⟨k + 1, us, _, _, hlt, rfl, TR.out, KB.out, HD.out, B.out, hn64, by have h := HST.out; rw [if_pos hsame] at h; exact h⟩, by simp [intOf]; omega⟩
      ·have e1 : (((us.length : Nat) : Int) == ((ts.length : Nat) : Int)) = false := by rw [beq_eq_false_iff_ne]; omega
       have z1 := KB.out.free 1
       have c1 := KB.out.at_ 1 _ rfl
       go_upto_region 24 with (fail)
       have hc1 : ((Y.size : Int) + 1) = ((Y.size + 1 : Nat) : Int) := by omega
       rw [hc1]
       clear hc1
       have K3 : Hid (Blk _ w.heap.size #[.int .i64 ((k : Int) + 1), .int .i64 ((Y.size + 1 : Nat) : Int)] 27) := Lib.hid (KB.out.set 1 (.int .i64 ((Y.size + 1 : Nat) : Int)))
       have TR3 := Lib.hid (TR.out.set ⟨w.heap.size, 1, none⟩ (by show w.heap.size < _; omega) (.int .i64 ((Y.size + 1 : Nat) : Int)))
       have B3 := Lib.hid (B.out.setCell (p := ⟨w.heap.size, 1, none⟩) (Nat.le_refl _) (.int .i64 ((Y.size + 1 : Nat) : Int)))
       have HD3 := Lib.hid (HD.out.else1 ⟨w.heap.size, 1, none⟩ (by show w.heap.size ≠ d; omega) (.int .i64 ((Y.size + 1 : Nat) : Int)))
       clear z1 c1 KB TR B HD
       generalize (wr.setCell ⟨w.heap.size, 1, none⟩ (.int .i64 ((Y.size + 1 : Nat) : Int))) = W3 at *
       have x0 := K3.out.at_ 0 _ rfl
       have x1 := K3.out.at_ 1 _ rfl
       by_cases h5 : us.length = 5000
       ·have n5 : (((us.length : Nat) : Int) == 5000) = true := by rw [h5]; rfl
        go_upto_region 25 with (fail)
        have hlt1 := K3.out.lt
        refine wp_tab [.v 89 (.agg #[.int .i64 ((k : Int) + 1), .int .i64 ((Y.size + 1 : Nat) : Int)]), .v 2 (.slice none 0 0), .z, .v 4 (.int .i64 4)] [] [⟨w.heap.size, #[.int .i64 ((k : Int) + 1), .int .i64 ((Y.size + 1 : Nat) : Int)], 27, none⟩] [] [] [] [] [] (by kernel_rfl) B3.out ⟨K3.out, trivial⟩ trivial ⟨ld 0 0, pu, ?_, pu, trivial⟩ ?_
        ·intro L a U ho J hn dd KK kk; refine .free rfl ?_; have r3 : a.tmps[(3 : Nat)]?.getD undef = .pointer (some ⟨w.heap.size, 0, none⟩) := ho.slot 3 rfl; have r89 := J.read 0 rfl (dd.get 0 rfl); have kb := (J.eld 0 rfl); have c0 := kb.at_ 0 _ rfl; have z0 := kb.free 0; have c1 := kb.at_ 1 _ rfl; have z1 := kb.free 1; clear kb; go_simp; exact kk.out undef _ (J.stored 2 0 rfl rfl (.inr ⟨rfl, rfl⟩) rfl rfl 0 [.int .i64 ((k : Int) + 1), .int .i64 ((Y.size + 1 : Nat) : Int)] rfl (Nat.le_refl _) hlt1 ⟨.inl rfl, trivial⟩ hn trivial)
        rintro σ WE _ ⟨KE, _⟩ _ _ BE
        simp only [slotsOf, finX, nval, nvalN, nvalA, Nat.reduceBEq, cond_true, cond_false, putAll, Act.put, List.setIfInBounds_toArray, List.set_cons_succ, List.set_cons_zero]
        go_wp2
        have e0 := KE.out.at_ 0 _ rfl
        have e1 := KE.out.at_ 1 _ rfl
        have hfin := HST.out
        rw [if_neg hsame, if_pos h5, ← Lib.size_eq] at hfin
        exact bodyPost_ret (v := scanV (.slice none 0 0) ((k : Int) + 1) ((Y.size + 1 : Nat) : Int) 4) (by simp [results, Tryz.results13, go_sem, e0, e1, scanV]) rfl ⟨.slice none 0 0, by rw [← hfin]; rfl, by rw [← hfin]; exact TokRow.nil _ _, BE.out⟩
       ·have n5 : (((us.length : Nat) : Int) == 5000) = false := by rw [beq_eq_false_iff_ne]; omega
        have hd3 := HD3.out.lt
        go_upto_region 27 with (at_builtin; go_loud (refine app_tok rfl (.tmp 90) (.tmp 93) rfl W3 (d + 1) (by omega) _ us TR3.out rfl (by omega) (endT (k + 1) (Y.size + 1)) rfl ?_; intro v5 W5 r1 r2 r3))
        have KB5 := Lib.hid (r2 _ _ _ (by omega) K3.out)
        have HD5 := Lib.hid (r2 _ _ _ (by omega) HD3.out)
        have TR5 := Lib.hid r1
        have B5 := Lib.hid (B3.out.trans (r3.mono (by omega)))
        clear r1 r2 r3 x0 x1 K3 HD3 TR3 B3
        go_wp2
        rw [show ((k : Int) + 1) = ((k + 1 : Nat) : Int) by omega]
        refine ⟨⟨k + 1, us ++ [endT (k + 1) (Y.size + 1)], _, _, hlt, rfl, TR5.out, KB5.out, HD5.out, B5.out, by rw [List.length_append]; show us.length + 1 ≤ 5000; omega, ?_⟩, by simp [intOf]; omega⟩
        have h := HST.out
        rw [if_neg hsame, if_neg h5, ← Lib.size_eq] at h
        exact h
     ·have q35 : (((X[0].toNat : Nat) : Int) == 35) = false := u8_eq_false X[0] 35 (by decide) h35
      have bi := blank_index X[0]
      obtain ⟨ua, uc, rfl⟩ := TR.out.len_eval
      cases hbk : isBlank X[0] with
      | true =>
       rw [hbk, if_pos rfl] at bi
       have I1 : Hid (∀ W, Calls Tryz.prog 32 #[.string ⟨#[32, 9, 13]⟩, .int .u8 X[0].toNat] W fun e w' => e = .returned (.int .i64 ((([32, 9, 13] : List UInt8).takeWhile (· != X[0])).length : Nat)) ∧ Below W.heap.size W w') := Lib.hid (fun W => by have h := Tryz.strings_IndexByte ⟨#[32, 9, 13]⟩ (X[0].toNat : Int) W; rw [bi] at h; exact h.mono fun e w' h => ⟨h.1, by rw [h.2]; exact Below.refl _ _⟩)
       have hnext := lineS_blank parse (k + 1) X[0] (X.extract 1 X.size).data.toList col us h35 hbk
       rw [← hlist, HL.out] at hnext
       have HN := Lib.hid hnext
       have hsz : (X.extract 1 X.size).size = X.size - 1 := by simp
       have HRI : Hid ((X.extract 1 X.size).data.toList.Sublist S.data.toList) := Lib.hid ((by rw [Lib.extract_to_end]; exact List.drop_sublist _ _ : (X.extract 1 X.size).data.toList.Sublist X.data.toList).trans HXI.out)
       generalize hR : X.extract 1 X.size = R1 at *
       have HR1 := Lib.hid hR
       clear hnext bi hlist hbk
       generalize ((([32, 9, 13] : List UInt8).takeWhile (· != X[0])).length) = bk at *
       have z1 := KB.out.free 1
       have c1 := KB.out.at_ 1 _ rfl
       go_wp2_with (first
        | (go_at_call 32; with_reducible refine (I1.out _).mono ?_; rintro e wx2 ⟨rfl, q⟩; replace KB := Lib.hid (KB.out.near (by first | exact Near.same _ | exact Near.one _) q); replace HD := Lib.hid (HD.out.near (by first | exact Near.same _ | exact Near.one _) q); replace TR := Lib.hid (TR.out.below q); replace B := Lib.hid (goI B.out q); clear q; replace z1 := KB.out.free 1; replace c1 := KB.out.at_ 1 _ rfl)
        | fail "arm")
       have hc1 : ((col : Int) + 1) = ((col + 1 : Nat) : Int) := by omega
       rw [hc1]
       clear hc1
       exact ⟨⟨us, R1, col + 1, TR.out.set _ (by show w.heap.size < _; omega) _, rfl, ⟨by omega, by omega⟩, KB.out.set 1 _, HD.out.else1 _ (by show w.heap.size ≠ d; omega) _, B.out.setCell (p := ⟨w.heap.size, 1, none⟩) (Nat.le_refl _) _, hle, hn64, HRI.out, HN.out.symm⟩, by show R1.size < X.size; omega⟩
      | false =>
       rw [hbk, if_neg (by decide)] at bi
       have I1 : Hid (∀ W, Calls Tryz.prog 32 #[.string ⟨#[32, 9, 13]⟩, .int .u8 X[0].toNat] W fun e w' => e = .returned (.int .i64 (-1)) ∧ Below W.heap.size W w') := Lib.hid (fun W => by have h := Tryz.strings_IndexByte ⟨#[32, 9, 13]⟩ (X[0].toNat : Int) W; rw [bi] at h; exact h.mono fun e w' h => ⟨h.1, by rw [h.2]; exact Below.refl _ _⟩)
       have hxs : X.size ≤ 65536 := by omega
       have hr1 : (X.extract 1 X.size).data.toList.length + 1 = X.size := by rw [← Lib.size_eq]; simp; omega
       have FA := Lib.hid (fun W (hW : Below w.heap.size w W) => first_any parse X X[0] (X.extract 1 X.size).data.toList hlist (by omega) W (fun hn W' hW' => HP.out _ _ hn (by rw [← hlist]; exact HXI.out) W' (goI hW hW')))
       have hflen := first_len parse X[0] (X.extract 1 X.size).data.toList
       rw [hr1] at hflen
       have hfe := lineS_err parse (k + 1) X[0] (X.extract 1 X.size).data.toList col us h35 hbk
       have hfl := lineS_lim parse (k + 1) X[0] (X.extract 1 X.size).data.toList col us h35 hbk
       have hft := lineS_tok parse (k + 1) X[0] (X.extract 1 X.size).data.toList col us h35 hbk
       rw [← hlist, HL.out] at hfe hfl hft
       have hdr : (X.extract 1 X.size).data.toList = X.data.toList.drop 1 := Lib.extract_to_end X 1
       generalize hf : firstS parse X[0] (X.extract 1 X.size).data.toList = f at *
       rw [hdr] at hft
       have HFE := Lib.hid hfe
       have HFL := Lib.hid hfl
       have HFT := Lib.hid hft
       clear hfe hfl hft hlist hdr hr1
       have FB : Hid (∀ W, Below w.heap.size w W → Calls Tryz.prog 33 #[.string X] W fun e w' => e = .returned (.tuple #[.agg #[.int .i64 f.kind, .string ⟨f.text.toArray⟩, .string ⟨f.value.toArray⟩, .int .i64 0, .int .i64 0], .int .i64 f.len, .int .i64 f.err]) ∧ Below W.heap.size W w') := FA
       clear bi hf FA hbk
       go_upto_region 14 with (first
        | (go_at_call 32; with_reducible refine (I1.out _).mono ?_; rintro e wx2 ⟨rfl, q⟩; replace KB := Lib.hid (KB.out.near (by first | exact Near.same _ | exact Near.one _) q); replace HD := Lib.hid (HD.out.near (by first | exact Near.same _ | exact Near.one _) q); replace TR := Lib.hid (TR.out.below q); replace B := Lib.hid (goI B.out q); clear q)
        | (go_at_call 33; with_reducible refine (FB.out _ B.out).mono ?_; rintro e wx2 ⟨rfl, q⟩; replace KB := Lib.hid (KB.out.near (by first | exact Near.same _ | exact Near.one _) q); replace HD := Lib.hid (HD.out.near (by first | exact Near.same _ | exact Near.one _) q); replace TR := Lib.hid (TR.out.below q); replace B := Lib.hid (goI B.out q); clear q)
        | fail "arm")
       have T0 := Lib.hid (Blk.fresh wx2 #[.int .i64 f.kind, .string ⟨f.text.toArray⟩, .string ⟨f.value.toArray⟩, .int .i64 0, .int .i64 0] 38)
       have hdl := HD.out.lt
       replace KB := Lib.hid (KB.out.alloc (.cells #[.int .i64 f.kind, .string ⟨f.text.toArray⟩, .string ⟨f.value.toArray⟩, .int .i64 0, .int .i64 0] 38))
       replace HD := Lib.hid (HD.out.alloc (.cells #[.int .i64 f.kind, .string ⟨f.text.toArray⟩, .string ⟨f.value.toArray⟩, .int .i64 0, .int .i64 0] 38))
       have Q3 := Lib.hid (below_new wx2 (.cells #[.int .i64 f.kind, .string ⟨f.text.toArray⟩, .string ⟨f.value.toArray⟩, .int .i64 0, .int .i64 0] 38))
       have hg := B.out.size
       replace B := Lib.hid (B.out.alloc B.out.size (.cells #[.int .i64 f.kind, .string ⟨f.text.toArray⟩, .string ⟨f.value.toArray⟩, .int .i64 0, .int .i64 0] 38))
       generalize (wx2.alloc (Obj.cells #[.int .i64 f.kind, .string ⟨f.text.toArray⟩, .string ⟨f.value.toArray⟩, .int .i64 0, .int .i64 0] 38)) = W3 at *
       generalize htb : wx2.heap.size = tb at *
       by_cases he : f.err = 0
       ·by_cases h5 : us.length = 5000
        ·have ee : (f.err == 0) = true := by rw [he]; rfl
         have n5 : (((us.length : Nat) : Int) == 5000) = true := by rw [h5]; rfl
         go_upto_region 17 with (fail)
         have hlt1 := KB.out.lt
         refine wp_tab [.v 62 (.agg #[.int .i64 ((k : Int) + 1), .int .i64 (col : Int)]), .v 63 (.int .i64 4), .v 2 (.slice none 0 0), .z, .v 4 (.int .i64 4)] [] [⟨w.heap.size, #[.int .i64 ((k : Int) + 1), .int .i64 (col : Int)], 27, none⟩] [] [] [] [] [] (by kernel_rfl) B.out ⟨KB.out, trivial⟩ trivial ⟨ld 0 0, pu, pu, ?_, pu, trivial⟩ ?_
         ·intro L a U ho J hn dd KK kk; refine .free rfl ?_; have r3 : a.tmps[(3 : Nat)]?.getD undef = .pointer (some ⟨w.heap.size, 0, none⟩) := ho.slot 3 rfl; have r62 := J.read 0 rfl (dd.get 0 rfl); have kb := (J.eld 0 rfl); have c0 := kb.at_ 0 _ rfl; have z0 := kb.free 0; have c1 := kb.at_ 1 _ rfl; have z1 := kb.free 1; clear kb; go_simp; exact kk.out undef _ (J.stored 3 0 rfl rfl (.inr ⟨rfl, rfl⟩) rfl rfl 0 [.int .i64 ((k : Int) + 1), .int .i64 (col : Int)] rfl (Nat.le_refl _) hlt1 ⟨.inl rfl, trivial⟩ hn trivial)
         rintro σ WE _ ⟨KE, _⟩ _ _ BE
         simp only [slotsOf, finX, nval, nvalN, nvalA, Nat.reduceBEq, cond_true, cond_false, putAll, Act.put, List.setIfInBounds_toArray, List.set_cons_succ, List.set_cons_zero]
         go_wp2
         have e0 := KE.out.at_ 0 _ rfl
         have e1 := KE.out.at_ 1 _ rfl
         have hfin := HREST.out
         rw [HDR.out, List.map_cons] at hfin
         unfold linesS at hfin
         rw [HFL.out he h5, if_pos (by show (4 : Int) ≠ 0; decide)] at hfin
         exact bodyPost_ret (v := scanV (.slice none 0 0) ((k : Int) + 1) (col : Int) 4) (by simp [results, Tryz.results13, go_sem, e0, e1, scanV]) rfl ⟨.slice none 0 0, by rw [← hfin]; rfl, by rw [← hfin]; exact TokRow.nil _ _, BE.out⟩
        ·have n5 : (((us.length : Nat) : Int) == 5000) = false := by rw [beq_eq_false_iff_ne]; omega
         have ee : (f.err == 0) = true := by rw [he]; rfl
         have ef : (f.err != 0) = false := by rw [he]; rfl
         have x0 := KB.out.at_ 0 _ rfl
         have x1 := KB.out.at_ 1 _ rfl
         have y3 := T0.out.at_ 3 _ rfl
         have y4 := T0.out.at_ 4 _ rfl
         have v3 := T0.out.free 3
         have v4 := T0.out.free 4
         go_upto_region 19 with (fail)
         have Q4 := (Q3.out.setCell (p := ⟨tb, 3, none⟩) (Nat.le_refl _) (.int .i64 ((k : Int) + 1))).setCell (p := ⟨tb, 4, none⟩) (Nat.le_refl _) (.int .i64 (col : Int))
         have TR4 := Lib.hid (TR.out.below (by rw [htb]; exact Q4))
         have T4 : Hid (Blk _ tb #[.int .i64 f.kind, .string ⟨f.text.toArray⟩, .string ⟨f.value.toArray⟩, .int .i64 ((k : Int) + 1), .int .i64 (col : Int)] 38) := Lib.hid ((T0.out.set 3 (.int .i64 ((k : Int) + 1))).set 4 (.int .i64 (col : Int)))
         have KB4 := Lib.hid ((KB.out.else1 ⟨tb, 3, none⟩ (by show tb ≠ w.heap.size; omega) (.int .i64 ((k : Int) + 1))).else1 ⟨tb, 4, none⟩ (by show tb ≠ w.heap.size; omega) (.int .i64 (col : Int)))
         have HD4 := Lib.hid ((HD.out.else1 ⟨tb, 3, none⟩ (by show tb ≠ d; omega) (.int .i64 ((k : Int) + 1))).else1 ⟨tb, 4, none⟩ (by show tb ≠ d; omega) (.int .i64 (col : Int)))
         have B4 := Lib.hid ((B.out.setCell (p := ⟨tb, 3, none⟩) hg (.int .i64 ((k : Int) + 1))).setCell (p := ⟨tb, 4, none⟩) hg (.int .i64 (col : Int)))
         clear x0 x1 y3 y4 v3 v4 KB HD TR T0 Q3 Q4 B
         generalize ((W3.setCell ⟨tb, 3, none⟩ (.int .i64 ((k : Int) + 1))).setCell ⟨tb, 4, none⟩ (.int .i64 (col : Int))) = W4 at *
         have y0 := T4.out.at_ 0 _ rfl
         have y1 := T4.out.at_ 1 _ rfl
         have y2 := T4.out.at_ 2 _ rfl
         have y3 := T4.out.at_ 3 _ rfl
         have y4 := T4.out.at_ 4 _ rfl
         have hd4 := HD4.out.lt
         go_upto_region 20 with (at_builtin; go_loud (refine app_tok rfl (.tmp 66) (.tmp 68) rfl W4 (d + 1) (by omega) _ us TR4.out rfl (by omega) (f.tok (k + 1) col) rfl ?_; intro v5 W5 r1 r2 r3))
         have KB5 := Lib.hid (r2 _ _ _ (by omega) KB4.out)
         have HD5 := Lib.hid (r2 _ _ _ (by omega) HD4.out)
         have TR5 := Lib.hid r1
         have B5 := Lib.hid (B4.out.trans (r3.mono (by omega)))
         clear r1 r2 r3 y0 y1 y2 y3 y4 T4 TR4 KB4 HD4 B4
         have x0 := KB5.out.at_ 0 _ rfl
         have x1 := KB5.out.at_ 1 _ rfl
         have z1 := KB5.out.free 1
         obtain ⟨hfl1, hfl⟩ := hflen he
         have hR : X.extract f.len X.size = X.extract f.len X.size := rfl
         have hsz : (X.extract f.len X.size).size = X.size - f.len := by simp
         have hdx : (X.extract f.len X.size).data.toList = X.data.toList.drop f.len := Lib.extract_to_end X f.len
         have HN := Lib.hid (HFT.out he h5)
         go_wp2
         have hc1 : ((col : Int) + (f.len : Int)) = ((col + f.len : Nat) : Int) := by omega
         rw [hc1]
         clear hc1
         refine ⟨⟨us ++ [f.tok (k + 1) col], X.extract f.len X.size, col + f.len, TR5.out.set _ (by show w.heap.size < _; omega) _, rfl, ⟨by omega, by omega⟩, KB5.out.set 1 _, HD5.out.else1 _ (by show w.heap.size ≠ d; omega) _, B5.out.setCell (p := ⟨w.heap.size, 1, none⟩) (Nat.le_refl _) _, by rw [List.length_append]; omega, by rw [List.length_append]; show us.length + 1 ≤ 5000; omega, ?_, ?_⟩, by show (X.extract f.len X.size).size < X.size; omega⟩
         ·rw [hdx]
          exact (List.drop_sublist _ _).trans HXI.out
         ·rw [hdx]
          have h := HN.out
          rw [List.drop_drop] at h
          rw [h]
          congr 2
          omega
       ·have ee : (f.err == 0) = false := by rw [beq_eq_false_iff_ne]; exact he
        have ef : (f.err != 0) = true := by rw [bne_iff_ne]; exact he
        go_upto_region 17 with (fail)
        have hlt1 := KB.out.lt
        refine wp_tab [.v 62 (.agg #[.int .i64 ((k : Int) + 1), .int .i64 (col : Int)]), .v 63 (.int .i64 f.err), .v 2 (.slice none 0 0), .z, .v 4 (.int .i64 f.err)] [] [⟨w.heap.size, #[.int .i64 ((k : Int) + 1), .int .i64 (col : Int)], 27, none⟩] [] [] [] [] [] (by kernel_rfl) B.out ⟨KB.out, trivial⟩ trivial ⟨ld 0 0, pu, pu, ?_, pu, trivial⟩ ?_
        ·intro L a U ho J hn dd KK kk; refine .free rfl ?_; have r3 : a.tmps[(3 : Nat)]?.getD undef = .pointer (some ⟨w.heap.size, 0, none⟩) := ho.slot 3 rfl; have r62 := J.read 0 rfl (dd.get 0 rfl); have kb := (J.eld 0 rfl); have c0 := kb.at_ 0 _ rfl; have z0 := kb.free 0; have c1 := kb.at_ 1 _ rfl; have z1 := kb.free 1; clear kb; go_simp; exact kk.out undef _ (J.stored 3 0 rfl rfl (.inr ⟨rfl, rfl⟩) rfl rfl 0 [.int .i64 ((k : Int) + 1), .int .i64 (col : Int)] rfl (Nat.le_refl _) hlt1 ⟨.inl rfl, trivial⟩ hn trivial)
        rintro σ WE _ ⟨KE, _⟩ _ _ BE
        simp only [slotsOf, finX, nval, nvalN, nvalA, Nat.reduceBEq, cond_true, cond_false, putAll, Act.put, List.setIfInBounds_toArray, List.set_cons_succ, List.set_cons_zero]
        go_wp2
        have e0 := KE.out.at_ 0 _ rfl
        have e1 := KE.out.at_ 1 _ rfl
        have hfin := HREST.out
        rw [HDR.out, List.map_cons] at hfin
        unfold linesS at hfin
        rw [HFE.out he, if_pos he] at hfin
        exact bodyPost_ret (v := scanV (.slice none 0 0) ((k : Int) + 1) (col : Int) f.err) (by simp [results, Tryz.results13, go_sem, e0, e1, scanV]) rfl ⟨.slice none 0 0, by rw [← hfin]; rfl, by rw [← hfin]; exact TokRow.nil _ _, BE.out⟩
    ·have n0 : (X.toList == []) = true := by
      rw [ByteArray.toList_eq]
      have : X.data.toList = [] := List.eq_nil_of_length_eq_zero (by rw [← Lib.size_eq]; omega)
      rw [this]; rfl
     have hend : lineS parse (k + 1) Y.data.toList 1 ts = (us, col, 0) := by
      have : X.data.toList = [] := List.eq_nil_of_length_eq_zero (by rw [← Lib.size_eq]; omega)
      rw [← HL.out, this, lineS_nil]
     go_upto_region 22 with (fail)
     have hstep := HREST.out
     rw [HDR.out, List.map_cons] at hstep
     unfold linesS at hstep
     rw [hend, if_neg (by simp)] at hstep
     have HST := Lib.hid hstep
     obtain ⟨ua, uc, rfl⟩ := TR.out.len_eval
     clear hstep hend HL HXI
     by_cases hsame : us.length = ts.length
     ·have e1 : (((us.length : Nat) : Int) == ((ts.length : Nat) : Int)) = true := by rw [hsame]; exact beq_self_eq_true _
      go_wp2
      rw [show ((k : Int) + 1) = ((k + 1 : Nat) : Int) by omega]
      exact ⟨⟨k + 1, us, _, _, hlt, rfl, TR.out, KB.out, HD.out, B.out, hn64, by have h := HST.out; rw [if_pos hsame] at h; exact h⟩, by simp [intOf]; omega⟩
     ·have e1 : (((us.length : Nat) : Int) == ((ts.length : Nat) : Int)) = false := by rw [beq_eq_false_iff_ne]; omega
      have z1 := KB.out.free 1
      have c1 := KB.out.at_ 1 _ rfl
      go_upto_region 24 with (fail)
      have hc1 : ((Y.size : Int) + 1) = ((Y.size + 1 : Nat) : Int) := by omega
      rw [hc1]
      clear hc1
      have K3 : Hid (Blk _ w.heap.size #[.int .i64 ((k : Int) + 1), .int .i64 ((Y.size + 1 : Nat) : Int)] 27) := Lib.hid (KB.out.set 1 (.int .i64 ((Y.size + 1 : Nat) : Int)))
      have TR3 := Lib.hid (TR.out.set ⟨w.heap.size, 1, none⟩ (by show w.heap.size < _; omega) (.int .i64 ((Y.size + 1 : Nat) : Int)))
      have B3 := Lib.hid (B.out.setCell (p := ⟨w.heap.size, 1, none⟩) (Nat.le_refl _) (.int .i64 ((Y.size + 1 : Nat) : Int)))
      have HD3 := Lib.hid (HD.out.else1 ⟨w.heap.size, 1, none⟩ (by show w.heap.size ≠ d; omega) (.int .i64 ((Y.size + 1 : Nat) : Int)))
      clear z1 c1 KB TR B HD
      generalize (wr.setCell ⟨w.heap.size, 1, none⟩ (.int .i64 ((Y.size + 1 : Nat) : Int))) = W3 at *
      have x0 := K3.out.at_ 0 _ rfl
      have x1 := K3.out.at_ 1 _ rfl
      by_cases h5 : us.length = 5000
      ·have n5 : (((us.length : Nat) : Int) == 5000) = true := by rw [h5]; rfl
       go_upto_region 25 with (fail)
       have hlt1 := K3.out.lt
       refine wp_tab [.v 89 (.agg #[.int .i64 ((k : Int) + 1), .int .i64 ((Y.size + 1 : Nat) : Int)]), .v 2 (.slice none 0 0), .z, .v 4 (.int .i64 4)] [] [⟨w.heap.size, #[.int .i64 ((k : Int) + 1), .int .i64 ((Y.size + 1 : Nat) : Int)], 27, none⟩] [] [] [] [] [] (by kernel_rfl) B3.out ⟨K3.out, trivial⟩ trivial ⟨ld 0 0, pu, ?_, pu, trivial⟩ ?_
       ·intro L a U ho J hn dd KK kk; refine .free rfl ?_; have r3 : a.tmps[(3 : Nat)]?.getD undef = .pointer (some ⟨w.heap.size, 0, none⟩) := ho.slot 3 rfl; have r89 := J.read 0 rfl (dd.get 0 rfl); have kb := (J.eld 0 rfl); have c0 := kb.at_ 0 _ rfl; have z0 := kb.free 0; have c1 := kb.at_ 1 _ rfl; have z1 := kb.free 1; clear kb; go_simp; exact kk.out undef _ (J.stored 2 0 rfl rfl (.inr ⟨rfl, rfl⟩) rfl rfl 0 [.int .i64 ((k : Int) + 1), .int .i64 ((Y.size + 1 : Nat) : Int)] rfl (Nat.le_refl _) hlt1 ⟨.inl rfl, trivial⟩ hn trivial)
       rintro σ WE _ ⟨KE, _⟩ _ _ BE
       simp only [slotsOf, finX, nval, nvalN, nvalA, Nat.reduceBEq, cond_true, cond_false, putAll, Act.put, List.setIfInBounds_toArray, List.set_cons_succ, List.set_cons_zero]
       go_wp2
       have e0 := KE.out.at_ 0 _ rfl
       have e1 := KE.out.at_ 1 _ rfl
       have hfin := HST.out
       rw [if_neg hsame, if_pos h5, ← Lib.size_eq] at hfin
       exact bodyPost_ret (v := scanV (.slice none 0 0) ((k : Int) + 1) ((Y.size + 1 : Nat) : Int) 4) (by simp [results, Tryz.results13, go_sem, e0, e1, scanV]) rfl ⟨.slice none 0 0, by rw [← hfin]; rfl, by rw [← hfin]; exact TokRow.nil _ _, BE.out⟩
      ·have n5 : (((us.length : Nat) : Int) == 5000) = false := by rw [beq_eq_false_iff_ne]; omega
       have hd3 := HD3.out.lt
       go_upto_region 27 with (at_builtin; go_loud (refine app_tok rfl (.tmp 90) (.tmp 93) rfl W3 (d + 1) (by omega) _ us TR3.out rfl (by omega) (endT (k + 1) (Y.size + 1)) rfl ?_; intro v5 W5 r1 r2 r3))
       have KB5 := Lib.hid (r2 _ _ _ (by omega) K3.out)
       have HD5 := Lib.hid (r2 _ _ _ (by omega) HD3.out)
       have TR5 := Lib.hid r1
       have B5 := Lib.hid (B3.out.trans (r3.mono (by omega)))
       clear r1 r2 r3 x0 x1 K3 HD3 TR3 B3
       go_wp2
       rw [show ((k : Int) + 1) = ((k + 1 : Nat) : Int) by omega]
       refine ⟨⟨k + 1, us ++ [endT (k + 1) (Y.size + 1)], _, _, hlt, rfl, TR5.out, KB5.out, HD5.out, B5.out, by rw [List.length_append]; show us.length + 1 ≤ 5000; omega, ?_⟩, by simp [intOf]; omega⟩
       have h := HST.out
       rw [if_neg hsame, if_neg h5, ← Lib.size_eq] at h
       exact h
  ·have hkl : k = PL.length := by omega
   have hR := HREST.out
   rw [hkl, List.drop_length] at hR
   have z0 := KB.out.free 0
   have z1 := KB.out.free 1
   have c0 := KB.out.at_ 0 _ rfl
   have c1 := KB.out.at_ 1 _ rfl
   go_upto_region 28 with (fail)
   go_wp2
   have KE := (KB.out.set 0 (.int .i64 0)).set 1 (.int .i64 0)
   have BE := (B.out.setCell (p := ⟨w.heap.size, 0, none⟩) (Nat.le_refl _) (.int .i64 0)).setCell (p := ⟨w.heap.size, 1, none⟩) (Nat.le_refl _) (.int .i64 0)
   have TE := (TR.out.set ⟨w.heap.size, 0, none⟩ (by show w.heap.size < _; omega) (.int .i64 0)).set ⟨w.heap.size, 1, none⟩ (by show w.heap.size < _; omega) (.int .i64 0)
   generalize ((wr.setCell ⟨w.heap.size, 0, none⟩ (.int .i64 0)).setCell ⟨w.heap.size, 1, none⟩ (.int .i64 0)) = WE at *
   have e0 := KE.at_ 0 _ rfl
   have e1 := KE.at_ 1 _ rfl
   rw [← hR]
   exact bodyPost_ret (v := scanV u2 0 0 0) (by simp [results, Tryz.results13, go_sem, e0, e1, scanV]) rfl ⟨u2, rfl, TE.mono (by omega), BE⟩

end Go.Proofs.YtfhmgkicccfghaaGreatDoor
