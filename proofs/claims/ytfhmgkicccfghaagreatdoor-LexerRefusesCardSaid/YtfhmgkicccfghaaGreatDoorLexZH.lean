/- lexer.Print. -/
import Derived.Test.YtfhmgkicccfghaaGreatDoorLexZG
import Derived.Test.YtfhmgkicccfghaaGreatDoorGText
namespace Go.Proofs.YtfhmgkicccfghaaGreatDoor
set_option linter.all false
open Go.RowKit

theorem Blk.others {w w' : World} {b tb : Nat} {cs : Array Value} (h : Blk w tb cs 38) (k : Lib.OthersKept 5 (some b) w w') (hne : tb ≠ b) : Blk w' tb cs 38 :=
 k tb _ h (fun e => hne (Option.some.inj e)) (fun c fz e => by injection e with _ e; cases e)
theorem isB_lt {B b : Nat} {bs : List Value} {w : World} (h : IsB B b bs w) : b < w.heap.size := h.elim (fun h => h.lt) (fun h => h.lt)
theorem wrB_any (b : Nat) (c : UInt8) (bs : List UInt8) (W : World) (h : IsB b b (Lib.byteCells bs) W) (hl : bs.length ≤ 1000000) (hw : b ≤ W.heap.size) :
  Calls Tryz.prog 42 #[.pointer (some ⟨b, 0, none⟩), .int .u8 (c.toNat : Nat)] W fun e w' => e = .returned .nilIface ∧ IsB b b (Lib.byteCells (bs ++ [c])) w' ∧ Below b W w' ∧ Lib.OthersKept 5 (some b) W w' := by
 refine (writeByte_any b b (Lib.byteCells bs) c.toNat W h (by rw [Lib.byteCells_length]; exact hl) hw).mono ?_
 rintro e w' ⟨h1, h2, h3, h4⟩
 exact ⟨h1, by rw [Lib.byteCells_append]; exact h2, h3, h4⟩
theorem wrS_any (b : Nat) (s : ByteArray) (bs : List UInt8) (W : World) (h : IsB b b (Lib.byteCells bs) W) (hl : bs.length ≤ 1000000) (hs : s.size ≤ 1000000) (hw : b ≤ W.heap.size) :
  Calls Tryz.prog 43 #[.pointer (some ⟨b, 0, none⟩), .string s] W fun e w' => e = .returned (.tuple #[.int .i64 s.size, .nilIface]) ∧ IsB b b (Lib.byteCells (bs ++ s.data.toList)) w' ∧ Below b W w' ∧ Lib.OthersKept 5 (some b) W w' := by
 refine (writeString_any b b (Lib.byteCells bs) s W h (by rw [Lib.byteCells_length]; exact hl) hs hw).mono ?_
 rintro e w' ⟨h1, h2, h3, h4⟩
 exact ⟨h1, by rw [Lib.byteCells_append]; exact h2, h3, h4⟩

set_option maxRecDepth 100000 in
set_option maxHeartbeats 8000000 in
theorem lprint_any (v : Value) (ts : List Tok) (PL PC : Nat → Int) (w : World) (R : Res) (hv : TokAtG w v ts PL PC) (hl : ts.length ≤ 5000) (hsz : (printF false ts).length ≤ 900000) (hRl : R.toks.length ≤ 5000)
  (hsc : ∀ W, Below w.heap.size w W → Calls Tryz.prog 13 #[.string ⟨(printF false ts).toArray⟩] W (ScanR W R)) :
  Calls Tryz.prog 28 #[v] w fun e w' => (∃ (S : ByteArray) (E : Int), e = .returned (.tuple #[.string S, .int .i64 E]) ∧ ((R.err = 0 ∧ SameL R.toks ts ∧ S.data.toList = printF false ts ∧ E = 0) ∨ (¬ (R.err = 0 ∧ SameL R.toks ts) ∧ S = ⟨#[]⟩ ∧ E = 7))) ∧ Below w.heap.size w w' := by
 have HV := Lib.hid hv
 obtain ⟨a, c, rfl, _⟩ := hv
 have SC : Hid (∀ W, Below w.heap.size w W → Calls Tryz.prog 13 #[.string ⟨(printF false ts).toArray⟩] W fun e w' => ∃ v, e = .returned (.tuple #[v, .agg #[.int .i64 R.line, .int .i64 R.col], .int .i64 R.err]) ∧ TokRow w' W.heap.size v R.toks ∧ Below W.heap.size W w') := Lib.hid hsc
 clear hsc
 have t1 : decide ((ts.length : Int) > 5000) = false := decide_eq_false (by omega)
 have f1 := isB_new w
 have f2 := below_new w (.cells #[.pointer none, .slice none 0 0] 71)
 have F1 := Lib.hid f1
 have F2 := Lib.hid f2
 clear f1 f2
 have wb32 : ∀ (bs : List UInt8) W, IsB w.heap.size w.heap.size (Lib.byteCells bs) W → bs.length ≤ 1000000 → w.heap.size ≤ W.heap.size → Calls Tryz.prog 42 #[.pointer (some ⟨w.heap.size, 0, none⟩), .int .u8 32] W fun e w' => e = .returned .nilIface ∧ IsB w.heap.size w.heap.size (Lib.byteCells (bs ++ [32])) w' ∧ Below w.heap.size W w' ∧ Lib.OthersKept 5 (some w.heap.size) W w' := fun bs W h1 h2 h3 => wrB_any w.heap.size 32 bs W h1 h2 h3
 have wb10 : ∀ (bs : List UInt8) W, IsB w.heap.size w.heap.size (Lib.byteCells bs) W → bs.length ≤ 1000000 → w.heap.size ≤ W.heap.size → Calls Tryz.prog 42 #[.pointer (some ⟨w.heap.size, 0, none⟩), .int .u8 10] W fun e w' => e = .returned .nilIface ∧ IsB w.heap.size w.heap.size (Lib.byteCells (bs ++ [10])) w' ∧ Below w.heap.size W w' ∧ Lib.OthersKept 5 (some w.heap.size) W w' := fun bs W h1 h2 h3 => wrB_any w.heap.size 10 bs W h1 h2 h3
 have wss : ∀ (s : ByteArray) (bs : List UInt8) W, IsB w.heap.size w.heap.size (Lib.byteCells bs) W → bs.length ≤ 1000000 → s.size ≤ 1000000 → w.heap.size ≤ W.heap.size → Calls Tryz.prog 43 #[.pointer (some ⟨w.heap.size, 0, none⟩), .string s] W fun e w' => e = .returned (.tuple #[.int .i64 s.size, .nilIface]) ∧ IsB w.heap.size w.heap.size (Lib.byteCells (bs ++ s.data.toList)) w' ∧ Below w.heap.size W w' ∧ Lib.OthersKept 5 (some w.heap.size) W w' := fun s bs W h1 h2 h3 h4 => wrS_any w.heap.size s bs W h1 h2 h3 h4
 have WB32 := Lib.hid wb32
 have WB10 := Lib.hid wb10
 have WSS := Lib.hid wss
 clear wb32 wb10 wss
 go_enter Tryz.func28, Tryz.ntmps28
 go_upto_region 4 with (fail)
 generalize hW0 : (w.alloc (.cells #[.pointer none, .slice none 0 0] 71)) = W0 at *
 clear hW0
 go_wp2
 go_loopw [15] (fun i wr => ∃ (k : Nat) (bs : List UInt8), k ≤ ts.length ∧ i = .int .i64 k ∧ IsB w.heap.size w.heap.size (Lib.byteCells bs) wr ∧ bs ++ printF (oAt ts k) (ts.drop k) = printF false ts ∧ Below w.heap.size w wr) (fun i _ => ts.length - (intOf i).toNat)
 case atStart => exact ⟨0, [], Nat.zero_le _, rfl, F1.out, rfl, F2.out⟩
 case round =>
  obtain ⟨k, bs, hk, rfl, hb, hS, hB⟩ := hrel
  have B := Lib.hid hB
  have HB := Lib.hid hb
  clear hB hb F1 F2
  have hbl : bs.length ≤ 900000 := by
   have := congrArg List.length hS
   rw [List.length_append] at this
   omega
  by_cases hlt : k < ts.length
  ·have hst := printF_step ts k hlt
   rw [hst] at hS
   have hS2 : (tokN ts k).kind ≠ 5 → (tokN ts k).text.length ≤ (bodyT (tokN ts k)).length := by
    intro h5
    unfold bodyT
    rw [if_neg h5]
    split
    ·rw [List.length_cons, List.length_append]; omega
    ·omega
   have hS3 : (tokN ts k).kind ≠ 5 → (tokN ts k).text.length ≤ 900000 := by
    intro h5
    have h2 := hS2 h5
    have := congrArg List.length hS
    rw [List.length_append, List.length_append, List.length_append] at this
    omega
   clear hst hS2
   obtain ⟨sb, hsb⟩ : ∃ sb, sb = (oAt ts k && ((tokN ts k).kind != 5)) := ⟨_, rfl⟩
   have HSB := Lib.hid hsb
   clear hsb
   have hS' : bs ++ ((if sb = true then [32] else []) ++ (bodyT (tokN ts k) ++ printF (oAt ts (k + 1)) (ts.drop (k + 1)))) = printF false ts := by
    rw [HSB.out]
    simp only [Bool.and_eq_true, bne_iff_ne]
    exact hS
   have HS := Lib.hid hS'
   clear hS hS'
   have HP : Hid (k = 0 ∨ ∃ j, k = j + 1) := Lib.hid (by cases k with | zero => exact .inl rfl | succ j => exact .inr ⟨j, rfl⟩)
   have HLT := isB_lt HB.out
   obtain ⟨d, o, c1, e1, q1⟩ := (HV.out.below B.out).cell k hlt
   injection e1 with e1 _ e1c
   subst e1 e1c
   have hN : ts[k] = tokN ts k := by have := tokN_some hlt; rw [List.getElem?_eq_getElem hlt] at this; injection this
   rw [hN] at q1
   have x0 : wr.cell? ⟨d, o + k * 5, none⟩ = _ := q1 0 _ rfl
   have x1 := q1 1 _ rfl
   have x2 := q1 2 _ rfl
   have x3 := q1 3 _ rfl
   have x4 := q1 4 _ rfl
   clear q1 hN
   have hi : (k : Int) < (ts.length : Int) := by omega
   have qq := below_new wr (.cells #[.int .i64 (tokN ts k).kind, .string ⟨(tokN ts k).text.toArray⟩, .string ⟨(tokN ts k).value.toArray⟩, .int .i64 (PL k), .int .i64 (PC k)] 38)
   go_upto_region 7 with (fail)
   have K6 := Lib.hid (Blk.fresh wr #[.int .i64 (tokN ts k).kind, .string ⟨(tokN ts k).text.toArray⟩, .string ⟨(tokN ts k).value.toArray⟩, .int .i64 (PL k), .int .i64 (PC k)] 38)
   replace B := Lib.hid (B.out.trans (qq.mono B.out.size))
   replace HB := Lib.hid (isB_below HB.out qq)
   clear x0 x1 x2 x3 x4 qq
   generalize (wr.alloc (.cells #[.int .i64 (tokN ts k).kind, .string ⟨(tokN ts k).text.toArray⟩, .string ⟨(tokN ts k).value.toArray⟩, .int .i64 (PL k), .int .i64 (PC k)] 38)) = W1 at *
   generalize htb : wr.heap.size = tb at *
   have htn : tb ≠ w.heap.size := by omega
   clear HLT
   go_cut [35] from 20 to 35 (fun bv wc => bv = .bool sb ∧ wc = W1)
   case first =>
    have y0 := K6.out.at_ 0 _ rfl
    rcases HP.out with hk0 | ⟨j, hj⟩
    ·subst hk0
     go_wp2_with (fail)
     go_meet
     case rel => exact ⟨by rw [HSB.out]; rfl, rfl⟩
    ·subst hj
     have hlt3 : j < ts.length := by omega
     obtain ⟨d3, o3, c3, e3, q3⟩ := (HV.out.below B.out).cell j hlt3
     injection e3 with e3 _ e3c
     injection e3 with e3
     injection e3 with e3a e3b
     subst e3a e3b e3c
     have hM : ts[j] = tokN ts j := by have := tokN_some hlt3; rw [List.getElem?_eq_getElem hlt3] at this; injection this
     rw [hM] at q3
     have p0 : W1.cell? ⟨d, o + j * 5, none⟩ = _ := q3 0 _ rfl
     clear q3 hM
     have t1 : decide ((j : Int) + 1 > 0) = true := decide_eq_true (by omega)
     have hi3 : (j : Int) < (ts.length : Int) := by omega
     by_cases h5 : (tokN ts (j + 1)).kind = 5
     ·have x5 : ((tokN ts (j + 1)).kind != 5) = false := by rw [h5]; rfl
      have HF := Lib.hid (show sb = false by rw [HSB.out, x5, Bool.and_false])
      clear h5
      go_wp2_with (fail)
      go_meet
      case rel => exact ⟨by rw [HF.out], rfl⟩
     ·have x5 : ((tokN ts (j + 1)).kind != 5) = true := by rw [bne_iff_ne]; exact h5
      clear h5
      by_cases h6 : (tokN ts j).kind = 5
      ·have x6 : ((tokN ts j).kind != 5) = false := by rw [h6]; rfl
       have HF := Lib.hid (show sb = false by rw [HSB.out, x5, Bool.and_true]; show decide ((tokN ts j).kind ≠ 5) = false; exact decide_eq_false (fun h => h h6))
       clear h6
       go_wp2_with (fail)
       go_meet
       case rel => exact ⟨by rw [HF.out], rfl⟩
      ·have x6 : ((tokN ts j).kind != 5) = true := by rw [bne_iff_ne]; exact h6
       have HF := Lib.hid (show sb = true by rw [HSB.out, x5, Bool.and_true]; show decide ((tokN ts j).kind ≠ 5) = true; exact decide_eq_true h6)
       clear h6
       go_wp2_with (fail)
       go_meet
       case rel => exact ⟨by rw [HF.out], rfl⟩
   case rest =>
    obtain ⟨rfl, rfl⟩ := hcut
    have y0 := K6.out.at_ 0 _ rfl
    have y1 := K6.out.at_ 1 _ rfl
    have hX : (⟨(tokN ts k).text.toArray⟩ : ByteArray).data.toList = (tokN ts k).text := rfl
    have hXs : (⟨(tokN ts k).text.toArray⟩ : ByteArray).size = (tokN ts k).text.length := by rw [Lib.size_eq]
    have hX3 : (tokN ts k).kind ≠ 5 → (⟨(tokN ts k).text.toArray⟩ : ByteArray).size ≤ 900000 := fun h5 => by rw [hXs]; exact hS3 h5
    clear hXs hS3
    generalize (⟨(tokN ts k).text.toArray⟩ : ByteArray) = X at *
    have HXT := Lib.hid hX
    have HX3 := Lib.hid hX3
    clear hX hX3
    cases sb with
    | true =>
     by_cases h3 : (tokN ts k).kind = 3
     ·have hs := HS.out
      unfold bodyT at hs
      rw [if_pos rfl, if_pos h3] at hs
      have HS1 := Lib.hid hs
      clear hs HS
      have hXs2 : X.size ≤ 1000000 := by have := HX3.out (by rw [h3]; decide); omega
      have hXq : ((⟨#[34]⟩ : ByteArray) ++ X ++ (⟨#[34]⟩ : ByteArray)).size ≤ 1000000 := by have := HX3.out (by rw [h3]; decide); rw [ByteArray.size_append, ByteArray.size_append]; show 1 + X.size + 1 ≤ _; omega
      have HXQ := Lib.hid hXq
      clear hXq
      have x3 : ((tokN ts k).kind == 3) = true := by rw [h3]; rfl
      clear h3
      have HL0 : Hid (bs.length ≤ 1000000) := Lib.hid (Nat.le_trans hbl (by decide))
      have HL1 : Hid ((bs ++ [32]).length ≤ 1000000) := Lib.hid (by rw [List.length_append]; show bs.length + 1 ≤ _; omega)
      go_wp2_with (first
       | (go_at_call 42; with_reducible refine (WB32.out _ _ HB.out (by first | exact HL0.out | exact HL1.out) B.out.size).mono ?_; rintro e wx ⟨rfl, h1, h2, h3⟩; replace K6 := Lib.hid (K6.out.others h3 htn); replace HB := Lib.hid h1; replace B := Lib.hid (B.out.trans h2); have y0 := K6.out.at_ 0 _ rfl; have y1 := K6.out.at_ 1 _ rfl; clear h1 h2 h3)
       | (go_at_call 43; with_reducible refine (WSS.out _ _ _ HB.out (by first | exact HL0.out | exact HL1.out) (by first | exact HXQ.out | exact hXs2) B.out.size).mono ?_; rintro e wx ⟨rfl, h1, h2, h3⟩; replace K6 := Lib.hid (K6.out.others h3 htn); replace HB := Lib.hid h1; replace B := Lib.hid (B.out.trans h2); have y0 := K6.out.at_ 0 _ rfl; have y1 := K6.out.at_ 1 _ rfl; clear h1 h2 h3)
       | fail "arm")
      refine ⟨⟨k + 1, _, hlt, by go_num, HB.out, ?_, B.out⟩, by simp [intOf]; omega⟩
      rw [← HS1.out, ← HXT.out]
      simp [ByteArray.data_append]
     ·by_cases h5 : (tokN ts k).kind = 5
      ·have hs := HS.out
       unfold bodyT at hs
       rw [if_pos rfl, if_neg h3, if_pos h5] at hs
       have HS1 := Lib.hid hs
       clear hs HS
       have x3 : ((tokN ts k).kind == 3) = false := by rw [beq_eq_false_iff_ne]; exact h3
       clear h3
       have x5 : ((tokN ts k).kind == 5) = true := by rw [h5]; rfl
       clear h5
       have HL0 : Hid (bs.length ≤ 1000000) := Lib.hid (Nat.le_trans hbl (by decide))
       have HL1 : Hid ((bs ++ [32]).length ≤ 1000000) := Lib.hid (by rw [List.length_append]; show bs.length + 1 ≤ _; omega)
       go_wp2_with (first
        | (go_at_call 42; with_reducible refine (WB32.out _ _ HB.out (by first | exact HL0.out | exact HL1.out) B.out.size).mono ?_; rintro e wx ⟨rfl, h1, h2, h3⟩; replace K6 := Lib.hid (K6.out.others h3 htn); replace HB := Lib.hid h1; replace B := Lib.hid (B.out.trans h2); have y0 := K6.out.at_ 0 _ rfl; have y1 := K6.out.at_ 1 _ rfl; clear h1 h2 h3)
        | (go_at_call 42; with_reducible refine (WB10.out _ _ HB.out (by first | exact HL0.out | exact HL1.out) B.out.size).mono ?_; rintro e wx ⟨rfl, h1, h2, h3⟩; replace K6 := Lib.hid (K6.out.others h3 htn); replace HB := Lib.hid h1; replace B := Lib.hid (B.out.trans h2); have y0 := K6.out.at_ 0 _ rfl; have y1 := K6.out.at_ 1 _ rfl; clear h1 h2 h3)
        | fail "arm")
       refine ⟨⟨k + 1, _, hlt, by go_num, HB.out, ?_, B.out⟩, by simp [intOf]; omega⟩
       rw [← HS1.out]
       simp [ByteArray.data_append]
      ·have hs := HS.out
       unfold bodyT at hs
       rw [if_pos rfl, if_neg h3, if_neg h5] at hs
       have HS1 := Lib.hid hs
       clear hs HS
       have hXs2 : X.size ≤ 1000000 := by have := HX3.out h5; omega
       have x3 : ((tokN ts k).kind == 3) = false := by rw [beq_eq_false_iff_ne]; exact h3
       clear h3
       have x5 : ((tokN ts k).kind == 5) = false := by rw [beq_eq_false_iff_ne]; exact h5
       clear h5
       have HL0 : Hid (bs.length ≤ 1000000) := Lib.hid (Nat.le_trans hbl (by decide))
       have HL1 : Hid ((bs ++ [32]).length ≤ 1000000) := Lib.hid (by rw [List.length_append]; show bs.length + 1 ≤ _; omega)
       go_wp2_with (first
        | (go_at_call 42; with_reducible refine (WB32.out _ _ HB.out (by first | exact HL0.out | exact HL1.out) B.out.size).mono ?_; rintro e wx ⟨rfl, h1, h2, h3⟩; replace K6 := Lib.hid (K6.out.others h3 htn); replace HB := Lib.hid h1; replace B := Lib.hid (B.out.trans h2); have y0 := K6.out.at_ 0 _ rfl; have y1 := K6.out.at_ 1 _ rfl; clear h1 h2 h3)
        | (go_at_call 43; with_reducible refine (WSS.out _ _ _ HB.out (by first | exact HL0.out | exact HL1.out) (by first | exact hXs2) B.out.size).mono ?_; rintro e wx ⟨rfl, h1, h2, h3⟩; replace K6 := Lib.hid (K6.out.others h3 htn); replace HB := Lib.hid h1; replace B := Lib.hid (B.out.trans h2); have y0 := K6.out.at_ 0 _ rfl; have y1 := K6.out.at_ 1 _ rfl; clear h1 h2 h3)
        | fail "arm")
       refine ⟨⟨k + 1, _, hlt, by go_num, HB.out, ?_, B.out⟩, by simp [intOf]; omega⟩
       rw [← HS1.out, ← HXT.out]
       simp [ByteArray.data_append]
    | false =>
     by_cases h3 : (tokN ts k).kind = 3
     ·have hs := HS.out
      unfold bodyT at hs
      rw [if_neg (by decide), if_pos h3] at hs
      have HS1 := Lib.hid hs
      clear hs HS
      have hXs2 : X.size ≤ 1000000 := by have := HX3.out (by rw [h3]; decide); omega
      have hXq : ((⟨#[34]⟩ : ByteArray) ++ X ++ (⟨#[34]⟩ : ByteArray)).size ≤ 1000000 := by have := HX3.out (by rw [h3]; decide); rw [ByteArray.size_append, ByteArray.size_append]; show 1 + X.size + 1 ≤ _; omega
      have HXQ := Lib.hid hXq
      clear hXq
      have x3 : ((tokN ts k).kind == 3) = true := by rw [h3]; rfl
      clear h3
      have HL0 : Hid (bs.length ≤ 1000000) := Lib.hid (Nat.le_trans hbl (by decide))
      have HL1 : Hid ((bs ++ [32]).length ≤ 1000000) := Lib.hid (by rw [List.length_append]; show bs.length + 1 ≤ _; omega)
      go_wp2_with (first
       | (go_at_call 43; with_reducible refine (WSS.out _ _ _ HB.out (by first | exact HL0.out | exact HL1.out) (by first | exact HXQ.out | exact hXs2) B.out.size).mono ?_; rintro e wx ⟨rfl, h1, h2, h3⟩; replace K6 := Lib.hid (K6.out.others h3 htn); replace HB := Lib.hid h1; replace B := Lib.hid (B.out.trans h2); have y0 := K6.out.at_ 0 _ rfl; have y1 := K6.out.at_ 1 _ rfl; clear h1 h2 h3)
       | fail "arm")
      refine ⟨⟨k + 1, _, hlt, by go_num, HB.out, ?_, B.out⟩, by simp [intOf]; omega⟩
      rw [← HS1.out, ← HXT.out]
      simp [ByteArray.data_append]
     ·by_cases h5 : (tokN ts k).kind = 5
      ·have hs := HS.out
       unfold bodyT at hs
       rw [if_neg (by decide), if_neg h3, if_pos h5] at hs
       have HS1 := Lib.hid hs
       clear hs HS
       have x3 : ((tokN ts k).kind == 3) = false := by rw [beq_eq_false_iff_ne]; exact h3
       clear h3
       have x5 : ((tokN ts k).kind == 5) = true := by rw [h5]; rfl
       clear h5
       have HL0 : Hid (bs.length ≤ 1000000) := Lib.hid (Nat.le_trans hbl (by decide))
       have HL1 : Hid ((bs ++ [32]).length ≤ 1000000) := Lib.hid (by rw [List.length_append]; show bs.length + 1 ≤ _; omega)
       go_wp2_with (first
        | (go_at_call 42; with_reducible refine (WB10.out _ _ HB.out (by first | exact HL0.out | exact HL1.out) B.out.size).mono ?_; rintro e wx ⟨rfl, h1, h2, h3⟩; replace K6 := Lib.hid (K6.out.others h3 htn); replace HB := Lib.hid h1; replace B := Lib.hid (B.out.trans h2); have y0 := K6.out.at_ 0 _ rfl; have y1 := K6.out.at_ 1 _ rfl; clear h1 h2 h3)
        | fail "arm")
       refine ⟨⟨k + 1, _, hlt, by go_num, HB.out, ?_, B.out⟩, by simp [intOf]; omega⟩
       rw [← HS1.out]
       simp [ByteArray.data_append]
      ·have hs := HS.out
       unfold bodyT at hs
       rw [if_neg (by decide), if_neg h3, if_neg h5] at hs
       have HS1 := Lib.hid hs
       clear hs HS
       have hXs2 : X.size ≤ 1000000 := by have := HX3.out h5; omega
       have x3 : ((tokN ts k).kind == 3) = false := by rw [beq_eq_false_iff_ne]; exact h3
       clear h3
       have x5 : ((tokN ts k).kind == 5) = false := by rw [beq_eq_false_iff_ne]; exact h5
       clear h5
       have HL0 : Hid (bs.length ≤ 1000000) := Lib.hid (Nat.le_trans hbl (by decide))
       have HL1 : Hid ((bs ++ [32]).length ≤ 1000000) := Lib.hid (by rw [List.length_append]; show bs.length + 1 ≤ _; omega)
       go_wp2_with (first
        | (go_at_call 43; with_reducible refine (WSS.out _ _ _ HB.out (by first | exact HL0.out | exact HL1.out) (by first | exact hXs2) B.out.size).mono ?_; rintro e wx ⟨rfl, h1, h2, h3⟩; replace K6 := Lib.hid (K6.out.others h3 htn); replace HB := Lib.hid h1; replace B := Lib.hid (B.out.trans h2); have y0 := K6.out.at_ 0 _ rfl; have y1 := K6.out.at_ 1 _ rfl; clear h1 h2 h3)
        | fail "arm")
       refine ⟨⟨k + 1, _, hlt, by go_num, HB.out, ?_, B.out⟩, by simp [intOf]; omega⟩
       rw [← HS1.out, ← HXT.out]
       simp [ByteArray.data_append]
  ·obtain rfl : k = ts.length := by omega
   rw [List.drop_length] at hS
   have hfin : bs = printF false ts := by rw [← hS]; show _ = _ ++ []; rw [List.append_nil]
   clear hS
   subst hfin
   have st1 : ∀ W, IsB w.heap.size w.heap.size (Lib.byteCells (printF false ts)) W → w.heap.size ≤ W.heap.size → Calls Tryz.prog 44 #[.pointer (some ⟨w.heap.size, 0, none⟩)] W fun e w' => e = .returned (.string ⟨(printF false ts).toArray⟩) ∧ IsB w.heap.size w.heap.size (Lib.byteCells (printF false ts)) w' ∧ Below w.heap.size W w' := fun W h h2 => by
    refine (Tryz.Builder_String_any_k w.heap.size w.heap.size (printF false ts) W h h2).mono ?_
    rintro e w' ⟨q1, q2, q3, _⟩
    exact ⟨q1, q2, q3⟩
   have STR := Lib.hid st1
   clear st1 WB32 WB10 WSS
   have HF := Lib.hid (show (⟨(printF false ts).toArray⟩ : ByteArray).data.toList = printF false ts from rfl)
   generalize (⟨(printF false ts).toArray⟩ : ByteArray) = Y at *
   generalize hbs : (printF false ts) = bs at *
   have HBS := Lib.hid hbs
   clear hbs
   clear hsz hbl
   go_upto_region 17 with (first
    | (go_at_call 44; with_reducible refine (STR.out _ HB.out B.out.size).mono ?_; rintro e wx ⟨rfl, h1, h2⟩; replace HB := Lib.hid h1; replace B := Lib.hid (B.out.trans h2); clear h1 h2)
    | (go_at_call 13; with_reducible refine (SC.out _ B.out).mono ?_; rintro e w2 ⟨v2, rfl, tr2, q2⟩)
    | fail "arm")
   have q3 := q2.alloc q2.size (.cells #[.int .i64 R.line, .int .i64 R.col] 27)
   have TR := Lib.hid (tr2.below (below_new w2 (.cells #[.int .i64 R.line, .int .i64 R.col] 27))).look
   replace HB := Lib.hid (isB_below HB.out q3)
   replace B := Lib.hid (B.out.trans (q3.mono B.out.size))
   obtain ⟨a2, c2, rfl⟩ := tr2.len_eval
   clear tr2 q2 q3
   generalize (w2.alloc (Obj.cells #[.int .i64 R.line, .int .i64 R.col] 27)) = W2 at *
   by_cases he : R.err = 0
   ·have ef : (R.err != 0) = false := by rw [he]; rfl
    have HE := Lib.hid he
    clear he
    have eq1 : ∀ W, TokAt W (.slice a2 R.toks.length c2) R.toks → TokAtG W (.slice a ts.length c) ts PL PC → Calls Tryz.prog 45 #[.slice a2 R.toks.length c2, .slice a ts.length c, .func (.func 16) #[] #[]] W fun e w' => (∃ r, e = .returned (.bool r) ∧ (r = true ↔ SameL R.toks ts)) ∧ Below W.heap.size W w' := fun W h1 h2 => equalFunc_any _ _ _ _ _ _ _ _ W h1.toG h2 hRl hl
    have EQ := Lib.hid eq1
    have HV2 := Lib.hid (HV.out.below B.out)
    clear eq1
    go_upto_if 66 with (first
     | (go_at_call 45; with_reducible refine (EQ.out _ TR.out HV2.out).mono ?_; rintro e w3 ⟨⟨r, rfl, hr⟩, q⟩; replace HB := Lib.hid (isB_below HB.out q); replace B := Lib.hid (B.out.trans (q.mono B.out.size)); clear q)
     | fail "arm")
    cases r with
    | true =>
     have hsl := hr.1 rfl
     have HSL := Lib.hid hsl
     clear hsl hr
     go_wp2_with (first
      | (go_at_call 44; with_reducible refine (STR.out _ HB.out B.out.size).mono ?_; rintro e wx ⟨rfl, h1, h2⟩; replace HB := Lib.hid h1; replace B := Lib.hid (B.out.trans h2); clear h1 h2)
      | fail "arm")
     go_ret2
     exact ⟨⟨_, _, rfl, .inl ⟨HE.out, HSL.out, HF.out.trans HBS.out.symm, rfl⟩⟩, B.out⟩
    | false =>
     have hsl : ¬ SameL R.toks ts := fun h => by have := hr.2 h; cases this
     have HSL := Lib.hid hsl
     clear hsl hr
     go_wp2
     go_ret2
     exact ⟨⟨_, _, rfl, .inr ⟨fun h => HSL.out h.2, rfl, rfl⟩⟩, B.out⟩
   ·have ef : (R.err != 0) = true := by rw [bne_iff_ne]; exact he
    have HE := Lib.hid he
    clear he
    go_wp2
    go_ret2
    exact ⟨⟨_, _, rfl, .inr ⟨fun h => HE.out h.1, rfl, rfl⟩⟩, B.out⟩

end Go.Proofs.YtfhmgkicccfghaaGreatDoor
