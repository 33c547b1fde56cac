/- The example of chapter 51. -/
import Derived.Test.YtfhmgkicccfghaaGreatDoorLexZA
import Derived.Test.YtfhmgkicccfghaaGreatDoorLexO
namespace Go.Proofs.YtfhmgkicccfghaaGreatDoor
set_option linter.all false
open Go.RowKit

theorem Rd.grown {w W : World} {b n m : Nat} {s : Value} {ts : List Tok} (h : Rd w b s n ts) (hs : ∃ a l c, s = .slice a l c) (q : w.grownBy W (some b)) (hr : Rdr W b s m) (hm : m ≤ 5000) : Rd W b s m ts := ⟨hr, h.t.grown h.r hs q, h.le, hm⟩
theorem IsParse.call {parse : List UInt8 → List UInt8 × Int} (hp : IsParse parse) (w : World) (he : Env w) (y : List UInt8) (hy : y.length ≤ 1000) : ParseC parse w y := fun W hW =>
 rparse_any ⟨y.toArray⟩ _ _ (hp.ans y hy) (by rw [Lib.size_eq]; exact hy) W (he.below hW)
theorem IsParse.sub {parse : List UInt8 → List UInt8 × Int} (hp : IsParse parse) (w : World) (he : Env w) (S : ByteArray) (hs : S.size ≤ 1000) : ∀ c r, isNumStart c r = true → (c :: r).Sublist S.data.toList → ParseC parse w (c :: r.takeWhile isNum) := fun c r _ h =>
 hp.call w he _ (by
  have h1 := h.length_le
  have h2 := (List.takeWhile_sublist isNum (l := r)).length_le
  rw [List.length_cons] at h1 ⊢
  rw [Lib.size_eq] at hs
  omega)
theorem parse_36 {parse : List UInt8 → List UInt8 × Int} (hp : IsParse parse) : parse [51, 47, 54] = ([49, 47, 50], 0) := by
 have h := hp.ans [51, 47, 54] (by decide)
 generalize parse [51, 47, 54] = x at h ⊢
 obtain ⟨R, E⟩ := x
 rcases h with ⟨h, _⟩ | ⟨t, neg, hb, h⟩
 ·exact absurd h (by decide)
 ·have ht : t = ⟨#[51, 47, 54]⟩ ∧ neg = false := by
   cases neg with
   | true => have := hb.minus rfl; injection this with h1 _; exact absurd h1 (by decide)
   | false =>
    rcases hb.plain rfl with h | ⟨h, _⟩
    ·injection h with h1 _; exact absurd h1 (by decide)
    ·exact ⟨h, rfl⟩
  obtain ⟨rfl, rfl⟩ := ht
  rcases h with ⟨h1, _⟩ | ⟨a, b, h1, h2, h3⟩ | ⟨a, b, h1, h2, h3⟩
  ·exact absurd rfl (h1 47 (by simp)).1
  ·have h1' : ([51, 47, 54] : List UInt8) = a ++ 47 :: b := h1
   have hab : a = [51] ∧ b = [54] := by
    rcases a with _ | ⟨x, _ | ⟨y, a⟩⟩
    ·simp at h1'
    ·simp at h1'
     exact ⟨by rw [h1'.1], h1'.2.symm⟩
    ·simp at h1'
     exact absurd h1'.2.1.symm (h2 y (by simp)).1
   obtain ⟨rfl, rfl⟩ := hab
   rw [show (pres (!(digB [51] && digB [54])) (decide (200 < (⟨List.toArray [51, 47, 54]⟩ : ByteArray).size)) (decide (dval [54] = 0)) (canonR (mkRat (sgN false (dval [51])) (dval [54]))) : ByteArray × Int) = (canonR (mkRat 3 6), 0) from rfl] at h3
   rw [show mkRat 3 6 = half from rfl, k_half] at h3
   injection h3 with h4 h5
   injection h4 with h4
   have : R = [49, 47, 50] := by have := congrArg Array.toList h4; simpa using this
   have h6 : E = 0 := h5
   rw [this, h6]
  ·have h1' : ([51, 47, 54] : List UInt8) = a ++ 46 :: b := h1
   have : (46 : UInt8) ∈ ([51, 47, 54] : List UInt8) := by rw [h1']; simp
   exact absurd this (by decide)
def knownL : List UInt8 := [97, 49, 32, 45, 62, 32, 51, 47, 54, 44, 32, 34, 120, 32, 121, 34, 32, 35, 32, 110, 111, 116, 101]
def knownT : List Tok := [⟨1, [97, 49], [], 1, 1⟩, ⟨4, [45, 62], [], 1, 4⟩, ⟨2, [49, 47, 50], [49, 47, 50], 1, 7⟩, ⟨4, [44], [], 1, 10⟩, ⟨3, [120, 32, 121], [], 1, 12⟩, ⟨5, [10], [], 1, 24⟩]
theorem scan_known {parse : List UInt8 → List UInt8 × Int} (hp : IsParse parse) : scanF parse knownL 1 1 false [] = ⟨knownT, 0, 0, 0⟩ := by
 have f1 : firstS parse 97 ([49, 32, 45, 62, 32, 51, 47, 54, 44, 32, 34, 120, 32, 121, 34, 32, 35, 32, 110, 111, 116, 101].takeWhile notNl) = ⟨1, [97, 49], [], 2, 0⟩ := rfl
 have f2 : firstS parse 45 ([62, 32, 51, 47, 54, 44, 32, 34, 120, 32, 121, 34, 32, 35, 32, 110, 111, 116, 101].takeWhile notNl) = ⟨4, [45, 62], [], 2, 0⟩ := rfl
 have f3 : firstS parse 51 ([47, 54, 44, 32, 34, 120, 32, 121, 34, 32, 35, 32, 110, 111, 116, 101].takeWhile notNl) = ⟨2, [49, 47, 50], [49, 47, 50], 3, 0⟩ := by
  have e : firstS parse 51 ([47, 54, 44, 32, 34, 120, 32, 121, 34, 32, 35, 32, 110, 111, 116, 101].takeWhile notNl) = (if (parse [51, 47, 54]).2 = 0 then ⟨2, (parse [51, 47, 54]).1, (parse [51, 47, 54]).1, 3, 0⟩ else Fst.bad 2) := rfl
  rw [e, parse_36 hp]
  rfl
 have f4 : firstS parse 44 ([32, 34, 120, 32, 121, 34, 32, 35, 32, 110, 111, 116, 101].takeWhile notNl) = ⟨4, [44], [], 1, 0⟩ := rfl
 have f5 : firstS parse 34 ([120, 32, 121, 34, 32, 35, 32, 110, 111, 116, 101].takeWhile notNl) = ⟨3, [120, 32, 121], [], 5, 0⟩ := rfl
 unfold knownL
 rw [scanF_tok _ _ _ _ _ _ _ (by decide) (by decide) (by decide) (by rw [f1]) (by decide), f1]
 show scanF parse [32, 45, 62, 32, 51, 47, 54, 44, 32, 34, 120, 32, 121, 34, 32, 35, 32, 110, 111, 116, 101] 1 3 true _ = _
 rw [scanF_blank _ _ _ _ _ _ _ (by decide) (by decide), scanF_tok _ _ _ _ _ _ _ (by decide) (by decide) (by decide) (by rw [f2]) (by decide), f2]
 show scanF parse [32, 51, 47, 54, 44, 32, 34, 120, 32, 121, 34, 32, 35, 32, 110, 111, 116, 101] 1 6 true _ = _
 rw [scanF_blank _ _ _ _ _ _ _ (by decide) (by decide), scanF_tok _ _ _ _ _ _ _ (by decide) (by decide) (by decide) (by rw [f3]) (by decide), f3]
 show scanF parse [44, 32, 34, 120, 32, 121, 34, 32, 35, 32, 110, 111, 116, 101] 1 10 true _ = _
 rw [scanF_tok _ _ _ _ _ _ _ (by decide) (by decide) (by decide) (by rw [f4]) (by decide), f4]
 show scanF parse [32, 34, 120, 32, 121, 34, 32, 35, 32, 110, 111, 116, 101] 1 11 true _ = _
 rw [scanF_blank _ _ _ _ _ _ _ (by decide) (by decide), scanF_tok _ _ _ _ _ _ _ (by decide) (by decide) (by decide) (by rw [f5]) (by decide), f5]
 show scanF parse [32, 35, 32, 110, 111, 116, 101] 1 17 true _ = _
 rw [scanF_blank _ _ _ _ _ _ _ (by decide) (by decide), scanF_comment]
 show scanF parse [] 1 24 true _ = _
 rw [scanF_nil, if_pos rfl, if_neg (by decide)]
 rfl

set_option maxRecDepth 100000 in
set_option maxHeartbeats 4000000 in
theorem known51 (w : World) (he : Env w) :
  Calls Tryz.prog 11 #[] w fun e w' => e = .returned (.bool true) ∧ Below w.heap.size w w' := by
 obtain ⟨parse, hp⟩ := parse_exists
 have sc := scan_any parse ⟨knownL.toArray⟩ w (by decide) he.2 (hp.sub w he _ (by decide))
 have e1 : scanF parse (⟨knownL.toArray⟩ : ByteArray).data.toList 1 1 false [] = ⟨knownT, 0, 0, 0⟩ := scan_known hp
 rw [e1] at sc
 have SCN : Hid (Calls Tryz.prog 13 #[.string ⟨#[97, 49, 32, 45, 62, 32, 51, 47, 54, 44, 32, 34, 120, 32, 121, 34, 32, 35, 32, 110, 111, 116, 101]⟩] w fun e w' => ∃ v, e = .returned (.tuple #[v, .agg #[.int .i64 0, .int .i64 0], .int .i64 0]) ∧ TokRow w' w.heap.size v knownT ∧ Below w.heap.size w w') := Lib.hid sc
 clear sc e1 he hp
 go_enter Tryz.func11, Tryz.ntmps11
 go_upto_region 2 with (first
  | (go_at_call 13; with_reducible refine SCN.out.mono ?_; rintro e wx ⟨v, rfl, tr, q⟩; rcases tr.look.cell 0 (by decide) with ⟨d, o, c, rfl, _⟩)
  | fail "arm")
 have hblk : ∃ r, o = 0 ∧ w.heap.size ≤ d ∧ Blk wx d (tokCells knownT ++ r).toArray 38 := by
  rcases tr with ⟨h, _⟩ | ⟨d', c', r, e, hb, _, hk, _⟩
  ·cases h
  ·injection e with e1 _ _
   injection e1 with e1
   injection e1 with e2 e3
   subst e2 e3
   exact ⟨r, rfl, hb, hk⟩
 obtain ⟨r, rfl, hdw, hk⟩ := hblk
 have KD := Lib.hid (hk.alloc (.cells #[.int .i64 0, .int .i64 0] 27))
 have KP := Lib.hid (Blk.fresh wx #[.int .i64 0, .int .i64 0] 27)
 have TR := Lib.hid (tr.below (below_new wx (.cells #[.int .i64 0, .int .i64 0] 27)))
 have B := Lib.hid (q.alloc q.size (.cells #[.int .i64 0, .int .i64 0] 27))
 clear tr q hk
 generalize (wx.alloc (Obj.cells #[.int .i64 0, .int .i64 0] 27)) = W1 at *
 rw [show knownT.length = 6 from rfl]
 have p0 := KP.out.at_ 0 _ rfl
 have p1 := KP.out.at_ 1 _ rfl
 have x11 := KD.out.atL 11 (.string ⟨#[49, 47, 50]⟩) rfl
 have x12 := KD.out.atL 12 (.string ⟨#[49, 47, 50]⟩) rfl
 have x21 := KD.out.atL 21 (.string ⟨#[120, 32, 121]⟩) rfl
 have x28 := KD.out.atL 28 (.int .i64 1) rfl
 have x29 := KD.out.atL 29 (.int .i64 24) rfl
 go_upto_region 4 with (fail)
 clear p0 p1 x11 x12 x21 x28 x29
 have OP : Hid (Calls Tryz.prog 17 #[.slice (some ⟨d, 0, none⟩) 6 c] W1 fun e w' => (∃ b v, W1.heap.size ≤ b ∧ e = .returned (.pointer (some ⟨b, 0, none⟩)) ∧ Rdr w' b v 0 ∧ TokRow w' W1.heap.size v knownT) ∧ Below W1.heap.size W1 w') := Lib.hid (open_tok _ knownT W1 _ TR.out (by decide))
 go_upto_region 5 with (first
  | (go_at_call 17; with_reducible refine OP.out.mono ?_; rintro e w2 ⟨⟨b, v, hb, rfl, hr, ht⟩, q2⟩)
  | fail "arm")
 have hv := ht.len_eval
 have hv2 : ∃ a l c, v = .slice a l c := by obtain ⟨a, c, h⟩ := hv; exact ⟨a, _, c, h⟩
 have RD : Rd w2 b v 0 knownT := ⟨hr, ht.look, by decide, by decide⟩
 have hwb : w.heap.size ≤ b := Nat.le_trans B.out.size hb
 have B2 := Lib.hid (B.out.trans (q2.mono B.out.size))
 have nx := rnext_yes b 0 v knownT ⟨1, [97, 49], [], 1, 1⟩ w2 RD rfl
 have NX : Hid (Calls Tryz.prog 22 #[.pointer (some ⟨b, 0, none⟩)] w2 fun e w' => (e = .returned (.tuple #[.agg #[.int .i64 1, .string ⟨#[97, 49]⟩, .string ⟨#[]⟩, .int .i64 1, .int .i64 1], .bool true]) ∧ Rdr w' b v 1) ∧ w2.grownBy w' (some b)) := Lib.hid nx
 have HR := Lib.hid RD
 clear OP hr ht hv RD q2 nx TR KD KP B
 go_upto_region 6 with (first
  | (go_at_call 22; with_reducible refine NX.out.mono ?_; rintro e w3 ⟨⟨rfl, hr3⟩, q3⟩)
  | fail "arm")
 have R3 := (HR.out.grown hv2 q3 hr3 (by decide)).below (below_new w3 (.cells #[.int .i64 1, .string ⟨#[97, 49]⟩, .string ⟨#[]⟩, .int .i64 1, .int .i64 1] 38))
 have B3 := Lib.hid ((B2.out.grown q3 B2.out.size (fun k hk => by injection hk with hk; omega)).alloc (Nat.le_trans B2.out.size q3.size) (.cells #[.int .i64 1, .string ⟨#[97, 49]⟩, .string ⟨#[]⟩, .int .i64 1, .int .i64 1] 38))
 clear q3 hr3 NX HR B2
 generalize (w3.alloc (Obj.cells #[.int .i64 1, .string ⟨#[97, 49]⟩, .string ⟨#[]⟩, .int .i64 1, .int .i64 1] 38)) = W3 at *
 have ac := raccept_yes b 1 v knownT ⟨4, [45, 62], [], 1, 4⟩ ⟨#[45, 62]⟩ W3 R3 rfl (by rw [Bool.and_eq_true]; exact ⟨rfl, beq_self_eq_true (ByteArray.toList ⟨#[45, 62]⟩)⟩)
 have AC : Hid (Calls Tryz.prog 25 #[.pointer (some ⟨b, 0, none⟩), .string ⟨#[45, 62]⟩] W3 fun e w' => (e = .returned (.bool true) ∧ Rdr w' b v 2) ∧ W3.grownBy w' (some b)) := Lib.hid ac
 have HR := Lib.hid R3
 clear R3 ac
 go_upto_region 7 with (first
  | (go_at_call 25; with_reducible refine AC.out.mono ?_; rintro e w4 ⟨⟨rfl, hr4⟩, q4⟩)
  | fail "arm")
 have R4 := HR.out.grown hv2 q4 hr4 (by decide)
 have B4 := Lib.hid (B3.out.grown q4 B3.out.size (fun k hk => by injection hk with hk; omega))
 clear q4 hr4 AC HR B3
 have tk := rtake_no b 2 v knownT ⟨2, [49, 47, 50], [49, 47, 50], 1, 7⟩ 4 w4 R4 rfl (by decide)
 have TK : Hid (Calls Tryz.prog 23 #[.pointer (some ⟨b, 0, none⟩), .int .i64 4] w4 fun e w' => e = .returned (.tuple #[.agg #[.int .i64 0, .string ⟨#[]⟩, .string ⟨#[]⟩, .int .i64 0, .int .i64 0], .bool false]) ∧ Below w4.heap.size w4 w') := Lib.hid tk
 have HR := Lib.hid R4
 clear R4 tk
 go_upto_region 8 with (first
  | (go_at_call 23; with_reducible refine TK.out.mono ?_; rintro e w5 ⟨rfl, q5⟩)
  | fail "arm")
 have R5 := (HR.out.below q5).below (below_new w5 (.cells #[.int .i64 0, .string ⟨#[]⟩, .string ⟨#[]⟩, .int .i64 0, .int .i64 0] 38))
 have B5 := Lib.hid ((B4.out.trans (q5.mono B4.out.size)).alloc (Nat.le_trans B4.out.size q5.size) (.cells #[.int .i64 0, .string ⟨#[]⟩, .string ⟨#[]⟩, .int .i64 0, .int .i64 0] 38))
 clear q5 TK HR B4
 generalize (w5.alloc (Obj.cells #[.int .i64 0, .string ⟨#[]⟩, .string ⟨#[]⟩, .int .i64 0, .int .i64 0] 38)) = W5 at *
 have ps := pos_any b v 2 W5 R5.r
 have PS : Hid (Calls Tryz.prog 19 #[.pointer (some ⟨b, 0, none⟩)] W5 fun e w' => e = .returned (.int .i64 2) ∧ Below W5.heap.size W5 w') := Lib.hid ps
 clear ps R5
 go_wp2_with (first
  | (go_at_call 19; with_reducible refine PS.out.mono ?_; rintro e w6 ⟨rfl, q6⟩)
  | fail "arm")
 go_ret
 exact ⟨rfl, B5.out.trans (q6.mono B5.out.size)⟩

end Go.Proofs.YtfhmgkicccfghaaGreatDoor
