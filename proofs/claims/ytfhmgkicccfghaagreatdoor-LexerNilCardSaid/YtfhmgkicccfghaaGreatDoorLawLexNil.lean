/- LexerNil: for every kind and text the call returns true. -/
import Derived.Test.YtfhmgkicccfghaaGreatDoorLexZD
namespace Go.Proofs.YtfhmgkicccfghaaGreatDoor
set_option linter.all false
open Go.RowKit

set_option maxRecDepth 100000 in
set_option maxHeartbeats 4000000 in
theorem lexNil_walk (k : Int) (S : ByteArray) (w : World) (he : Env w) :
  Calls Tryz.prog 8 #[.int .i64 k, .string S] w fun e w' => e = .returned (.bool true) ∧ Below w.heap.size w w' := by
 have KN := Lib.hid (fun W (hW : Below w.heap.size w W) => known51 W (he.below hW))
 have B := Lib.hid (Below.refl w.heap.size w)
 clear he
 by_cases hlim : 40 < S.size
 ·have t1 : decide ((S.size : Int) > 40) = true := decide_eq_true (by omega)
  go_enter Tryz.func8, Tryz.ntmps8
  go_wp2_with (first
   | (go_at_call 11; with_reducible refine (KN.out _ (baseI B.out)).mono ?_; rintro e wx ⟨rfl, q⟩; replace B := Lib.hid (goI B.out q); clear q)
   | fail "arm")
  go_ret
  exact ⟨rfl, B.out⟩
 have t1 : decide ((S.size : Int) > 40) = false := decide_eq_false (by omega)
 have OP : Hid (∀ W, Calls Tryz.prog 17 #[.slice none 0 0] W fun e w' => (∃ b v, W.heap.size ≤ b ∧ e = .returned (.pointer (some ⟨b, 0, none⟩)) ∧ Rdr w' b v 0 ∧ TokRow w' W.heap.size v []) ∧ Below W.heap.size W w') := Lib.hid (fun W => open_tok (.slice none 0 0) [] W W.heap.size (TokRow.nil _ _) (by decide))
 have BN : Hid (∀ W, Calls Tryz.prog 27 #[.pointer none, .int .i64 0] W fun e w' => e = .returned (.bool false) ∧ Below W.heap.size W w') := Lib.hid (fun W => back_nil 0 W)
 have BYL : Hid (∀ (b : Nat) (v : Value) (w : World), Rdr w b v 0 → Calls Tryz.prog 27 #[.pointer (some ⟨b, 0, none⟩), .int .i64 0] w fun e w' => (e = .returned (.bool true) ∧ Rdr w' b v 0) ∧ w.grownBy w' (some b)) := Lib.hid (fun b v w h => back_yes b v 0 0 w h (by omega) (by omega))
 go_enter Tryz.func8, Tryz.ntmps8
 go_upto_region 5 with (first
  | (go_at_call 11; with_reducible refine (KN.out _ (baseI B.out)).mono ?_; rintro e wx ⟨rfl, q⟩; replace B := Lib.hid (goI B.out q); clear q)
  | (go_at_call 17; with_reducible refine (OP.out _).mono ?_; rintro e wx ⟨⟨b, v, hb, rfl, hr, ht⟩, q⟩; have hwb := Nat.le_trans (baseI B.out).size hb; replace B := Lib.hid (goI B.out q))
  | fail "arm")
 have rd : Rd wx b v 0 [] := ⟨hr, ht.look, by decide, by decide⟩
 have KM := Lib.hid (Blk.fresh wx #[.pointer none, .pointer (some ⟨b, 0, none⟩)] 39)
 have RR := Lib.hid (rd.below (below_new wx (.cells #[.pointer none, .pointer (some ⟨b, 0, none⟩)] 39)))
 replace B := Lib.hid (B.out.alloc B.out.size (.cells #[.pointer none, .pointer (some ⟨b, 0, none⟩)] 39))
 clear rd hr ht q
 generalize (wx.alloc (Obj.cells #[.pointer none, .pointer (some ⟨b, 0, none⟩)] 39)) = W1 at *
 generalize wx.heap.size = m at *
 go_loopw [26] (fun i wr => ∃ j : Nat, j ≤ 2 ∧ i = .int .i64 j ∧ Blk wr m #[.pointer none, .pointer (some ⟨b, 0, none⟩)] 39 ∧ Rd wr b v 0 [] ∧ Below w.heap.size w wr) (fun i _ => 2 - (intOf i).toNat)
 case atStart => exact ⟨0, by omega, rfl, KM.out, RR.out, B.out⟩
 case round =>
  obtain ⟨j, hj, rfl, hkm, hrr, hB⟩ := hrel
  clear KM RR B
  have KM := Lib.hid hkm
  have RR := Lib.hid hrr
  have B := Lib.hid hB
  have Q := Lib.hid (Below.refl wr.heap.size wr)
  by_cases hlt : j < 2
  ·have hp : ∃ p, wr.cell? ⟨m, j, none⟩ = some p ∧ Void wr p k S := by
    rcases j with _ | _ | j
    ·exact ⟨_, hkm.at_ 0 _ rfl, void_nil wr k S⟩
    ·exact ⟨_, hkm.at_ 1 _ rfl, void_rd hrr k S⟩
    ·omega
   obtain ⟨p, hcell, hv⟩ := hp
   have V := Lib.hid hv
   clear hv hkm hrr hB
   go_upto_region 8 with (first
    | (go_at_call 18; with_reducible refine (V.out.peek _ (baseI Q.out)).mono ?_; rintro e wx ⟨rfl, q⟩; replace Q := Lib.hid (goI Q.out q); clear q)
    | fail "arm")
   clear hcell
   have KA := Lib.hid (Blk.fresh wx #[.int .i64 0, .string ⟨#[]⟩, .string ⟨#[]⟩, .int .i64 0, .int .i64 0] 38)
   have q := below_new wx (.cells #[.int .i64 0, .string ⟨#[]⟩, .string ⟨#[]⟩, .int .i64 0, .int .i64 0] 38)
   replace Q := Lib.hid (Q.out.alloc Q.out.size (.cells #[.int .i64 0, .string ⟨#[]⟩, .string ⟨#[]⟩, .int .i64 0, .int .i64 0] 38))
   clear q
   generalize (wx.alloc (Obj.cells #[.int .i64 0, .string ⟨#[]⟩, .string ⟨#[]⟩, .int .i64 0, .int .i64 0] 38)) = WKA at *
   go_upto_region 9 with (first
    | (go_at_call 22; with_reducible refine (V.out.next _ (baseI Q.out)).mono ?_; rintro e wx ⟨rfl, q⟩; replace KA := Lib.hid (KA.out.near (by first | exact Near.same _ | exact Near.one _) q); replace Q := Lib.hid (goI Q.out q); clear q)
    | fail "arm")
   have KB := Lib.hid (Blk.fresh wx #[.int .i64 0, .string ⟨#[]⟩, .string ⟨#[]⟩, .int .i64 0, .int .i64 0] 38)
   have q := below_new wx (.cells #[.int .i64 0, .string ⟨#[]⟩, .string ⟨#[]⟩, .int .i64 0, .int .i64 0] 38)
   replace KA := Lib.hid (KA.out.below q)
   replace Q := Lib.hid (Q.out.alloc Q.out.size (.cells #[.int .i64 0, .string ⟨#[]⟩, .string ⟨#[]⟩, .int .i64 0, .int .i64 0] 38))
   clear q
   generalize (wx.alloc (Obj.cells #[.int .i64 0, .string ⟨#[]⟩, .string ⟨#[]⟩, .int .i64 0, .int .i64 0] 38)) = WKB at *
   go_upto_region 10 with (first
    | (go_at_call 23; with_reducible refine (V.out.take _ (baseI Q.out)).mono ?_; rintro e wx ⟨rfl, q⟩; replace KA := Lib.hid (KA.out.near (by first | exact Near.same _ | exact Near.one _) q); replace KB := Lib.hid (KB.out.near (by first | exact Near.same _ | exact Near.one _) q); replace Q := Lib.hid (goI Q.out q); clear q)
    | fail "arm")
   have KC := Lib.hid (Blk.fresh wx #[.int .i64 0, .string ⟨#[]⟩, .string ⟨#[]⟩, .int .i64 0, .int .i64 0] 38)
   have q := below_new wx (.cells #[.int .i64 0, .string ⟨#[]⟩, .string ⟨#[]⟩, .int .i64 0, .int .i64 0] 38)
   replace KA := Lib.hid (KA.out.below q)
   replace KB := Lib.hid (KB.out.below q)
   replace Q := Lib.hid (Q.out.alloc Q.out.size (.cells #[.int .i64 0, .string ⟨#[]⟩, .string ⟨#[]⟩, .int .i64 0, .int .i64 0] 38))
   clear q
   generalize (wx.alloc (Obj.cells #[.int .i64 0, .string ⟨#[]⟩, .string ⟨#[]⟩, .int .i64 0, .int .i64 0] 38)) = WKC at *
   have xKA0 := KA.out.at_ 0 _ rfl
   have xKA1 := KA.out.at_ 1 _ rfl
   have xKA2 := KA.out.at_ 2 _ rfl
   have xKA3 := KA.out.at_ 3 _ rfl
   have xKA4 := KA.out.at_ 4 _ rfl
   have xKB0 := KB.out.at_ 0 _ rfl
   have xKB1 := KB.out.at_ 1 _ rfl
   have xKB2 := KB.out.at_ 2 _ rfl
   have xKB3 := KB.out.at_ 3 _ rfl
   have xKB4 := KB.out.at_ 4 _ rfl
   have xKC0 := KC.out.at_ 0 _ rfl
   have xKC1 := KC.out.at_ 1 _ rfl
   have xKC2 := KC.out.at_ 2 _ rfl
   have xKC3 := KC.out.at_ 3 _ rfl
   have xKC4 := KC.out.at_ 4 _ rfl
   go_wp2_with (first
    | (go_at_call 25; with_reducible refine (V.out.accept _ (baseI Q.out)).mono ?_; rintro e wx ⟨rfl, q⟩; replace Q := Lib.hid (goI Q.out q); clear q)
    | (go_at_call 26; with_reducible refine (V.out.rest _ (baseI Q.out)).mono ?_; rintro e wx ⟨rfl, q⟩; replace Q := Lib.hid (goI Q.out q); clear q)
    | (go_at_call 19; with_reducible refine (V.out.pos _ (baseI Q.out)).mono ?_; rintro e wx ⟨rfl, q⟩; replace Q := Lib.hid (goI Q.out q); clear q)
    | (go_at_call 20; with_reducible refine (V.out.at_ _ (baseI Q.out)).mono ?_; rintro e wx ⟨rfl, q⟩; replace Q := Lib.hid (goI Q.out q); clear q)
    | (go_at_call 27; with_reducible refine (V.out.back _ (baseI Q.out)).mono ?_; rintro e wx ⟨rfl, q⟩; replace Q := Lib.hid (goI Q.out q); clear q)
    | fail "arm")
   exact ⟨⟨j + 1, by omega, by go_num, KM.out.below Q.out, RR.out.below Q.out, B.out.trans (Q.out.mono B.out.size)⟩, by simp [intOf]; omega⟩
  ·obtain rfl : j = 2 := by omega
   clear hkm hrr hB
   go_wp2_with (first
    | (go_at_call 27; with_reducible refine (BN.out _).mono ?_; rintro e w2 ⟨rfl, q2⟩; replace B := Lib.hid (goI B.out q2); clear q2)
    | (go_at_call 17; with_reducible refine (OP.out _).mono ?_; rintro e w3 ⟨⟨b3, v3, hb3, rfl, hr3, ht3⟩, q3⟩; have hwb3 := Nat.le_trans (baseI B.out).size hb3; replace B := Lib.hid (goI B.out q3); have BY := Lib.hid (BYL.out b3 v3 w3 hr3); clear q3)
    | (go_at_call 27; with_reducible refine BY.out.mono ?_; rintro e w4 ⟨⟨rfl, hr4⟩, q4⟩; have G := Lib.hid (B.out.grown q4 B.out.size (fun k hk => by injection hk with hk; omega)); clear q4)
    | fail "arm")
   go_ret
   exact ⟨rfl, G.out⟩

end Go.Proofs.YtfhmgkicccfghaaGreatDoor
