/- LexerScans: for every list of numbers of words the call returns true. -/
import Derived.Test.YtfhmgkicccfghaaGreatDoorLexZB
import Derived.Test.YtfhmgkicccfghaaGreatDoorLexYD
import Derived.Test.YtfhmgkicccfghaaGreatDoorLexZC
namespace Go.Proofs.YtfhmgkicccfghaaGreatDoor
set_option linter.all false
open Go.RowKit

set_option maxRecDepth 100000 in
set_option maxHeartbeats 4000000 in
theorem lexScans_walk (v : Value) (zs : List Int) (w : World) (he : Env w) (hv : U8At w v zs) :
  Calls Tryz.prog 3 #[v] w fun e w' => e = .returned (.bool true) ∧ Below w.heap.size w w' := by
 have KN := Lib.hid (fun W (hW : Below w.heap.size w W) => known51 W (he.below hW))
 have B := Lib.hid (Below.refl w.heap.size w)
 by_cases hlim : 40 < zs.length
 ·obtain ⟨a, c, rfl, _⟩ := hv
  have t1 : decide ((zs.length : Int) > 40) = true := decide_eq_true (by omega)
  go_enter Tryz.func3, Tryz.ntmps3
  go_wp2_with (first
   | (go_at_call 11; with_reducible refine (KN.out _ (baseI B.out)).mono ?_; rintro e wx ⟨rfl, q⟩; replace B := Lib.hid (goI B.out q); clear q)
   | fail "arm")
  go_ret
  exact ⟨rfl, B.out⟩
 ·have t1 : decide ((zs.length : Int) > 40) = false := decide_eq_false (by omega)
  obtain ⟨parse, hp⟩ := parse_exists
  have tx := fun W (hW : Below w.heap.size w W) => text_any v zs W (hv.below hW) (by omega)
  have hT : (⟨(zs.flatMap wordL).toArray⟩ : ByteArray).size ≤ 200 := by rw [Lib.size_eq]; have := text_len zs; show (zs.flatMap wordL).length ≤ 200; omega
  generalize (⟨(zs.flatMap wordL).toArray⟩ : ByteArray) = T at *
  obtain ⟨a, c, rfl, _⟩ := hv
  have TX := Lib.hid tx
  clear tx
  have s1 : ∀ W, Below w.heap.size w W → Calls Tryz.prog 13 #[.string T] W (ScanR W (scanF parse T.data.toList 1 1 false [])) := fun W hW => scan_any parse T W (by omega) (he.below hW).2 (hp.sub W (he.below hW) T (by omega))
  have s2 : ∀ W, Below w.heap.size w W → Calls Tryz.prog 14 #[.string T] W (ScanR W (scanF parse T.data.toList 1 1 false [])) := fun W hW => kscan_any parse T W (by omega) (hp.sub W (he.below hW) T (by omega))
  have hmax := scan_max parse T.data.toList.length T.data.toList 1 1 false [] (Nat.le_refl _) (by decide)
  generalize scanF parse T.data.toList 1 1 false [] = R at *
  have S1 : Hid (∀ W, Below w.heap.size w W → Calls Tryz.prog 13 #[.string T] W fun e w' => ∃ v, e = .returned (.tuple #[v, .agg #[.int .i64 R.line, .int .i64 R.col], .int .i64 R.err]) ∧ TokRow w' W.heap.size v R.toks ∧ Below W.heap.size W w') := Lib.hid s1
  have S2 : Hid (∀ W, Below w.heap.size w W → Calls Tryz.prog 14 #[.string T] W fun e w' => ∃ v, e = .returned (.tuple #[v, .agg #[.int .i64 R.line, .int .i64 R.col], .int .i64 R.err]) ∧ TokRow w' W.heap.size v R.toks ∧ Below W.heap.size W w') := Lib.hid s2
  have er : (R.err == R.err) = true := beq_self_eq_true _
  clear s1 s2 hp he
  go_enter Tryz.func3, Tryz.ntmps3
  go_upto_region 5 with (first
   | (go_at_call 11; with_reducible refine (KN.out _ (baseI B.out)).mono ?_; rintro e wx ⟨rfl, q⟩; replace B := Lib.hid (goI B.out q); clear q)
   | (go_at_call 12; with_reducible refine (TX.out _ (baseI B.out)).mono ?_; rintro e wx ⟨rfl, q⟩; replace B := Lib.hid (goI B.out q); clear q)
   | (go_at_call 13; with_reducible refine (S1.out _ (baseI B.out)).mono ?_; rintro e w1 ⟨v1, rfl, tr1, q1⟩)
   | fail "arm")
  have TR1 := Lib.hid (tr1.below (below_new w1 (.cells #[.int .i64 R.line, .int .i64 R.col] 27)))
  have P1 := Lib.hid (Blk.fresh w1 #[.int .i64 R.line, .int .i64 R.col] 27)
  replace B := Lib.hid ((goI B.out q1).alloc (goI B.out q1).size (.cells #[.int .i64 R.line, .int .i64 R.col] 27))
  obtain ⟨a1, c1, rfl⟩ := tr1.len_eval
  clear tr1 q1
  generalize (w1.alloc (Obj.cells #[.int .i64 R.line, .int .i64 R.col] 27)) = W1 at *
  go_upto_region 6 with (first
   | (go_at_call 14; with_reducible refine (S2.out _ (baseI B.out)).mono ?_; rintro e w2 ⟨v2, rfl, tr2, q2⟩)
   | fail "arm")
  have tr3 := tr2.below (below_new w2 (.cells #[.int .i64 R.line, .int .i64 R.col] 27))
  have P2 := Lib.hid (Blk.fresh w2 #[.int .i64 R.line, .int .i64 R.col] 27)
  have Q2 := q2.alloc q2.size (.cells #[.int .i64 R.line, .int .i64 R.col] 27)
  have tr4 := TR1.out.below Q2
  replace P1 := Lib.hid (P1.out.below Q2)
  replace B := Lib.hid (B.out.trans (Q2.mono B.out.size))
  obtain ⟨a2, c2, rfl⟩ := tr2.len_eval
  clear tr2 q2 Q2 TR1
  generalize (w2.alloc (Obj.cells #[.int .i64 R.line, .int .i64 R.col] 27)) = W2 at *
  have EQ := Lib.hid (equal_true _ _ R.toks W2 tr4.look tr3.look hmax)
  clear tr3 tr4
  go_wp2_with (first
   | (go_at_call 15; with_reducible refine EQ.out.mono ?_; rintro e w3 ⟨rfl, q3⟩; have P3 := P1.out.below q3; have P4 := P2.out.below q3; have x0 := P3.at_ 0 _ rfl; have x1 := P3.at_ 1 _ rfl; have y0 := P4.at_ 0 _ rfl; have y1 := P4.at_ 1 _ rfl; clear P3 P4)
   | fail "arm")
  go_ret
  exact ⟨rfl, B.out.trans (q3.mono B.out.size)⟩

end Go.Proofs.YtfhmgkicccfghaaGreatDoor
