/- The model's equal, same, and Same. -/
import Derived.Test.YtfhmgkicccfghaaGreatDoorGLexX
import Derived.Deep.QuietTactic
import Derived.BigQuiet
namespace Go.Proofs.YtfhmgkicccfghaaGreatDoor
set_option linter.all false
open Go.RowKit

theorem TokAt.cell {w : World} {v : Value} {ts : List Tok} (h : TokAt w v ts) (i : Nat) (hi : i < ts.length) : ∃ d o c, v = .slice (some ⟨d, o, none⟩) ts.length c ∧ ∀ j u, (ts[i].cells)[j]? = some u → w.cell? ⟨d, o + i * 5 + j, none⟩ = some u := by
 obtain ⟨a, c, rfl, h2⟩ := h
 obtain ⟨d, o, rfl, hd, hc⟩ := h2 i ts[i] (List.getElem?_eq_getElem hi)
 exact ⟨d, o, c, rfl, hc⟩

set_option maxRecDepth 100000 in
set_option maxHeartbeats 4000000 in
theorem equal_true (v u : Value) (ts : List Tok) (w : World) (hv : TokAt w v ts) (hu : TokAt w u ts) (hl : ts.length ≤ 5000) :
  Calls Tryz.prog 15 #[v, u] w fun e w' => e = .returned (.bool true) ∧ Below w.heap.size w w' := by
 have HV := Lib.hid hv
 have HU := Lib.hid hu
 obtain ⟨a, c, rfl, _⟩ := hv
 obtain ⟨a', c', rfl, _⟩ := hu
 go_enter Tryz.func15, Tryz.ntmps15
 go_wp2
 go_loopw [5] (fun i wr => ∃ k : Nat, k ≤ ts.length ∧ i = .int .i64 k ∧ Below w.heap.size w wr) (fun i _ => ts.length - (intOf i).toNat)
 case atStart => exact ⟨0, Nat.zero_le _, rfl, Below.refl _ _⟩
 case round =>
  obtain ⟨k, hk, rfl, hB⟩ := hrel
  have B := Lib.hid hB
  clear hB
  by_cases hlt : k < ts.length
  ·obtain ⟨d, o, c1, e1, q1⟩ := (HV.out.below B.out).cell k hlt
   obtain ⟨d', o', c2, e2, q2⟩ := (HU.out.below B.out).cell k hlt
   injection e1 with e1 _ _
   injection e2 with e2 _ _
   subst e1 e2
   generalize ts[k] = t at q1 q2
   have x0 : wr.cell? ⟨d, o + k * 5, none⟩ = _ := q1 0 _ rfl
   have x1 := q1 1 _ rfl
   have x2 := q1 2 _ rfl
   have x3 := q1 3 _ rfl
   have x4 := q1 4 _ rfl
   have y0 : wr.cell? ⟨d', o' + k * 5, none⟩ = _ := q2 0 _ rfl
   have y1 := q2 1 _ rfl
   have y2 := q2 2 _ rfl
   have y3 := q2 3 _ rfl
   have y4 := q2 4 _ rfl
   clear q1 q2
   have hi : (k : Int) < (ts.length : Int) := by omega
   go_upto_region 6 with (fail)
   go_quiet (fail)
   go_wp2
   go_round
   case rel => exact ⟨k + 1, by omega, by go_num, B.out.trans ((Drew.of _ _).below _)⟩
   case measure => simp [intOf]; omega
  ·obtain rfl : k = ts.length := by omega
   go_wp2
   go_ret
   exact ⟨rfl, B.out⟩

def sameB (a b : Tok) : Bool := a.kind == b.kind && (ByteArray.toList ⟨a.text.toArray⟩ == ByteArray.toList ⟨b.text.toArray⟩ && ByteArray.toList ⟨a.value.toArray⟩ == ByteArray.toList ⟨b.value.toArray⟩)
theorem sameB_iff (a b : Tok) : sameB a b = true ↔ SameT a b := by
 unfold sameB SameT
 rw [Bool.and_eq_true, Bool.and_eq_true, beq_iff_eq, beq_iff_eq, beq_iff_eq, ByteArray.toList_eq, ByteArray.toList_eq, ByteArray.toList_eq, ByteArray.toList_eq]

set_option maxRecDepth 100000 in
set_option maxHeartbeats 4000000 in
theorem ksame_raw (k1 k2 l1 l2 c1 c2 : Int) (T1 T2 X1 X2 : ByteArray) (w : World) :
  Calls Tryz.prog 30 #[.agg #[.int .i64 k1, .string T1, .string X1, .int .i64 l1, .int .i64 c1], .agg #[.int .i64 k2, .string T2, .string X2, .int .i64 l2, .int .i64 c2]] w fun e w' => e = .returned (.bool (k1 == k2 && (T1.toList == T2.toList && X1.toList == X2.toList))) ∧ Below w.heap.size w w' := by
 have k0 := Blk.fresh w #[.int .i64 k1, .string T1, .string X1, .int .i64 l1, .int .i64 c1] 38
 have b0 := (Below.refl w.heap.size w).alloc (Nat.le_refl _) (.cells #[.int .i64 k1, .string T1, .string X1, .int .i64 l1, .int .i64 c1] 38)
 have hz : (w.alloc (.cells #[.int .i64 k1, .string T1, .string X1, .int .i64 l1, .int .i64 c1] 38)).heap.size = w.heap.size + 1 := by simp
 have kk := Blk.fresh (w.alloc (.cells #[.int .i64 k1, .string T1, .string X1, .int .i64 l1, .int .i64 c1] 38)) #[.int .i64 k2, .string T2, .string X2, .int .i64 l2, .int .i64 c2] 38
 rw [hz] at kk
 replace k0 := k0.alloc (.cells #[.int .i64 k2, .string T2, .string X2, .int .i64 l2, .int .i64 c2] 38)
 have b1 := b0.alloc b0.size (.cells #[.int .i64 k2, .string T2, .string X2, .int .i64 l2, .int .i64 c2] 38)
 have K0 := Lib.hid k0
 have K1 := Lib.hid kk
 have BB := Lib.hid b1
 clear k0 b0 hz kk b1
 go_enter Tryz.func30, Tryz.ntmps30
 go_upto_region 1 with (fail)
 generalize ((w.alloc (Obj.cells #[.int .i64 k1, .string T1, .string X1, .int .i64 l1, .int .i64 c1] 38)).alloc (Obj.cells #[.int .i64 k2, .string T2, .string X2, .int .i64 l2, .int .i64 c2] 38)) = W1 at *
 have x0 := K0.out.at_ 0 _ rfl
 have x1 := K0.out.at_ 1 _ rfl
 have x2 := K0.out.at_ 2 _ rfl
 have y0 := K1.out.at_ 0 _ rfl
 have y1 := K1.out.at_ 1 _ rfl
 have y2 := K1.out.at_ 2 _ rfl
 cases h1 : (k1 == k2) with
 | false =>
  go_wp2
  go_ret
  exact ⟨by rw [h1]; rfl, BB.out⟩
 | true =>
  cases h2 : (T1.toList == T2.toList) with
  | false =>
   go_wp2
   go_ret
   exact ⟨by rw [h1, h2]; rfl, BB.out⟩
  | true =>
   cases h3 : (X1.toList == X2.toList) with
   | false =>
    go_wp2
    go_ret
    exact ⟨by rw [h1, h2, h3]; rfl, BB.out⟩
   | true =>
    go_wp2
    go_ret
    exact ⟨by rw [h1, h2, h3]; rfl, BB.out⟩
theorem ksame_is (a b : Tok) (w : World) :
  Calls Tryz.prog 30 #[tokV a, tokV b] w fun e w' => e = .returned (.bool (sameB a b)) ∧ Below w.heap.size w w' :=
 ksame_raw a.kind b.kind a.line b.line a.col b.col ⟨a.text.toArray⟩ ⟨b.text.toArray⟩ ⟨a.value.toArray⟩ ⟨b.value.toArray⟩ w

set_option maxRecDepth 100000 in
set_option maxHeartbeats 4000000 in
theorem same_raw (k1 k2 l1 l2 c1 c2 : Int) (T1 T2 X1 X2 : ByteArray) (w : World) :
  Calls Tryz.prog 16 #[.agg #[.int .i64 k1, .string T1, .string X1, .int .i64 l1, .int .i64 c1], .agg #[.int .i64 k2, .string T2, .string X2, .int .i64 l2, .int .i64 c2]] w fun e w' => e = .returned (.bool (k1 == k2 && (T1.toList == T2.toList && X1.toList == X2.toList))) ∧ Below w.heap.size w w' := by
 have k0 := Blk.fresh w #[.int .i64 k1, .string T1, .string X1, .int .i64 l1, .int .i64 c1] 38
 have b0 := (Below.refl w.heap.size w).alloc (Nat.le_refl _) (.cells #[.int .i64 k1, .string T1, .string X1, .int .i64 l1, .int .i64 c1] 38)
 have hz : (w.alloc (.cells #[.int .i64 k1, .string T1, .string X1, .int .i64 l1, .int .i64 c1] 38)).heap.size = w.heap.size + 1 := by simp
 have kk := Blk.fresh (w.alloc (.cells #[.int .i64 k1, .string T1, .string X1, .int .i64 l1, .int .i64 c1] 38)) #[.int .i64 k2, .string T2, .string X2, .int .i64 l2, .int .i64 c2] 38
 rw [hz] at kk
 replace k0 := k0.alloc (.cells #[.int .i64 k2, .string T2, .string X2, .int .i64 l2, .int .i64 c2] 38)
 have b1 := b0.alloc b0.size (.cells #[.int .i64 k2, .string T2, .string X2, .int .i64 l2, .int .i64 c2] 38)
 have K0 := Lib.hid k0
 have K1 := Lib.hid kk
 have BB := Lib.hid b1
 clear k0 b0 hz kk b1
 go_enter Tryz.func16, Tryz.ntmps16
 go_upto_region 1 with (fail)
 generalize ((w.alloc (Obj.cells #[.int .i64 k1, .string T1, .string X1, .int .i64 l1, .int .i64 c1] 38)).alloc (Obj.cells #[.int .i64 k2, .string T2, .string X2, .int .i64 l2, .int .i64 c2] 38)) = W1 at *
 have x0 := K0.out.at_ 0 _ rfl
 have x1 := K0.out.at_ 1 _ rfl
 have x2 := K0.out.at_ 2 _ rfl
 have y0 := K1.out.at_ 0 _ rfl
 have y1 := K1.out.at_ 1 _ rfl
 have y2 := K1.out.at_ 2 _ rfl
 cases h1 : (k1 == k2) with
 | false =>
  go_wp2
  go_ret
  exact ⟨by rw [h1]; rfl, BB.out⟩
 | true =>
  cases h2 : (T1.toList == T2.toList) with
  | false =>
   go_wp2
   go_ret
   exact ⟨by rw [h1, h2]; rfl, BB.out⟩
  | true =>
   cases h3 : (X1.toList == X2.toList) with
   | false =>
    go_wp2
    go_ret
    exact ⟨by rw [h1, h2, h3]; rfl, BB.out⟩
   | true =>
    go_wp2
    go_ret
    exact ⟨by rw [h1, h2, h3]; rfl, BB.out⟩
theorem same_is (a b : Tok) (w : World) :
  Calls Tryz.prog 16 #[tokV a, tokV b] w fun e w' => e = .returned (.bool (sameB a b)) ∧ Below w.heap.size w w' :=
 same_raw a.kind b.kind a.line b.line a.col b.col ⟨a.text.toArray⟩ ⟨b.text.toArray⟩ ⟨a.value.toArray⟩ ⟨b.value.toArray⟩ w

end Go.Proofs.YtfhmgkicccfghaaGreatDoor
