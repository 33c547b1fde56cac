/- The walks of lineation on texts: vectors, checks, signs, bearings. -/
import Derived.Test.YtnallacamijkeaaGreatDoorShelf
import Derived.Test.YtnallacamijkeaaGreatDoorBox
import Derived.Deep.RegionHeld3
import Derived.Laws.ResultCell
import Derived.Deep.Cut
import Derived.Deep.CutRange
import Derived.Deep.DeepCutAuto
import Derived.BigQuiet
import Derived.Deep.QuietTactic
import Derived.LoopTactic
/- The walks of lineation's checks, signs and bearings, over texts. -/
namespace Go.Proofs.YtnallacamijkeaaGreatDoor
set_option linter.all false
open Go.RowKit

def err2 (a b : Int) : Int := if a = 0 then b else a

set_option maxRecDepth 100000 in
set_option maxHeartbeats 4000000 in
theorem vnumbers_of (X Y Z : ByteArray) (kx ky kz : Int) (w : World)
  (m1 : ∀ W, Below w.heap.size w W → Calls Tryz.prog 54 #[.string X] W fun e w' => e = .returned (.int .i64 kx) ∧ Below W.heap.size W w')
  (m2 : ∀ W, Below w.heap.size w W → Calls Tryz.prog 54 #[.string Y] W fun e w' => e = .returned (.int .i64 ky) ∧ Below W.heap.size W w')
  (m3 : ∀ W, Below w.heap.size w W → Calls Tryz.prog 54 #[.string Z] W fun e w' => e = .returned (.int .i64 kz) ∧ Below W.heap.size W w') :
  Calls Tryz.prog 84 #[.slice (some ⟨w.heap.size, 0, none⟩) 3 3] (w.alloc (.cells #[.string X, .string Y, .string Z] 27)) fun e w' => e = .returned (.int .i64 (err2 kx (err2 ky kz))) ∧ Below w.heap.size w w' := by
 have k0 := Blk.fresh w #[.string X, .string Y, .string Z] 27
 have b0 := below_new w (Obj.cells #[.string X, .string Y, .string Z] 27)
 generalize w.alloc (Obj.cells #[.string X, .string Y, .string Z] 27) = W0 at *
 have M1 := Lib.hid m1
 have M2 := Lib.hid m2
 have M3 := Lib.hid m3
 have K0 := Lib.hid k0
 have B0 := Lib.hid b0
 generalize hbk : w.heap.size = bk at *
 clear m1 m2 m3 k0 b0
 clear hbk
 go_enter Tryz.func84, Tryz.ntmps84
 go_wp2
 go_loopw [4, 5, 8] (fun _ _ i wr => (i = .int .i64 0 ∨ (i = .int .i64 1 ∧ kx = 0) ∨ (i = .int .i64 2 ∧ kx = 0 ∧ ky = 0) ∨ (i = .int .i64 3 ∧ kx = 0 ∧ ky = 0 ∧ kz = 0)) ∧ Below bk w wr ∧ Blk wr bk #[.string X, .string Y, .string Z] 27) (fun _ _ i _ => 3 - (intOf i).toNat)
 case atStart => exact ⟨.inl rfl, B0.out, K0.out⟩
 case round =>
  obtain ⟨hcase, hb1, hk1⟩ := hrel
  have B := Lib.hid hb1
  have K := Lib.hid hk1
  have hlt : bk < wr.heap.size := hk1.lt
  have c0 := hk1.at_ 0 _ rfl
  have c1 := hk1.at_ 1 _ rfl
  have c2 := hk1.at_ 2 _ rfl
  clear hb1 hk1
  rcases hcase with rfl | ⟨rfl, h1⟩ | ⟨rfl, h1, h2⟩ | ⟨rfl, h1, h2, h3⟩
  ·by_cases hz : kx = 0
   ·have t : (kx != 0) = false := by rw [hz]; rfl
    have HZ := Lib.hid hz
    clear hz
    go_wp2_with (first
     | (go_at_call 54; (with_reducible refine (M1.out _ B.out).mono ?_); rintro e wx ⟨rfl, q⟩; have B3 := Lib.hid q; clear q)
     | fail "arm")
    go_roundw
    case rel => exact ⟨.inr (.inl ⟨rfl, HZ.out⟩), B.out.trans (B3.out.mono (Nat.le_of_lt hlt)), K.out.below B3.out⟩
    case measure => simp [intOf]
   ·have t : (kx != 0) = true := by rw [bne_iff_ne]; exact hz
    have HE := Lib.hid (show err2 kx (err2 ky kz) = kx by unfold err2; rw [if_neg hz])
    clear hz
    go_wp2_with (first
     | (go_at_call 54; (with_reducible refine (M1.out _ B.out).mono ?_); rintro e wx ⟨rfl, q⟩; have B3 := Lib.hid q; clear q)
     | fail "arm")
    go_ret
    rw [HE.out]
    exact ⟨rfl, B.out.trans (B3.out.mono (Nat.le_of_lt hlt))⟩
  ·have H1 := Lib.hid h1
   clear h1
   by_cases hz : ky = 0
   ·have t : (ky != 0) = false := by rw [hz]; rfl
    have HZ := Lib.hid hz
    clear hz
    go_wp2_with (first
     | (go_at_call 54; (with_reducible refine (M2.out _ B.out).mono ?_); rintro e wx ⟨rfl, q⟩; have B3 := Lib.hid q; clear q)
     | fail "arm")
    go_roundw
    case rel => exact ⟨.inr (.inr (.inl ⟨rfl, H1.out, HZ.out⟩)), B.out.trans (B3.out.mono (Nat.le_of_lt hlt)), K.out.below B3.out⟩
    case measure => simp [intOf]
   ·have t : (ky != 0) = true := by rw [bne_iff_ne]; exact hz
    have HE := Lib.hid (show err2 kx (err2 ky kz) = ky by unfold err2; rw [if_pos H1.out, if_neg hz])
    clear hz
    go_wp2_with (first
     | (go_at_call 54; (with_reducible refine (M2.out _ B.out).mono ?_); rintro e wx ⟨rfl, q⟩; have B3 := Lib.hid q; clear q)
     | fail "arm")
    go_ret
    rw [HE.out]
    exact ⟨rfl, B.out.trans (B3.out.mono (Nat.le_of_lt hlt))⟩
  ·have H1 := Lib.hid h1
   have H2 := Lib.hid h2
   clear h1 h2
   by_cases hz : kz = 0
   ·have t : (kz != 0) = false := by rw [hz]; rfl
    have HZ := Lib.hid hz
    clear hz
    go_wp2_with (first
     | (go_at_call 54; (with_reducible refine (M3.out _ B.out).mono ?_); rintro e wx ⟨rfl, q⟩; have B3 := Lib.hid q; clear q)
     | fail "arm")
    go_roundw
    case rel => exact ⟨.inr (.inr (.inr ⟨rfl, H1.out, H2.out, HZ.out⟩)), B.out.trans (B3.out.mono (Nat.le_of_lt hlt)), K.out.below B3.out⟩
    case measure => simp [intOf]
   ·have t : (kz != 0) = true := by rw [bne_iff_ne]; exact hz
    have HE := Lib.hid (show err2 kx (err2 ky kz) = kz by unfold err2; rw [if_pos H1.out, if_pos H2.out])
    clear hz
    go_wp2_with (first
     | (go_at_call 54; (with_reducible refine (M3.out _ B.out).mono ?_); rintro e wx ⟨rfl, q⟩; have B3 := Lib.hid q; clear q)
     | fail "arm")
    go_ret
    rw [HE.out]
    exact ⟨rfl, B.out.trans (B3.out.mono (Nat.le_of_lt hlt))⟩
  ·have HE := Lib.hid (show err2 kx (err2 ky kz) = 0 by unfold err2; rw [if_pos h1, if_pos h2]; exact h3)
   clear h1 h2 h3
   go_wp2
   go_ret
   rw [HE.out]
   exact ⟨rfl, B.out⟩

set_option maxRecDepth 100000 in
set_option maxHeartbeats 2000000 in
theorem vcheck_of (X Y Z : ByteArray) (k : Int) (w : World)
  (s1 : ∀ W, Below w.heap.size w W → Calls Tryz.prog 84 #[.slice (some ⟨W.heap.size, 0, none⟩) 3 3] (W.alloc (.cells #[.string X, .string Y, .string Z] 27)) fun e w' => e = .returned (.int .i64 k) ∧ Below W.heap.size W w') :
  Calls Tryz.prog 53 #[.agg #[.string X, .string Y, .string Z]] w fun e w' => e = .returned (.int .i64 k) ∧ Below w.heap.size w w' := by
 have S1 := Lib.hid s1
 clear s1
 have k0 := Blk.fresh w #[.string X, .string Y, .string Z] 29
 have b0 : Below w.heap.size w (w.alloc (Obj.cells #[.string X, .string Y, .string Z] 29)) := ((Below.refl _ _).alloc (Nat.le_refl _) _)
 have K0 := Lib.hid k0
 have B := Lib.hid b0
 clear b0 k0
 go_enter Tryz.func53, Tryz.ntmps53
 go_upto_region 1 with (fail)
 generalize (w.alloc (Obj.cells #[.string X, .string Y, .string Z] 29)) = W0 at *
 have c00 := K0.out.at_ 0 _ rfl
 have c01 := K0.out.at_ 1 _ rfl
 have c02 := K0.out.at_ 2 _ rfl
 go_wp2_with (first
  | (go_at_call 84; (with_reducible refine (S1.out _ (Near.base (by first | exact Near.same _ | exact Near.one _) B.out)).mono ?_); rintro e wx ⟨rfl, q⟩; replace K0 := Lib.hid (K0.out.near (by first | exact Near.same _ | exact Near.one _) q); replace B := Lib.hid (Near.go (by first | exact Near.same _ | exact Near.one _) B.out q B.out.size); clear q; replace c00 := K0.out.at_ 0 _ rfl; replace c01 := K0.out.at_ 1 _ rfl; replace c02 := K0.out.at_ 2 _ rfl)
  | fail "arm")
 go_ret
 exact ⟨rfl, B.out⟩

end Go.Proofs.YtnallacamijkeaaGreatDoor
