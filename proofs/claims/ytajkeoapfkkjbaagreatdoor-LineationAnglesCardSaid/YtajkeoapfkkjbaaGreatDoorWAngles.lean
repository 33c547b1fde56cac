/- The walk of LineationAngles, over texts and ints. -/
import Derived.Test.YtajkeoapfkkjbaaGreatDoorShelf
import Derived.Test.YtajkeoapfkkjbaaGreatDoorPar
import Derived.Deep.RegionHeld3
import Derived.Laws.ResultCell
import Derived.Deep.Cut
import Derived.Deep.CutRange
import Derived.Deep.DeepCutAuto
import Derived.Outline
namespace Go.Proofs.YtajkeoapfkkjbaaGreatDoor
set_option linter.all false
open Go.RowKit

set_option maxRecDepth 100000 in
set_option maxHeartbeats 4000000 in
theorem angles_z1 (x1 y1 z1 b1 x2 y2 z2 b2 x3 y3 z3 b3 x4 y4 z4 b4 p1 p2 p3 : Int) (w : World)
    (kn : ∀ W, Below w.heap.size w W → Calls Tryz.prog 12 #[] W fun e w' => e = .returned (.bool true) ∧ Below W.heap.size W w')
    (i1 : ∀ W, Below w.heap.size w W → Calls Tryz.prog 14 #[.agg #[.int .i8 x1, .int .i8 y1, .int .i8 z1, .int .u8 b1]] W fun e w' => e = .returned (.agg #[.int .i64 p1, .int .i64 p2, .int .i64 p3]) ∧ Below W.heap.size W w')
    (s1 : ∀ W, Below w.heap.size w W → Calls Tryz.prog 13 #[.agg #[.int .i64 p1, .int .i64 p2, .int .i64 p3]] W fun e w' => e = .returned (.bool true) ∧ Below W.heap.size W w') :
    Calls Tryz.prog 6 #[.agg #[.int .i8 x1, .int .i8 y1, .int .i8 z1, .int .u8 b1], .agg #[.int .i8 x2, .int .i8 y2, .int .i8 z2, .int .u8 b2], .agg #[.int .i8 x3, .int .i8 y3, .int .i8 z3, .int .u8 b3, .int .i8 x4, .int .i8 y4, .int .i8 z4, .int .u8 b4]] w fun e w' => e = .returned (.bool true) ∧ Below w.heap.size w w' := by
  have KN := Lib.hid kn
  have I1 := Lib.hid i1
  have S1 := Lib.hid s1
  clear kn i1 s1
  have k0 := Blk.fresh w #[.int .i8 x1, .int .i8 y1, .int .i8 z1, .int .u8 b1] 24
  replace k0 := k0.alloc (Obj.cells #[.int .i8 x2, .int .i8 y2, .int .i8 z2, .int .u8 b2] 24)
  replace k0 := k0.alloc (Obj.cells #[.int .i8 x3, .int .i8 y3, .int .i8 z3, .int .u8 b3, .int .i8 x4, .int .i8 y4, .int .i8 z4, .int .u8 b4] 50)
  have k1 := Blk.fresh (w.alloc (Obj.cells #[.int .i8 x1, .int .i8 y1, .int .i8 z1, .int .u8 b1] 24)) #[.int .i8 x2, .int .i8 y2, .int .i8 z2, .int .u8 b2] 24
  rw [show (w.alloc (Obj.cells #[.int .i8 x1, .int .i8 y1, .int .i8 z1, .int .u8 b1] 24)).heap.size = w.heap.size + 1 from World.size_alloc ..] at k1
  replace k1 := k1.alloc (Obj.cells #[.int .i8 x3, .int .i8 y3, .int .i8 z3, .int .u8 b3, .int .i8 x4, .int .i8 y4, .int .i8 z4, .int .u8 b4] 50)
  have k2 := Blk.fresh ((w.alloc (Obj.cells #[.int .i8 x1, .int .i8 y1, .int .i8 z1, .int .u8 b1] 24)).alloc (Obj.cells #[.int .i8 x2, .int .i8 y2, .int .i8 z2, .int .u8 b2] 24)) #[.int .i8 x3, .int .i8 y3, .int .i8 z3, .int .u8 b3, .int .i8 x4, .int .i8 y4, .int .i8 z4, .int .u8 b4] 50
  rw [show ((w.alloc (Obj.cells #[.int .i8 x1, .int .i8 y1, .int .i8 z1, .int .u8 b1] 24)).alloc (Obj.cells #[.int .i8 x2, .int .i8 y2, .int .i8 z2, .int .u8 b2] 24)).heap.size = w.heap.size + 2 from by simp] at k2
  have jb0 : Below w.heap.size w (((w.alloc (Obj.cells #[.int .i8 x1, .int .i8 y1, .int .i8 z1, .int .u8 b1] 24)).alloc (Obj.cells #[.int .i8 x2, .int .i8 y2, .int .i8 z2, .int .u8 b2] 24)).alloc (Obj.cells #[.int .i8 x3, .int .i8 y3, .int .i8 z3, .int .u8 b3, .int .i8 x4, .int .i8 y4, .int .i8 z4, .int .u8 b4] 50)) := ((((Below.refl _ _).alloc (Nat.le_refl _) _).alloc (by simp; try omega) _).alloc (by simp; try omega) _)
  have K0 := Lib.hid k0
  have K1 := Lib.hid k1
  have K2 := Lib.hid k2
  have B := Lib.hid jb0
  clear jb0 k0 k1 k2
  go_enter Tryz.func6, Tryz.ntmps6
  go_upto_region 1 with (fail)
  generalize (((w.alloc (Obj.cells #[.int .i8 x1, .int .i8 y1, .int .i8 z1, .int .u8 b1] 24)).alloc (Obj.cells #[.int .i8 x2, .int .i8 y2, .int .i8 z2, .int .u8 b2] 24)).alloc (Obj.cells #[.int .i8 x3, .int .i8 y3, .int .i8 z3, .int .u8 b3, .int .i8 x4, .int .i8 y4, .int .i8 z4, .int .u8 b4] 50)) = W0 at *
  have c0_0 := K0.out.at_ 0 _ rfl
  have c0_1 := K0.out.at_ 1 _ rfl
  have c0_2 := K0.out.at_ 2 _ rfl
  have c0_3 := K0.out.at_ 3 _ rfl
  have c1_0 := K1.out.at_ 0 _ rfl
  have c1_1 := K1.out.at_ 1 _ rfl
  have c1_2 := K1.out.at_ 2 _ rfl
  have c1_3 := K1.out.at_ 3 _ rfl
  have c2_0 := K2.out.at_ 0 _ rfl
  have c2_1 := K2.out.at_ 1 _ rfl
  have c2_2 := K2.out.at_ 2 _ rfl
  have c2_3 := K2.out.at_ 3 _ rfl
  have c2_4 := K2.out.at_ 4 _ rfl
  have c2_5 := K2.out.at_ 5 _ rfl
  have c2_6 := K2.out.at_ 6 _ rfl
  have c2_7 := K2.out.at_ 7 _ rfl
  go_wp2_with (
   (first
    | (go_at_call 12; with_reducible refine (KN.out _ (baseI B.out)).mono ?_)
    | (go_at_call 14; with_reducible refine (I1.out _ (baseI B.out)).mono ?_)
    | (go_at_call 13; with_reducible refine (S1.out _ (baseI B.out)).mono ?_)
    | fail "arm"); rintro e wx ⟨rfl, q⟩; replace K0 := Lib.hid (K0.out.nearI q); replace K1 := Lib.hid (K1.out.nearI q); replace K2 := Lib.hid (K2.out.nearI q); replace B := Lib.hid (goI B.out q); clear q; replace c0_0 := K0.out.at_ 0 _ rfl; replace c0_1 := K0.out.at_ 1 _ rfl; replace c0_2 := K0.out.at_ 2 _ rfl; replace c0_3 := K0.out.at_ 3 _ rfl; replace c1_0 := K1.out.at_ 0 _ rfl; replace c1_1 := K1.out.at_ 1 _ rfl; replace c1_2 := K1.out.at_ 2 _ rfl; replace c1_3 := K1.out.at_ 3 _ rfl; replace c2_0 := K2.out.at_ 0 _ rfl; replace c2_1 := K2.out.at_ 1 _ rfl; replace c2_2 := K2.out.at_ 2 _ rfl; replace c2_3 := K2.out.at_ 3 _ rfl; replace c2_4 := K2.out.at_ 4 _ rfl; replace c2_5 := K2.out.at_ 5 _ rfl; replace c2_6 := K2.out.at_ 6 _ rfl; replace c2_7 := K2.out.at_ 7 _ rfl)
  go_ret
  exact ⟨rfl, B.out⟩

set_option maxRecDepth 100000 in
set_option maxHeartbeats 4000000 in
theorem angles_z2 (x1 y1 z1 b1 x2 y2 z2 b2 x3 y3 z3 b3 x4 y4 z4 b4 p1 p2 p3 q1 q2 q3 : Int) (w : World)
    (kn : ∀ W, Below w.heap.size w W → Calls Tryz.prog 12 #[] W fun e w' => e = .returned (.bool true) ∧ Below W.heap.size W w')
    (i1 : ∀ W, Below w.heap.size w W → Calls Tryz.prog 14 #[.agg #[.int .i8 x1, .int .i8 y1, .int .i8 z1, .int .u8 b1]] W fun e w' => e = .returned (.agg #[.int .i64 p1, .int .i64 p2, .int .i64 p3]) ∧ Below W.heap.size W w')
    (s1 : ∀ W, Below w.heap.size w W → Calls Tryz.prog 13 #[.agg #[.int .i64 p1, .int .i64 p2, .int .i64 p3]] W fun e w' => e = .returned (.bool false) ∧ Below W.heap.size W w')
    (i2 : ∀ W, Below w.heap.size w W → Calls Tryz.prog 14 #[.agg #[.int .i8 x2, .int .i8 y2, .int .i8 z2, .int .u8 b2]] W fun e w' => e = .returned (.agg #[.int .i64 q1, .int .i64 q2, .int .i64 q3]) ∧ Below W.heap.size W w')
    (s2 : ∀ W, Below w.heap.size w W → Calls Tryz.prog 13 #[.agg #[.int .i64 q1, .int .i64 q2, .int .i64 q3]] W fun e w' => e = .returned (.bool true) ∧ Below W.heap.size W w') :
    Calls Tryz.prog 6 #[.agg #[.int .i8 x1, .int .i8 y1, .int .i8 z1, .int .u8 b1], .agg #[.int .i8 x2, .int .i8 y2, .int .i8 z2, .int .u8 b2], .agg #[.int .i8 x3, .int .i8 y3, .int .i8 z3, .int .u8 b3, .int .i8 x4, .int .i8 y4, .int .i8 z4, .int .u8 b4]] w fun e w' => e = .returned (.bool true) ∧ Below w.heap.size w w' := by
  have KN := Lib.hid kn
  have I1 := Lib.hid i1
  have S1 := Lib.hid s1
  have I2 := Lib.hid i2
  have S2 := Lib.hid s2
  clear kn i1 s1 i2 s2
  have k0 := Blk.fresh w #[.int .i8 x1, .int .i8 y1, .int .i8 z1, .int .u8 b1] 24
  replace k0 := k0.alloc (Obj.cells #[.int .i8 x2, .int .i8 y2, .int .i8 z2, .int .u8 b2] 24)
  replace k0 := k0.alloc (Obj.cells #[.int .i8 x3, .int .i8 y3, .int .i8 z3, .int .u8 b3, .int .i8 x4, .int .i8 y4, .int .i8 z4, .int .u8 b4] 50)
  have k1 := Blk.fresh (w.alloc (Obj.cells #[.int .i8 x1, .int .i8 y1, .int .i8 z1, .int .u8 b1] 24)) #[.int .i8 x2, .int .i8 y2, .int .i8 z2, .int .u8 b2] 24
  rw [show (w.alloc (Obj.cells #[.int .i8 x1, .int .i8 y1, .int .i8 z1, .int .u8 b1] 24)).heap.size = w.heap.size + 1 from World.size_alloc ..] at k1
  replace k1 := k1.alloc (Obj.cells #[.int .i8 x3, .int .i8 y3, .int .i8 z3, .int .u8 b3, .int .i8 x4, .int .i8 y4, .int .i8 z4, .int .u8 b4] 50)
  have k2 := Blk.fresh ((w.alloc (Obj.cells #[.int .i8 x1, .int .i8 y1, .int .i8 z1, .int .u8 b1] 24)).alloc (Obj.cells #[.int .i8 x2, .int .i8 y2, .int .i8 z2, .int .u8 b2] 24)) #[.int .i8 x3, .int .i8 y3, .int .i8 z3, .int .u8 b3, .int .i8 x4, .int .i8 y4, .int .i8 z4, .int .u8 b4] 50
  rw [show ((w.alloc (Obj.cells #[.int .i8 x1, .int .i8 y1, .int .i8 z1, .int .u8 b1] 24)).alloc (Obj.cells #[.int .i8 x2, .int .i8 y2, .int .i8 z2, .int .u8 b2] 24)).heap.size = w.heap.size + 2 from by simp] at k2
  have jb0 : Below w.heap.size w (((w.alloc (Obj.cells #[.int .i8 x1, .int .i8 y1, .int .i8 z1, .int .u8 b1] 24)).alloc (Obj.cells #[.int .i8 x2, .int .i8 y2, .int .i8 z2, .int .u8 b2] 24)).alloc (Obj.cells #[.int .i8 x3, .int .i8 y3, .int .i8 z3, .int .u8 b3, .int .i8 x4, .int .i8 y4, .int .i8 z4, .int .u8 b4] 50)) := ((((Below.refl _ _).alloc (Nat.le_refl _) _).alloc (by simp; try omega) _).alloc (by simp; try omega) _)
  have K0 := Lib.hid k0
  have K1 := Lib.hid k1
  have K2 := Lib.hid k2
  have B := Lib.hid jb0
  clear jb0 k0 k1 k2
  go_enter Tryz.func6, Tryz.ntmps6
  go_upto_region 1 with (fail)
  generalize (((w.alloc (Obj.cells #[.int .i8 x1, .int .i8 y1, .int .i8 z1, .int .u8 b1] 24)).alloc (Obj.cells #[.int .i8 x2, .int .i8 y2, .int .i8 z2, .int .u8 b2] 24)).alloc (Obj.cells #[.int .i8 x3, .int .i8 y3, .int .i8 z3, .int .u8 b3, .int .i8 x4, .int .i8 y4, .int .i8 z4, .int .u8 b4] 50)) = W0 at *
  have c0_0 := K0.out.at_ 0 _ rfl
  have c0_1 := K0.out.at_ 1 _ rfl
  have c0_2 := K0.out.at_ 2 _ rfl
  have c0_3 := K0.out.at_ 3 _ rfl
  have c1_0 := K1.out.at_ 0 _ rfl
  have c1_1 := K1.out.at_ 1 _ rfl
  have c1_2 := K1.out.at_ 2 _ rfl
  have c1_3 := K1.out.at_ 3 _ rfl
  have c2_0 := K2.out.at_ 0 _ rfl
  have c2_1 := K2.out.at_ 1 _ rfl
  have c2_2 := K2.out.at_ 2 _ rfl
  have c2_3 := K2.out.at_ 3 _ rfl
  have c2_4 := K2.out.at_ 4 _ rfl
  have c2_5 := K2.out.at_ 5 _ rfl
  have c2_6 := K2.out.at_ 6 _ rfl
  have c2_7 := K2.out.at_ 7 _ rfl
  go_wp2_with (
   (first
    | (go_at_call 12; with_reducible refine (KN.out _ (baseI B.out)).mono ?_)
    | (go_at_call 14; with_reducible refine (I1.out _ (baseI B.out)).mono ?_)
    | (go_at_call 13; with_reducible refine (S1.out _ (baseI B.out)).mono ?_)
    | (go_at_call 14; with_reducible refine (I2.out _ (baseI B.out)).mono ?_)
    | (go_at_call 13; with_reducible refine (S2.out _ (baseI B.out)).mono ?_)
    | fail "arm"); rintro e wx ⟨rfl, q⟩; replace K0 := Lib.hid (K0.out.nearI q); replace K1 := Lib.hid (K1.out.nearI q); replace K2 := Lib.hid (K2.out.nearI q); replace B := Lib.hid (goI B.out q); clear q; replace c0_0 := K0.out.at_ 0 _ rfl; replace c0_1 := K0.out.at_ 1 _ rfl; replace c0_2 := K0.out.at_ 2 _ rfl; replace c0_3 := K0.out.at_ 3 _ rfl; replace c1_0 := K1.out.at_ 0 _ rfl; replace c1_1 := K1.out.at_ 1 _ rfl; replace c1_2 := K1.out.at_ 2 _ rfl; replace c1_3 := K1.out.at_ 3 _ rfl; replace c2_0 := K2.out.at_ 0 _ rfl; replace c2_1 := K2.out.at_ 1 _ rfl; replace c2_2 := K2.out.at_ 2 _ rfl; replace c2_3 := K2.out.at_ 3 _ rfl; replace c2_4 := K2.out.at_ 4 _ rfl; replace c2_5 := K2.out.at_ 5 _ rfl; replace c2_6 := K2.out.at_ 6 _ rfl; replace c2_7 := K2.out.at_ 7 _ rfl)
  go_ret
  exact ⟨rfl, B.out⟩

set_option maxRecDepth 100000 in
set_option maxHeartbeats 4000000 in
theorem angles_z3 (x1 y1 z1 b1 x2 y2 z2 b2 x3 y3 z3 b3 x4 y4 z4 b4 p1 p2 p3 q1 q2 q3 r1 r2 r3 : Int) (w : World)
    (kn : ∀ W, Below w.heap.size w W → Calls Tryz.prog 12 #[] W fun e w' => e = .returned (.bool true) ∧ Below W.heap.size W w')
    (i1 : ∀ W, Below w.heap.size w W → Calls Tryz.prog 14 #[.agg #[.int .i8 x1, .int .i8 y1, .int .i8 z1, .int .u8 b1]] W fun e w' => e = .returned (.agg #[.int .i64 p1, .int .i64 p2, .int .i64 p3]) ∧ Below W.heap.size W w')
    (s1 : ∀ W, Below w.heap.size w W → Calls Tryz.prog 13 #[.agg #[.int .i64 p1, .int .i64 p2, .int .i64 p3]] W fun e w' => e = .returned (.bool false) ∧ Below W.heap.size W w')
    (i2 : ∀ W, Below w.heap.size w W → Calls Tryz.prog 14 #[.agg #[.int .i8 x2, .int .i8 y2, .int .i8 z2, .int .u8 b2]] W fun e w' => e = .returned (.agg #[.int .i64 q1, .int .i64 q2, .int .i64 q3]) ∧ Below W.heap.size W w')
    (s2 : ∀ W, Below w.heap.size w W → Calls Tryz.prog 13 #[.agg #[.int .i64 q1, .int .i64 q2, .int .i64 q3]] W fun e w' => e = .returned (.bool false) ∧ Below W.heap.size W w')
    (i3 : ∀ W, Below w.heap.size w W → Calls Tryz.prog 14 #[.agg #[.int .i8 x3, .int .i8 y3, .int .i8 z3, .int .u8 b3]] W fun e w' => e = .returned (.agg #[.int .i64 r1, .int .i64 r2, .int .i64 r3]) ∧ Below W.heap.size W w')
    (s3 : ∀ W, Below w.heap.size w W → Calls Tryz.prog 13 #[.agg #[.int .i64 r1, .int .i64 r2, .int .i64 r3]] W fun e w' => e = .returned (.bool true) ∧ Below W.heap.size W w') :
    Calls Tryz.prog 6 #[.agg #[.int .i8 x1, .int .i8 y1, .int .i8 z1, .int .u8 b1], .agg #[.int .i8 x2, .int .i8 y2, .int .i8 z2, .int .u8 b2], .agg #[.int .i8 x3, .int .i8 y3, .int .i8 z3, .int .u8 b3, .int .i8 x4, .int .i8 y4, .int .i8 z4, .int .u8 b4]] w fun e w' => e = .returned (.bool true) ∧ Below w.heap.size w w' := by
  have KN := Lib.hid kn
  have I1 := Lib.hid i1
  have S1 := Lib.hid s1
  have I2 := Lib.hid i2
  have S2 := Lib.hid s2
  have I3 := Lib.hid i3
  have S3 := Lib.hid s3
  clear kn i1 s1 i2 s2 i3 s3
  have k0 := Blk.fresh w #[.int .i8 x1, .int .i8 y1, .int .i8 z1, .int .u8 b1] 24
  replace k0 := k0.alloc (Obj.cells #[.int .i8 x2, .int .i8 y2, .int .i8 z2, .int .u8 b2] 24)
  replace k0 := k0.alloc (Obj.cells #[.int .i8 x3, .int .i8 y3, .int .i8 z3, .int .u8 b3, .int .i8 x4, .int .i8 y4, .int .i8 z4, .int .u8 b4] 50)
  have k1 := Blk.fresh (w.alloc (Obj.cells #[.int .i8 x1, .int .i8 y1, .int .i8 z1, .int .u8 b1] 24)) #[.int .i8 x2, .int .i8 y2, .int .i8 z2, .int .u8 b2] 24
  rw [show (w.alloc (Obj.cells #[.int .i8 x1, .int .i8 y1, .int .i8 z1, .int .u8 b1] 24)).heap.size = w.heap.size + 1 from World.size_alloc ..] at k1
  replace k1 := k1.alloc (Obj.cells #[.int .i8 x3, .int .i8 y3, .int .i8 z3, .int .u8 b3, .int .i8 x4, .int .i8 y4, .int .i8 z4, .int .u8 b4] 50)
  have k2 := Blk.fresh ((w.alloc (Obj.cells #[.int .i8 x1, .int .i8 y1, .int .i8 z1, .int .u8 b1] 24)).alloc (Obj.cells #[.int .i8 x2, .int .i8 y2, .int .i8 z2, .int .u8 b2] 24)) #[.int .i8 x3, .int .i8 y3, .int .i8 z3, .int .u8 b3, .int .i8 x4, .int .i8 y4, .int .i8 z4, .int .u8 b4] 50
  rw [show ((w.alloc (Obj.cells #[.int .i8 x1, .int .i8 y1, .int .i8 z1, .int .u8 b1] 24)).alloc (Obj.cells #[.int .i8 x2, .int .i8 y2, .int .i8 z2, .int .u8 b2] 24)).heap.size = w.heap.size + 2 from by simp] at k2
  have jb0 : Below w.heap.size w (((w.alloc (Obj.cells #[.int .i8 x1, .int .i8 y1, .int .i8 z1, .int .u8 b1] 24)).alloc (Obj.cells #[.int .i8 x2, .int .i8 y2, .int .i8 z2, .int .u8 b2] 24)).alloc (Obj.cells #[.int .i8 x3, .int .i8 y3, .int .i8 z3, .int .u8 b3, .int .i8 x4, .int .i8 y4, .int .i8 z4, .int .u8 b4] 50)) := ((((Below.refl _ _).alloc (Nat.le_refl _) _).alloc (by simp; try omega) _).alloc (by simp; try omega) _)
  have K0 := Lib.hid k0
  have K1 := Lib.hid k1
  have K2 := Lib.hid k2
  have B := Lib.hid jb0
  clear jb0 k0 k1 k2
  go_enter Tryz.func6, Tryz.ntmps6
  go_upto_region 1 with (fail)
  generalize (((w.alloc (Obj.cells #[.int .i8 x1, .int .i8 y1, .int .i8 z1, .int .u8 b1] 24)).alloc (Obj.cells #[.int .i8 x2, .int .i8 y2, .int .i8 z2, .int .u8 b2] 24)).alloc (Obj.cells #[.int .i8 x3, .int .i8 y3, .int .i8 z3, .int .u8 b3, .int .i8 x4, .int .i8 y4, .int .i8 z4, .int .u8 b4] 50)) = W0 at *
  have c0_0 := K0.out.at_ 0 _ rfl
  have c0_1 := K0.out.at_ 1 _ rfl
  have c0_2 := K0.out.at_ 2 _ rfl
  have c0_3 := K0.out.at_ 3 _ rfl
  have c1_0 := K1.out.at_ 0 _ rfl
  have c1_1 := K1.out.at_ 1 _ rfl
  have c1_2 := K1.out.at_ 2 _ rfl
  have c1_3 := K1.out.at_ 3 _ rfl
  have c2_0 := K2.out.at_ 0 _ rfl
  have c2_1 := K2.out.at_ 1 _ rfl
  have c2_2 := K2.out.at_ 2 _ rfl
  have c2_3 := K2.out.at_ 3 _ rfl
  have c2_4 := K2.out.at_ 4 _ rfl
  have c2_5 := K2.out.at_ 5 _ rfl
  have c2_6 := K2.out.at_ 6 _ rfl
  have c2_7 := K2.out.at_ 7 _ rfl
  go_wp2_with (
   (first
    | (go_at_call 12; with_reducible refine (KN.out _ (baseI B.out)).mono ?_)
    | (go_at_call 14; with_reducible refine (I1.out _ (baseI B.out)).mono ?_)
    | (go_at_call 13; with_reducible refine (S1.out _ (baseI B.out)).mono ?_)
    | (go_at_call 14; with_reducible refine (I2.out _ (baseI B.out)).mono ?_)
    | (go_at_call 13; with_reducible refine (S2.out _ (baseI B.out)).mono ?_)
    | (go_at_call 14; with_reducible refine (I3.out _ (baseI B.out)).mono ?_)
    | (go_at_call 13; with_reducible refine (S3.out _ (baseI B.out)).mono ?_)
    | fail "arm"); rintro e wx ⟨rfl, q⟩; replace K0 := Lib.hid (K0.out.nearI q); replace K1 := Lib.hid (K1.out.nearI q); replace K2 := Lib.hid (K2.out.nearI q); replace B := Lib.hid (goI B.out q); clear q; replace c0_0 := K0.out.at_ 0 _ rfl; replace c0_1 := K0.out.at_ 1 _ rfl; replace c0_2 := K0.out.at_ 2 _ rfl; replace c0_3 := K0.out.at_ 3 _ rfl; replace c1_0 := K1.out.at_ 0 _ rfl; replace c1_1 := K1.out.at_ 1 _ rfl; replace c1_2 := K1.out.at_ 2 _ rfl; replace c1_3 := K1.out.at_ 3 _ rfl; replace c2_0 := K2.out.at_ 0 _ rfl; replace c2_1 := K2.out.at_ 1 _ rfl; replace c2_2 := K2.out.at_ 2 _ rfl; replace c2_3 := K2.out.at_ 3 _ rfl; replace c2_4 := K2.out.at_ 4 _ rfl; replace c2_5 := K2.out.at_ 5 _ rfl; replace c2_6 := K2.out.at_ 6 _ rfl; replace c2_7 := K2.out.at_ 7 _ rfl)
  go_ret
  exact ⟨rfl, B.out⟩

set_option maxRecDepth 100000 in
set_option maxHeartbeats 4000000 in
theorem angles_z4 (x1 y1 z1 b1 x2 y2 z2 b2 x3 y3 z3 b3 x4 y4 z4 b4 p1 p2 p3 q1 q2 q3 r1 r2 r3 l1 l2 l3 : Int) (w : World)
    (kn : ∀ W, Below w.heap.size w W → Calls Tryz.prog 12 #[] W fun e w' => e = .returned (.bool true) ∧ Below W.heap.size W w')
    (i1 : ∀ W, Below w.heap.size w W → Calls Tryz.prog 14 #[.agg #[.int .i8 x1, .int .i8 y1, .int .i8 z1, .int .u8 b1]] W fun e w' => e = .returned (.agg #[.int .i64 p1, .int .i64 p2, .int .i64 p3]) ∧ Below W.heap.size W w')
    (s1 : ∀ W, Below w.heap.size w W → Calls Tryz.prog 13 #[.agg #[.int .i64 p1, .int .i64 p2, .int .i64 p3]] W fun e w' => e = .returned (.bool false) ∧ Below W.heap.size W w')
    (i2 : ∀ W, Below w.heap.size w W → Calls Tryz.prog 14 #[.agg #[.int .i8 x2, .int .i8 y2, .int .i8 z2, .int .u8 b2]] W fun e w' => e = .returned (.agg #[.int .i64 q1, .int .i64 q2, .int .i64 q3]) ∧ Below W.heap.size W w')
    (s2 : ∀ W, Below w.heap.size w W → Calls Tryz.prog 13 #[.agg #[.int .i64 q1, .int .i64 q2, .int .i64 q3]] W fun e w' => e = .returned (.bool false) ∧ Below W.heap.size W w')
    (i3 : ∀ W, Below w.heap.size w W → Calls Tryz.prog 14 #[.agg #[.int .i8 x3, .int .i8 y3, .int .i8 z3, .int .u8 b3]] W fun e w' => e = .returned (.agg #[.int .i64 r1, .int .i64 r2, .int .i64 r3]) ∧ Below W.heap.size W w')
    (s3 : ∀ W, Below w.heap.size w W → Calls Tryz.prog 13 #[.agg #[.int .i64 r1, .int .i64 r2, .int .i64 r3]] W fun e w' => e = .returned (.bool false) ∧ Below W.heap.size W w')
    (i4 : ∀ W, Below w.heap.size w W → Calls Tryz.prog 14 #[.agg #[.int .i8 x4, .int .i8 y4, .int .i8 z4, .int .u8 b4]] W fun e w' => e = .returned (.agg #[.int .i64 l1, .int .i64 l2, .int .i64 l3]) ∧ Below W.heap.size W w')
    (s4 : ∀ W, Below w.heap.size w W → Calls Tryz.prog 13 #[.agg #[.int .i64 l1, .int .i64 l2, .int .i64 l3]] W fun e w' => e = .returned (.bool true) ∧ Below W.heap.size W w') :
    Calls Tryz.prog 6 #[.agg #[.int .i8 x1, .int .i8 y1, .int .i8 z1, .int .u8 b1], .agg #[.int .i8 x2, .int .i8 y2, .int .i8 z2, .int .u8 b2], .agg #[.int .i8 x3, .int .i8 y3, .int .i8 z3, .int .u8 b3, .int .i8 x4, .int .i8 y4, .int .i8 z4, .int .u8 b4]] w fun e w' => e = .returned (.bool true) ∧ Below w.heap.size w w' := by
  have KN := Lib.hid kn
  have I1 := Lib.hid i1
  have S1 := Lib.hid s1
  have I2 := Lib.hid i2
  have S2 := Lib.hid s2
  have I3 := Lib.hid i3
  have S3 := Lib.hid s3
  have I4 := Lib.hid i4
  have S4 := Lib.hid s4
  clear kn i1 s1 i2 s2 i3 s3 i4 s4
  have k0 := Blk.fresh w #[.int .i8 x1, .int .i8 y1, .int .i8 z1, .int .u8 b1] 24
  replace k0 := k0.alloc (Obj.cells #[.int .i8 x2, .int .i8 y2, .int .i8 z2, .int .u8 b2] 24)
  replace k0 := k0.alloc (Obj.cells #[.int .i8 x3, .int .i8 y3, .int .i8 z3, .int .u8 b3, .int .i8 x4, .int .i8 y4, .int .i8 z4, .int .u8 b4] 50)
  have k1 := Blk.fresh (w.alloc (Obj.cells #[.int .i8 x1, .int .i8 y1, .int .i8 z1, .int .u8 b1] 24)) #[.int .i8 x2, .int .i8 y2, .int .i8 z2, .int .u8 b2] 24
  rw [show (w.alloc (Obj.cells #[.int .i8 x1, .int .i8 y1, .int .i8 z1, .int .u8 b1] 24)).heap.size = w.heap.size + 1 from World.size_alloc ..] at k1
  replace k1 := k1.alloc (Obj.cells #[.int .i8 x3, .int .i8 y3, .int .i8 z3, .int .u8 b3, .int .i8 x4, .int .i8 y4, .int .i8 z4, .int .u8 b4] 50)
  have k2 := Blk.fresh ((w.alloc (Obj.cells #[.int .i8 x1, .int .i8 y1, .int .i8 z1, .int .u8 b1] 24)).alloc (Obj.cells #[.int .i8 x2, .int .i8 y2, .int .i8 z2, .int .u8 b2] 24)) #[.int .i8 x3, .int .i8 y3, .int .i8 z3, .int .u8 b3, .int .i8 x4, .int .i8 y4, .int .i8 z4, .int .u8 b4] 50
  rw [show ((w.alloc (Obj.cells #[.int .i8 x1, .int .i8 y1, .int .i8 z1, .int .u8 b1] 24)).alloc (Obj.cells #[.int .i8 x2, .int .i8 y2, .int .i8 z2, .int .u8 b2] 24)).heap.size = w.heap.size + 2 from by simp] at k2
  have jb0 : Below w.heap.size w (((w.alloc (Obj.cells #[.int .i8 x1, .int .i8 y1, .int .i8 z1, .int .u8 b1] 24)).alloc (Obj.cells #[.int .i8 x2, .int .i8 y2, .int .i8 z2, .int .u8 b2] 24)).alloc (Obj.cells #[.int .i8 x3, .int .i8 y3, .int .i8 z3, .int .u8 b3, .int .i8 x4, .int .i8 y4, .int .i8 z4, .int .u8 b4] 50)) := ((((Below.refl _ _).alloc (Nat.le_refl _) _).alloc (by simp; try omega) _).alloc (by simp; try omega) _)
  have K0 := Lib.hid k0
  have K1 := Lib.hid k1
  have K2 := Lib.hid k2
  have B := Lib.hid jb0
  clear jb0 k0 k1 k2
  go_enter Tryz.func6, Tryz.ntmps6
  go_upto_region 1 with (fail)
  generalize (((w.alloc (Obj.cells #[.int .i8 x1, .int .i8 y1, .int .i8 z1, .int .u8 b1] 24)).alloc (Obj.cells #[.int .i8 x2, .int .i8 y2, .int .i8 z2, .int .u8 b2] 24)).alloc (Obj.cells #[.int .i8 x3, .int .i8 y3, .int .i8 z3, .int .u8 b3, .int .i8 x4, .int .i8 y4, .int .i8 z4, .int .u8 b4] 50)) = W0 at *
  have c0_0 := K0.out.at_ 0 _ rfl
  have c0_1 := K0.out.at_ 1 _ rfl
  have c0_2 := K0.out.at_ 2 _ rfl
  have c0_3 := K0.out.at_ 3 _ rfl
  have c1_0 := K1.out.at_ 0 _ rfl
  have c1_1 := K1.out.at_ 1 _ rfl
  have c1_2 := K1.out.at_ 2 _ rfl
  have c1_3 := K1.out.at_ 3 _ rfl
  have c2_0 := K2.out.at_ 0 _ rfl
  have c2_1 := K2.out.at_ 1 _ rfl
  have c2_2 := K2.out.at_ 2 _ rfl
  have c2_3 := K2.out.at_ 3 _ rfl
  have c2_4 := K2.out.at_ 4 _ rfl
  have c2_5 := K2.out.at_ 5 _ rfl
  have c2_6 := K2.out.at_ 6 _ rfl
  have c2_7 := K2.out.at_ 7 _ rfl
  go_wp2_with (
   (first
    | (go_at_call 12; with_reducible refine (KN.out _ (baseI B.out)).mono ?_)
    | (go_at_call 14; with_reducible refine (I1.out _ (baseI B.out)).mono ?_)
    | (go_at_call 13; with_reducible refine (S1.out _ (baseI B.out)).mono ?_)
    | (go_at_call 14; with_reducible refine (I2.out _ (baseI B.out)).mono ?_)
    | (go_at_call 13; with_reducible refine (S2.out _ (baseI B.out)).mono ?_)
    | (go_at_call 14; with_reducible refine (I3.out _ (baseI B.out)).mono ?_)
    | (go_at_call 13; with_reducible refine (S3.out _ (baseI B.out)).mono ?_)
    | (go_at_call 14; with_reducible refine (I4.out _ (baseI B.out)).mono ?_)
    | (go_at_call 13; with_reducible refine (S4.out _ (baseI B.out)).mono ?_)
    | fail "arm"); rintro e wx ⟨rfl, q⟩; replace K0 := Lib.hid (K0.out.nearI q); replace K1 := Lib.hid (K1.out.nearI q); replace K2 := Lib.hid (K2.out.nearI q); replace B := Lib.hid (goI B.out q); clear q; replace c0_0 := K0.out.at_ 0 _ rfl; replace c0_1 := K0.out.at_ 1 _ rfl; replace c0_2 := K0.out.at_ 2 _ rfl; replace c0_3 := K0.out.at_ 3 _ rfl; replace c1_0 := K1.out.at_ 0 _ rfl; replace c1_1 := K1.out.at_ 1 _ rfl; replace c1_2 := K1.out.at_ 2 _ rfl; replace c1_3 := K1.out.at_ 3 _ rfl; replace c2_0 := K2.out.at_ 0 _ rfl; replace c2_1 := K2.out.at_ 1 _ rfl; replace c2_2 := K2.out.at_ 2 _ rfl; replace c2_3 := K2.out.at_ 3 _ rfl; replace c2_4 := K2.out.at_ 4 _ rfl; replace c2_5 := K2.out.at_ 5 _ rfl; replace c2_6 := K2.out.at_ 6 _ rfl; replace c2_7 := K2.out.at_ 7 _ rfl)
  go_ret
  exact ⟨rfl, B.out⟩

set_option maxRecDepth 100000 in
set_option maxHeartbeats 20000000 in
theorem angles_ok (x1 y1 z1 b1 x2 y2 z2 b2 x3 y3 z3 b3 x4 y4 z4 b4 p1 p2 p3 q1 q2 q3 r1 r2 r3 l1 l2 l3 n d ee ff : Int) (A1 A2 A3 C1 C2 C3 D1 D2 D3 F1 F2 F3 R T : ByteArray) (w : World)
    (k0 : IntKind.i64.wrap (d * d) = d * d)
    (k1 : IntKind.i64.wrap (ee * ff) = ee * ff)
    (kn : ∀ W, Below w.heap.size w W → Calls Tryz.prog 12 #[] W fun e w' => e = .returned (.bool true) ∧ Below W.heap.size W w')
    (i1 : ∀ W, Below w.heap.size w W → Calls Tryz.prog 14 #[.agg #[.int .i8 x1, .int .i8 y1, .int .i8 z1, .int .u8 b1]] W fun e w' => e = .returned (.agg #[.int .i64 p1, .int .i64 p2, .int .i64 p3]) ∧ Below W.heap.size W w')
    (s1 : ∀ W, Below w.heap.size w W → Calls Tryz.prog 13 #[.agg #[.int .i64 p1, .int .i64 p2, .int .i64 p3]] W fun e w' => e = .returned (.bool false) ∧ Below W.heap.size W w')
    (i2 : ∀ W, Below w.heap.size w W → Calls Tryz.prog 14 #[.agg #[.int .i8 x2, .int .i8 y2, .int .i8 z2, .int .u8 b2]] W fun e w' => e = .returned (.agg #[.int .i64 q1, .int .i64 q2, .int .i64 q3]) ∧ Below W.heap.size W w')
    (s2 : ∀ W, Below w.heap.size w W → Calls Tryz.prog 13 #[.agg #[.int .i64 q1, .int .i64 q2, .int .i64 q3]] W fun e w' => e = .returned (.bool false) ∧ Below W.heap.size W w')
    (i3 : ∀ W, Below w.heap.size w W → Calls Tryz.prog 14 #[.agg #[.int .i8 x3, .int .i8 y3, .int .i8 z3, .int .u8 b3]] W fun e w' => e = .returned (.agg #[.int .i64 r1, .int .i64 r2, .int .i64 r3]) ∧ Below W.heap.size W w')
    (s3 : ∀ W, Below w.heap.size w W → Calls Tryz.prog 13 #[.agg #[.int .i64 r1, .int .i64 r2, .int .i64 r3]] W fun e w' => e = .returned (.bool false) ∧ Below W.heap.size W w')
    (i4 : ∀ W, Below w.heap.size w W → Calls Tryz.prog 14 #[.agg #[.int .i8 x4, .int .i8 y4, .int .i8 z4, .int .u8 b4]] W fun e w' => e = .returned (.agg #[.int .i64 l1, .int .i64 l2, .int .i64 l3]) ∧ Below W.heap.size W w')
    (s4 : ∀ W, Below w.heap.size w W → Calls Tryz.prog 13 #[.agg #[.int .i64 l1, .int .i64 l2, .int .i64 l3]] W fun e w' => e = .returned (.bool false) ∧ Below W.heap.size W w')
    (m1 : ∀ W, Below w.heap.size w W → Calls Tryz.prog 16 #[.agg #[.int .i8 x1, .int .i8 y1, .int .i8 z1, .int .u8 b1]] W fun e w' => e = .returned (.agg #[.string A1, .string A2, .string A3]) ∧ Below W.heap.size W w')
    (m2 : ∀ W, Below w.heap.size w W → Calls Tryz.prog 16 #[.agg #[.int .i8 x2, .int .i8 y2, .int .i8 z2, .int .u8 b2]] W fun e w' => e = .returned (.agg #[.string C1, .string C2, .string C3]) ∧ Below W.heap.size W w')
    (m3 : ∀ W, Below w.heap.size w W → Calls Tryz.prog 16 #[.agg #[.int .i8 x3, .int .i8 y3, .int .i8 z3, .int .u8 b3]] W fun e w' => e = .returned (.agg #[.string D1, .string D2, .string D3]) ∧ Below W.heap.size W w')
    (m4 : ∀ W, Below w.heap.size w W → Calls Tryz.prog 16 #[.agg #[.int .i8 x4, .int .i8 y4, .int .i8 z4, .int .u8 b4]] W fun e w' => e = .returned (.agg #[.string F1, .string F2, .string F3]) ∧ Below W.heap.size W w')
    (o1 : ∀ W, Below w.heap.size w W → Calls Tryz.prog 27 #[.agg #[.string A1, .string A2, .string A3], .agg #[.string C1, .string C2, .string C3]] W fun e w' => e = .returned (.tuple #[.string R, .int .i64 0]) ∧ Below W.heap.size W w')
    (o2 : ∀ W, Below w.heap.size w W → Calls Tryz.prog 27 #[.agg #[.string D1, .string D2, .string D3], .agg #[.string F1, .string F2, .string F3]] W fun e w' => e = .returned (.tuple #[.string T, .int .i64 0]) ∧ Below W.heap.size W w')
    (o3 : ∀ W, Below w.heap.size w W → Calls Tryz.prog 28 #[.agg #[.string A1, .string A2, .string A3, .string C1, .string C2, .string C3], .agg #[.string D1, .string D2, .string D3, .string F1, .string F2, .string F3]] W fun e w' => e = .returned (.tuple #[.int .i64 n, .int .i64 0]) ∧ Below W.heap.size W w')
    (t1 : ∀ W, Below w.heap.size w W → Calls Tryz.prog 17 #[.agg #[.int .i64 p1, .int .i64 p2, .int .i64 p3], .agg #[.int .i64 q1, .int .i64 q2, .int .i64 q3]] W fun e w' => e = .returned (.int .i64 d) ∧ Below W.heap.size W w')
    (t2 : ∀ W, Below w.heap.size w W → Calls Tryz.prog 17 #[.agg #[.int .i64 p1, .int .i64 p2, .int .i64 p3], .agg #[.int .i64 p1, .int .i64 p2, .int .i64 p3]] W fun e w' => e = .returned (.int .i64 ee) ∧ Below W.heap.size W w')
    (t3 : ∀ W, Below w.heap.size w W → Calls Tryz.prog 17 #[.agg #[.int .i64 q1, .int .i64 q2, .int .i64 q3], .agg #[.int .i64 q1, .int .i64 q2, .int .i64 q3]] W fun e w' => e = .returned (.int .i64 ff) ∧ Below W.heap.size W w')
    (qu : ∀ W, Below w.heap.size w W → Calls Tryz.prog 26 #[.int .i64 (d * d), .int .i64 (ee * ff)] W fun e w' => e = .returned (.string R) ∧ Below W.heap.size W w')
    (cm : ∀ W, Below w.heap.size w W → Calls Tryz.prog 29 #[.string T, .string R] W fun e w' => e = .returned (.int .i64 n) ∧ Below W.heap.size W w') :
    Calls Tryz.prog 6 #[.agg #[.int .i8 x1, .int .i8 y1, .int .i8 z1, .int .u8 b1], .agg #[.int .i8 x2, .int .i8 y2, .int .i8 z2, .int .u8 b2], .agg #[.int .i8 x3, .int .i8 y3, .int .i8 z3, .int .u8 b3, .int .i8 x4, .int .i8 y4, .int .i8 z4, .int .u8 b4]] w fun e w' => e = .returned (.bool true) ∧ Below w.heap.size w w' := by
  have KN := Lib.hid kn
  have I1 := Lib.hid i1
  have S1 := Lib.hid s1
  have I2 := Lib.hid i2
  have S2 := Lib.hid s2
  have I3 := Lib.hid i3
  have S3 := Lib.hid s3
  have I4 := Lib.hid i4
  have S4 := Lib.hid s4
  have M1 := Lib.hid m1
  have M2 := Lib.hid m2
  have M3 := Lib.hid m3
  have M4 := Lib.hid m4
  have O1 := Lib.hid o1
  have O2 := Lib.hid o2
  have O3 := Lib.hid o3
  have T1 := Lib.hid t1
  have T2 := Lib.hid t2
  have T3 := Lib.hid t3
  have QU := Lib.hid qu
  have CM := Lib.hid cm
  clear kn i1 s1 i2 s2 i3 s3 i4 s4 m1 m2 m3 m4 o1 o2 o3 t1 t2 t3 qu cm
  have k0 := Blk.fresh w #[.int .i8 x1, .int .i8 y1, .int .i8 z1, .int .u8 b1] 24
  replace k0 := k0.alloc (Obj.cells #[.int .i8 x2, .int .i8 y2, .int .i8 z2, .int .u8 b2] 24)
  replace k0 := k0.alloc (Obj.cells #[.int .i8 x3, .int .i8 y3, .int .i8 z3, .int .u8 b3, .int .i8 x4, .int .i8 y4, .int .i8 z4, .int .u8 b4] 50)
  have k1 := Blk.fresh (w.alloc (Obj.cells #[.int .i8 x1, .int .i8 y1, .int .i8 z1, .int .u8 b1] 24)) #[.int .i8 x2, .int .i8 y2, .int .i8 z2, .int .u8 b2] 24
  rw [show (w.alloc (Obj.cells #[.int .i8 x1, .int .i8 y1, .int .i8 z1, .int .u8 b1] 24)).heap.size = w.heap.size + 1 from World.size_alloc ..] at k1
  replace k1 := k1.alloc (Obj.cells #[.int .i8 x3, .int .i8 y3, .int .i8 z3, .int .u8 b3, .int .i8 x4, .int .i8 y4, .int .i8 z4, .int .u8 b4] 50)
  have k2 := Blk.fresh ((w.alloc (Obj.cells #[.int .i8 x1, .int .i8 y1, .int .i8 z1, .int .u8 b1] 24)).alloc (Obj.cells #[.int .i8 x2, .int .i8 y2, .int .i8 z2, .int .u8 b2] 24)) #[.int .i8 x3, .int .i8 y3, .int .i8 z3, .int .u8 b3, .int .i8 x4, .int .i8 y4, .int .i8 z4, .int .u8 b4] 50
  rw [show ((w.alloc (Obj.cells #[.int .i8 x1, .int .i8 y1, .int .i8 z1, .int .u8 b1] 24)).alloc (Obj.cells #[.int .i8 x2, .int .i8 y2, .int .i8 z2, .int .u8 b2] 24)).heap.size = w.heap.size + 2 from by simp] at k2
  have jb0 : Below w.heap.size w (((w.alloc (Obj.cells #[.int .i8 x1, .int .i8 y1, .int .i8 z1, .int .u8 b1] 24)).alloc (Obj.cells #[.int .i8 x2, .int .i8 y2, .int .i8 z2, .int .u8 b2] 24)).alloc (Obj.cells #[.int .i8 x3, .int .i8 y3, .int .i8 z3, .int .u8 b3, .int .i8 x4, .int .i8 y4, .int .i8 z4, .int .u8 b4] 50)) := ((((Below.refl _ _).alloc (Nat.le_refl _) _).alloc (by simp; try omega) _).alloc (by simp; try omega) _)
  have K0 := Lib.hid k0
  have K1 := Lib.hid k1
  have K2 := Lib.hid k2
  have B := Lib.hid jb0
  clear jb0 k0 k1 k2
  go_enter Tryz.func6, Tryz.ntmps6
  go_upto_region 1 with (fail)
  generalize (((w.alloc (Obj.cells #[.int .i8 x1, .int .i8 y1, .int .i8 z1, .int .u8 b1] 24)).alloc (Obj.cells #[.int .i8 x2, .int .i8 y2, .int .i8 z2, .int .u8 b2] 24)).alloc (Obj.cells #[.int .i8 x3, .int .i8 y3, .int .i8 z3, .int .u8 b3, .int .i8 x4, .int .i8 y4, .int .i8 z4, .int .u8 b4] 50)) = W0 at *
  have c0_0 := K0.out.at_ 0 _ rfl
  have c0_1 := K0.out.at_ 1 _ rfl
  have c0_2 := K0.out.at_ 2 _ rfl
  have c0_3 := K0.out.at_ 3 _ rfl
  have c1_0 := K1.out.at_ 0 _ rfl
  have c1_1 := K1.out.at_ 1 _ rfl
  have c1_2 := K1.out.at_ 2 _ rfl
  have c1_3 := K1.out.at_ 3 _ rfl
  have c2_0 := K2.out.at_ 0 _ rfl
  have c2_1 := K2.out.at_ 1 _ rfl
  have c2_2 := K2.out.at_ 2 _ rfl
  have c2_3 := K2.out.at_ 3 _ rfl
  have c2_4 := K2.out.at_ 4 _ rfl
  have c2_5 := K2.out.at_ 5 _ rfl
  have c2_6 := K2.out.at_ 6 _ rfl
  have c2_7 := K2.out.at_ 7 _ rfl
  go_upto_region 3 with (
   (first
    | (go_at_call 12; with_reducible refine (KN.out _ (baseI B.out)).mono ?_)
    | (go_at_call 14; with_reducible refine (I1.out _ (baseI B.out)).mono ?_)
    | (go_at_call 13; with_reducible refine (S1.out _ (baseI B.out)).mono ?_)
    | (go_at_call 14; with_reducible refine (I2.out _ (baseI B.out)).mono ?_)
    | (go_at_call 13; with_reducible refine (S2.out _ (baseI B.out)).mono ?_)
    | (go_at_call 14; with_reducible refine (I3.out _ (baseI B.out)).mono ?_)
    | (go_at_call 13; with_reducible refine (S3.out _ (baseI B.out)).mono ?_)
    | (go_at_call 14; with_reducible refine (I4.out _ (baseI B.out)).mono ?_)
    | (go_at_call 13; with_reducible refine (S4.out _ (baseI B.out)).mono ?_)
    | fail "arm"); rintro e wx ⟨rfl, q⟩; replace K0 := Lib.hid (K0.out.nearI q); replace K1 := Lib.hid (K1.out.nearI q); replace K2 := Lib.hid (K2.out.nearI q); replace B := Lib.hid (goI B.out q); clear q; replace c0_0 := K0.out.at_ 0 _ rfl; replace c0_1 := K0.out.at_ 1 _ rfl; replace c0_2 := K0.out.at_ 2 _ rfl; replace c0_3 := K0.out.at_ 3 _ rfl; replace c1_0 := K1.out.at_ 0 _ rfl; replace c1_1 := K1.out.at_ 1 _ rfl; replace c1_2 := K1.out.at_ 2 _ rfl; replace c1_3 := K1.out.at_ 3 _ rfl; replace c2_0 := K2.out.at_ 0 _ rfl; replace c2_1 := K2.out.at_ 1 _ rfl; replace c2_2 := K2.out.at_ 2 _ rfl; replace c2_3 := K2.out.at_ 3 _ rfl; replace c2_4 := K2.out.at_ 4 _ rfl; replace c2_5 := K2.out.at_ 5 _ rfl; replace c2_6 := K2.out.at_ 6 _ rfl; replace c2_7 := K2.out.at_ 7 _ rfl)
  clear c0_0 c0_1 c0_2 c0_3 c1_0 c1_1 c1_2 c1_3 c2_0 c2_1 c2_2 c2_3 c2_4 c2_5 c2_6 c2_7
  refine wp_region_par (by kernel_rfl) [41, 42, 43, 44, 45, 40, 46, 47, 7, 8] (fun L σ W => Vals [some 41, some 42, some 43, some 44, some 45, some 40, some 46, some 47, some 7, some 8] [(.agg #[.int .i8 x1, .int .i8 y1, .int .i8 z1, .int .u8 b1]), (.agg #[.string A1, .string A2, .string A3]), (.agg #[.int .i8 x2, .int .i8 y2, .int .i8 z2, .int .u8 b2]), (.agg #[.string C1, .string C2, .string C3]), (.tuple #[.string R, .int .i64 0]), (.tuple #[.string R, .int .i64 0]), (.string R), (.int .i64 0), (.string R), (.int .i64 0)] L σ ∧ Blk W (w.heap.size) #[.int .i8 x1, .int .i8 y1, .int .i8 z1, .int .u8 b1] 24 ∧ Blk W (w.heap.size + 1) #[.int .i8 x2, .int .i8 y2, .int .i8 z2, .int .u8 b2] 24 ∧ Blk W (w.heap.size + 2) #[.int .i8 x3, .int .i8 y3, .int .i8 z3, .int .u8 b3, .int .i8 x4, .int .i8 y4, .int .i8 z4, .int .u8 b4] 50 ∧ Below w.heap.size w W) (by kernel_rfl) (by kernel_rfl) (by kernel_rfl) ?_ ?_ ?_
  · exact fun σ => ⟨Vals.start, K0.out.below (Below.refl _ _).drew, K1.out.below (Below.refl _ _).drew, K2.out.below (Below.refl _ _).drew, B.out.drew⟩
  · refine ⟨?_, ?_, ?_, ?_, ?_, ?_, ?_, ?_, ?_, ?_, trivial⟩
    · rintro L a W ho ⟨V, jb0, jb1, jb2, bb⟩ hn hd K hK
      clear hd
      refine Wants.free rfl ?_
      have jr3 : a.tmps[(3 : Nat)]?.getD undef = .pointer (some ⟨w.heap.size, 0, none⟩) := ho.slot 3 rfl
      have jc0 := jb0.at_ 0 _ rfl
      have jc1 := jb0.at_ 1 _ rfl
      have jc2 := jb0.at_ 2 _ rfl
      have jc3 := jb0.at_ 3 _ rfl
      go_simp
      exact hK.out (.agg #[.int .i8 x1, .int .i8 y1, .int .i8 z1, .int .u8 b1]) _ ⟨V.set 0 _ _ rfl rfl rfl, jb0, jb1, jb2, bb⟩
    · rintro L a W ho ⟨V, jb0, jb1, jb2, bb⟩ hn hd K hK
      have jh0 := hd.get 0 rfl
      clear hd
      refine Wants.free rfl ?_
      have jr41 := V.read 0 rfl rfl jh0
      go_simp
      go_at_call 16
      with_reducible refine (M1.out _ bb).mono ?_
      rintro e wx ⟨rfl, q⟩
      go_simp
      exact hK.out (.agg #[.string A1, .string A2, .string A3]) _ ⟨V.set 1 _ _ rfl rfl rfl, jb0.below q, jb1.below q, jb2.below q, bb.trans (q.mono bb.size)⟩
    · rintro L a W ho ⟨V, jb0, jb1, jb2, bb⟩ hn hd K hK
      clear hd
      refine Wants.free rfl ?_
      have jr4 : a.tmps[(4 : Nat)]?.getD undef = .pointer (some ⟨w.heap.size + 1, 0, none⟩) := ho.slot 4 rfl
      have jc0 := jb1.at_ 0 _ rfl
      have jc1 := jb1.at_ 1 _ rfl
      have jc2 := jb1.at_ 2 _ rfl
      have jc3 := jb1.at_ 3 _ rfl
      go_simp
      exact hK.out (.agg #[.int .i8 x2, .int .i8 y2, .int .i8 z2, .int .u8 b2]) _ ⟨V.set 2 _ _ rfl rfl rfl, jb0, jb1, jb2, bb⟩
    · rintro L a W ho ⟨V, jb0, jb1, jb2, bb⟩ hn hd K hK
      have jh2 := hd.get 2 rfl
      clear hd
      refine Wants.free rfl ?_
      have jr43 := V.read 2 rfl rfl jh2
      go_simp
      go_at_call 16
      with_reducible refine (M2.out _ bb).mono ?_
      rintro e wx ⟨rfl, q⟩
      go_simp
      exact hK.out (.agg #[.string C1, .string C2, .string C3]) _ ⟨V.set 3 _ _ rfl rfl rfl, jb0.below q, jb1.below q, jb2.below q, bb.trans (q.mono bb.size)⟩
    · rintro L a W ho ⟨V, jb0, jb1, jb2, bb⟩ hn hd K hK
      have jh1 := hd.get 1 rfl
      have jh3 := hd.get 3 rfl
      clear hd
      refine Wants.free rfl ?_
      have jr42 := V.read 1 rfl rfl jh1
      have jr44 := V.read 3 rfl rfl jh3
      go_simp
      go_at_call 27
      with_reducible refine (O1.out _ bb).mono ?_
      rintro e wx ⟨rfl, q⟩
      go_simp
      exact hK.out (.tuple #[.string R, .int .i64 0]) _ ⟨V.set 4 _ _ rfl rfl rfl, jb0.below q, jb1.below q, jb2.below q, bb.trans (q.mono bb.size)⟩
    · rintro L a W ho ⟨V, jb0, jb1, jb2, bb⟩ hn hd K hK
      have jh4 := hd.get 4 rfl
      clear hd
      refine Wants.free rfl ?_
      have jr45 := V.read 4 rfl rfl jh4
      go_simp
      exact hK.out (.tuple #[.string R, .int .i64 0]) _ ⟨V.set 5 _ _ rfl rfl rfl, jb0, jb1, jb2, bb⟩
    · rintro L a W ho ⟨V, jb0, jb1, jb2, bb⟩ hn hd K hK
      have jh5 := hd.get 5 rfl
      clear hd
      refine Wants.free rfl ?_
      have jr40 := V.read 5 rfl rfl jh5
      go_simp
      exact hK.out (.string R) _ ⟨V.set 6 _ _ rfl rfl rfl, jb0, jb1, jb2, bb⟩
    · rintro L a W ho ⟨V, jb0, jb1, jb2, bb⟩ hn hd K hK
      have jh5 := hd.get 5 rfl
      clear hd
      refine Wants.free rfl ?_
      have jr40 := V.read 5 rfl rfl jh5
      go_simp
      exact hK.out (.int .i64 0) _ ⟨V.set 7 _ _ rfl rfl rfl, jb0, jb1, jb2, bb⟩
    · rintro L a W ho ⟨V, jb0, jb1, jb2, bb⟩ hn hd K hK
      have jh6 := hd.get 6 rfl
      clear hd
      refine Wants.free rfl ?_
      have jr46 := V.read 6 rfl rfl jh6
      go_simp
      exact hK.out (.string R) _ ⟨V.set 8 _ _ rfl rfl rfl, jb0, jb1, jb2, bb⟩
    · rintro L a W ho ⟨V, jb0, jb1, jb2, bb⟩ hn hd K hK
      have jh7 := hd.get 7 rfl
      clear hd
      refine Wants.free rfl ?_
      have jr47 := V.read 7 rfl rfl jh7
      go_simp
      exact hK.out (.int .i64 0) _ ⟨V.set 9 _ _ rfl rfl rfl, jb0, jb1, jb2, bb⟩
  rintro L σ W ⟨V, jb0, jb1, jb2, bb⟩ hL
  have jf0 := V 0 _ _ rfl rfl (hL 0 (by decide))
  have jf1 := V 1 _ _ rfl rfl (hL 1 (by decide))
  have jf2 := V 2 _ _ rfl rfl (hL 2 (by decide))
  have jf3 := V 3 _ _ rfl rfl (hL 3 (by decide))
  have jf4 := V 4 _ _ rfl rfl (hL 4 (by decide))
  have jf5 := V 5 _ _ rfl rfl (hL 5 (by decide))
  have jf6 := V 6 _ _ rfl rfl (hL 6 (by decide))
  have jf7 := V 7 _ _ rfl rfl (hL 7 (by decide))
  have jf8 := V 8 _ _ rfl rfl (hL 8 (by decide))
  have jf9 := V 9 _ _ rfl rfl (hL 9 (by decide))
  clear V
  clear hL
  rw [show List.map σ [41, 42, 43, 44, 45, 40, 46, 47, 7, 8] = [σ 41, σ 42, σ 43, σ 44, σ 45, σ 40, σ 46, σ 47, σ 7, σ 8] from rfl, jf0, jf1, jf2, jf3, jf4, jf5, jf6, jf7, jf8, jf9]
  clear jf0 jf1 jf2 jf3 jf4 jf5 jf6 jf7 jf8 jf9
  simp only [putAll, List.map, Act.put, List.setIfInBounds_toArray, List.set_cons_succ, List.set_cons_zero]
  replace K0 := Lib.hid jb0
  replace K1 := Lib.hid jb1
  replace K2 := Lib.hid jb2
  replace B := Lib.hid bb
  clear bb jb0 jb1 jb2
  have c0_0 := K0.out.at_ 0 _ rfl
  have c0_1 := K0.out.at_ 1 _ rfl
  have c0_2 := K0.out.at_ 2 _ rfl
  have c0_3 := K0.out.at_ 3 _ rfl
  have c1_0 := K1.out.at_ 0 _ rfl
  have c1_1 := K1.out.at_ 1 _ rfl
  have c1_2 := K1.out.at_ 2 _ rfl
  have c1_3 := K1.out.at_ 3 _ rfl
  have c2_0 := K2.out.at_ 0 _ rfl
  have c2_1 := K2.out.at_ 1 _ rfl
  have c2_2 := K2.out.at_ 2 _ rfl
  have c2_3 := K2.out.at_ 3 _ rfl
  have c2_4 := K2.out.at_ 4 _ rfl
  have c2_5 := K2.out.at_ 5 _ rfl
  have c2_6 := K2.out.at_ 6 _ rfl
  have c2_7 := K2.out.at_ 7 _ rfl
  go_upto_region 4 with (fail)
  clear c0_0 c0_1 c0_2 c0_3 c1_0 c1_1 c1_2 c1_3 c2_0 c2_1 c2_2 c2_3 c2_4 c2_5 c2_6 c2_7
  refine wp_region_par (by kernel_rfl) [49, 50, 51, 52, 53, 54, 55, 48, 56, 57, 9, 10] (fun L σ W => Vals [some 49, some 50, some 51, some 52, some 53, some 54, some 55, some 48, some 56, some 57, some 9, some 10] [(.pointer (some ⟨w.heap.size + 2, 0, none⟩)), (.agg #[.int .i8 x3, .int .i8 y3, .int .i8 z3, .int .u8 b3]), (.agg #[.string D1, .string D2, .string D3]), (.pointer (some ⟨w.heap.size + 2, 4, none⟩)), (.agg #[.int .i8 x4, .int .i8 y4, .int .i8 z4, .int .u8 b4]), (.agg #[.string F1, .string F2, .string F3]), (.tuple #[.string T, .int .i64 0]), (.tuple #[.string T, .int .i64 0]), (.string T), (.int .i64 0), (.string T), (.int .i64 0)] L σ ∧ Blk W (w.heap.size) #[.int .i8 x1, .int .i8 y1, .int .i8 z1, .int .u8 b1] 24 ∧ Blk W (w.heap.size + 1) #[.int .i8 x2, .int .i8 y2, .int .i8 z2, .int .u8 b2] 24 ∧ Blk W (w.heap.size + 2) #[.int .i8 x3, .int .i8 y3, .int .i8 z3, .int .u8 b3, .int .i8 x4, .int .i8 y4, .int .i8 z4, .int .u8 b4] 50 ∧ Below w.heap.size w W) (by kernel_rfl) (by kernel_rfl) (by kernel_rfl) ?_ ?_ ?_
  · exact fun σ => ⟨Vals.start, K0.out.below (Below.refl _ _).drew, K1.out.below (Below.refl _ _).drew, K2.out.below (Below.refl _ _).drew, B.out.drew⟩
  · refine ⟨?_, ?_, ?_, ?_, ?_, ?_, ?_, ?_, ?_, ?_, ?_, ?_, trivial⟩
    · rintro L a W ho ⟨V, jb0, jb1, jb2, bb⟩ hn hd K hK
      clear hd
      refine Wants.free rfl ?_
      have jr5 : a.tmps[(5 : Nat)]?.getD undef = .pointer (some ⟨w.heap.size + 2, 0, none⟩) := ho.slot 5 rfl
      go_simp
      exact hK.out (.pointer (some ⟨w.heap.size + 2, 0, none⟩)) _ ⟨V.set 0 _ _ rfl rfl rfl, jb0, jb1, jb2, bb⟩
    · rintro L a W ho ⟨V, jb0, jb1, jb2, bb⟩ hn hd K hK
      have jh0 := hd.get 0 rfl
      clear hd
      refine Wants.free rfl ?_
      have jr49 := V.read 0 rfl rfl jh0
      have jc0 := jb2.at_ 0 _ rfl
      have jc1 := jb2.at_ 1 _ rfl
      have jc2 := jb2.at_ 2 _ rfl
      have jc3 := jb2.at_ 3 _ rfl
      go_simp
      exact hK.out (.agg #[.int .i8 x3, .int .i8 y3, .int .i8 z3, .int .u8 b3]) _ ⟨V.set 1 _ _ rfl rfl rfl, jb0, jb1, jb2, bb⟩
    · rintro L a W ho ⟨V, jb0, jb1, jb2, bb⟩ hn hd K hK
      have jh1 := hd.get 1 rfl
      clear hd
      refine Wants.free rfl ?_
      have jr50 := V.read 1 rfl rfl jh1
      go_simp
      go_at_call 16
      with_reducible refine (M3.out _ bb).mono ?_
      rintro e wx ⟨rfl, q⟩
      go_simp
      exact hK.out (.agg #[.string D1, .string D2, .string D3]) _ ⟨V.set 2 _ _ rfl rfl rfl, jb0.below q, jb1.below q, jb2.below q, bb.trans (q.mono bb.size)⟩
    · rintro L a W ho ⟨V, jb0, jb1, jb2, bb⟩ hn hd K hK
      clear hd
      refine Wants.free rfl ?_
      have jr5 : a.tmps[(5 : Nat)]?.getD undef = .pointer (some ⟨w.heap.size + 2, 0, none⟩) := ho.slot 5 rfl
      go_simp
      exact hK.out (.pointer (some ⟨w.heap.size + 2, 4, none⟩)) _ ⟨V.set 3 _ _ rfl rfl rfl, jb0, jb1, jb2, bb⟩
    · rintro L a W ho ⟨V, jb0, jb1, jb2, bb⟩ hn hd K hK
      have jh3 := hd.get 3 rfl
      clear hd
      refine Wants.free rfl ?_
      have jr52 := V.read 3 rfl rfl jh3
      have jc4 := jb2.at_ 4 _ rfl
      have jc5 := jb2.at_ 5 _ rfl
      have jc6 := jb2.at_ 6 _ rfl
      have jc7 := jb2.at_ 7 _ rfl
      go_simp
      exact hK.out (.agg #[.int .i8 x4, .int .i8 y4, .int .i8 z4, .int .u8 b4]) _ ⟨V.set 4 _ _ rfl rfl rfl, jb0, jb1, jb2, bb⟩
    · rintro L a W ho ⟨V, jb0, jb1, jb2, bb⟩ hn hd K hK
      have jh4 := hd.get 4 rfl
      clear hd
      refine Wants.free rfl ?_
      have jr53 := V.read 4 rfl rfl jh4
      go_simp
      go_at_call 16
      with_reducible refine (M4.out _ bb).mono ?_
      rintro e wx ⟨rfl, q⟩
      go_simp
      exact hK.out (.agg #[.string F1, .string F2, .string F3]) _ ⟨V.set 5 _ _ rfl rfl rfl, jb0.below q, jb1.below q, jb2.below q, bb.trans (q.mono bb.size)⟩
    · rintro L a W ho ⟨V, jb0, jb1, jb2, bb⟩ hn hd K hK
      have jh2 := hd.get 2 rfl
      have jh5 := hd.get 5 rfl
      clear hd
      refine Wants.free rfl ?_
      have jr51 := V.read 2 rfl rfl jh2
      have jr54 := V.read 5 rfl rfl jh5
      go_simp
      go_at_call 27
      with_reducible refine (O2.out _ bb).mono ?_
      rintro e wx ⟨rfl, q⟩
      go_simp
      exact hK.out (.tuple #[.string T, .int .i64 0]) _ ⟨V.set 6 _ _ rfl rfl rfl, jb0.below q, jb1.below q, jb2.below q, bb.trans (q.mono bb.size)⟩
    · rintro L a W ho ⟨V, jb0, jb1, jb2, bb⟩ hn hd K hK
      have jh6 := hd.get 6 rfl
      clear hd
      refine Wants.free rfl ?_
      have jr55 := V.read 6 rfl rfl jh6
      go_simp
      exact hK.out (.tuple #[.string T, .int .i64 0]) _ ⟨V.set 7 _ _ rfl rfl rfl, jb0, jb1, jb2, bb⟩
    · rintro L a W ho ⟨V, jb0, jb1, jb2, bb⟩ hn hd K hK
      have jh7 := hd.get 7 rfl
      clear hd
      refine Wants.free rfl ?_
      have jr48 := V.read 7 rfl rfl jh7
      go_simp
      exact hK.out (.string T) _ ⟨V.set 8 _ _ rfl rfl rfl, jb0, jb1, jb2, bb⟩
    · rintro L a W ho ⟨V, jb0, jb1, jb2, bb⟩ hn hd K hK
      have jh7 := hd.get 7 rfl
      clear hd
      refine Wants.free rfl ?_
      have jr48 := V.read 7 rfl rfl jh7
      go_simp
      exact hK.out (.int .i64 0) _ ⟨V.set 9 _ _ rfl rfl rfl, jb0, jb1, jb2, bb⟩
    · rintro L a W ho ⟨V, jb0, jb1, jb2, bb⟩ hn hd K hK
      have jh8 := hd.get 8 rfl
      clear hd
      refine Wants.free rfl ?_
      have jr56 := V.read 8 rfl rfl jh8
      go_simp
      exact hK.out (.string T) _ ⟨V.set 10 _ _ rfl rfl rfl, jb0, jb1, jb2, bb⟩
    · rintro L a W ho ⟨V, jb0, jb1, jb2, bb⟩ hn hd K hK
      have jh9 := hd.get 9 rfl
      clear hd
      refine Wants.free rfl ?_
      have jr57 := V.read 9 rfl rfl jh9
      go_simp
      exact hK.out (.int .i64 0) _ ⟨V.set 11 _ _ rfl rfl rfl, jb0, jb1, jb2, bb⟩
  rintro L σ W ⟨V, jb0, jb1, jb2, bb⟩ hL
  have jf0 := V 0 _ _ rfl rfl (hL 0 (by decide))
  have jf1 := V 1 _ _ rfl rfl (hL 1 (by decide))
  have jf2 := V 2 _ _ rfl rfl (hL 2 (by decide))
  have jf3 := V 3 _ _ rfl rfl (hL 3 (by decide))
  have jf4 := V 4 _ _ rfl rfl (hL 4 (by decide))
  have jf5 := V 5 _ _ rfl rfl (hL 5 (by decide))
  have jf6 := V 6 _ _ rfl rfl (hL 6 (by decide))
  have jf7 := V 7 _ _ rfl rfl (hL 7 (by decide))
  have jf8 := V 8 _ _ rfl rfl (hL 8 (by decide))
  have jf9 := V 9 _ _ rfl rfl (hL 9 (by decide))
  have jf10 := V 10 _ _ rfl rfl (hL 10 (by decide))
  have jf11 := V 11 _ _ rfl rfl (hL 11 (by decide))
  clear V
  clear hL
  rw [show List.map σ [49, 50, 51, 52, 53, 54, 55, 48, 56, 57, 9, 10] = [σ 49, σ 50, σ 51, σ 52, σ 53, σ 54, σ 55, σ 48, σ 56, σ 57, σ 9, σ 10] from rfl, jf0, jf1, jf2, jf3, jf4, jf5, jf6, jf7, jf8, jf9, jf10, jf11]
  clear jf0 jf1 jf2 jf3 jf4 jf5 jf6 jf7 jf8 jf9 jf10 jf11
  simp only [putAll, List.map, Act.put, List.setIfInBounds_toArray, List.set_cons_succ, List.set_cons_zero]
  replace K0 := Lib.hid jb0
  replace K1 := Lib.hid jb1
  replace K2 := Lib.hid jb2
  replace B := Lib.hid bb
  clear bb jb0 jb1 jb2
  have c0_0 := K0.out.at_ 0 _ rfl
  have c0_1 := K0.out.at_ 1 _ rfl
  have c0_2 := K0.out.at_ 2 _ rfl
  have c0_3 := K0.out.at_ 3 _ rfl
  have c1_0 := K1.out.at_ 0 _ rfl
  have c1_1 := K1.out.at_ 1 _ rfl
  have c1_2 := K1.out.at_ 2 _ rfl
  have c1_3 := K1.out.at_ 3 _ rfl
  have c2_0 := K2.out.at_ 0 _ rfl
  have c2_1 := K2.out.at_ 1 _ rfl
  have c2_2 := K2.out.at_ 2 _ rfl
  have c2_3 := K2.out.at_ 3 _ rfl
  have c2_4 := K2.out.at_ 4 _ rfl
  have c2_5 := K2.out.at_ 5 _ rfl
  have c2_6 := K2.out.at_ 6 _ rfl
  have c2_7 := K2.out.at_ 7 _ rfl
  go_upto_region 5 with (fail)
  clear c0_0 c0_1 c0_2 c0_3 c1_0 c1_1 c1_2 c1_3 c2_0 c2_1 c2_2 c2_3 c2_4 c2_5 c2_6 c2_7
  refine wp_region_par (by kernel_rfl) [59, 60, 61, 62, 63, 64, 65, 66, 67, 68, 69, 70, 71, 58, 72, 73, 11, 12] (fun L σ W => Vals [some 59, some 60, some 61, some 62, some 63, some 64, some 65, some 66, some 67, some 68, some 69, some 70, some 71, some 58, some 72, some 73, some 11, some 12] [(.agg #[.int .i8 x1, .int .i8 y1, .int .i8 z1, .int .u8 b1]), (.agg #[.string A1, .string A2, .string A3]), (.agg #[.int .i8 x2, .int .i8 y2, .int .i8 z2, .int .u8 b2]), (.agg #[.string C1, .string C2, .string C3]), (.agg #[.string A1, .string A2, .string A3, .string C1, .string C2, .string C3]), (.pointer (some ⟨w.heap.size + 2, 0, none⟩)), (.agg #[.int .i8 x3, .int .i8 y3, .int .i8 z3, .int .u8 b3]), (.agg #[.string D1, .string D2, .string D3]), (.pointer (some ⟨w.heap.size + 2, 4, none⟩)), (.agg #[.int .i8 x4, .int .i8 y4, .int .i8 z4, .int .u8 b4]), (.agg #[.string F1, .string F2, .string F3]), (.agg #[.string D1, .string D2, .string D3, .string F1, .string F2, .string F3]), (.tuple #[.int .i64 n, .int .i64 0]), (.tuple #[.int .i64 n, .int .i64 0]), (.int .i64 n), (.int .i64 0), (.int .i64 n), (.int .i64 0)] L σ ∧ Blk W (w.heap.size) #[.int .i8 x1, .int .i8 y1, .int .i8 z1, .int .u8 b1] 24 ∧ Blk W (w.heap.size + 1) #[.int .i8 x2, .int .i8 y2, .int .i8 z2, .int .u8 b2] 24 ∧ Blk W (w.heap.size + 2) #[.int .i8 x3, .int .i8 y3, .int .i8 z3, .int .u8 b3, .int .i8 x4, .int .i8 y4, .int .i8 z4, .int .u8 b4] 50 ∧ Below w.heap.size w W) (by kernel_rfl) (by kernel_rfl) (by kernel_rfl) ?_ ?_ ?_
  · exact fun σ => ⟨Vals.start, K0.out.below (Below.refl _ _).drew, K1.out.below (Below.refl _ _).drew, K2.out.below (Below.refl _ _).drew, B.out.drew⟩
  · refine ⟨?_, ?_, ?_, ?_, ?_, ?_, ?_, ?_, ?_, ?_, ?_, ?_, ?_, ?_, ?_, ?_, ?_, ?_, trivial⟩
    · rintro L a W ho ⟨V, jb0, jb1, jb2, bb⟩ hn hd K hK
      clear hd
      refine Wants.free rfl ?_
      have jr3 : a.tmps[(3 : Nat)]?.getD undef = .pointer (some ⟨w.heap.size, 0, none⟩) := ho.slot 3 rfl
      have jc0 := jb0.at_ 0 _ rfl
      have jc1 := jb0.at_ 1 _ rfl
      have jc2 := jb0.at_ 2 _ rfl
      have jc3 := jb0.at_ 3 _ rfl
      go_simp
      exact hK.out (.agg #[.int .i8 x1, .int .i8 y1, .int .i8 z1, .int .u8 b1]) _ ⟨V.set 0 _ _ rfl rfl rfl, jb0, jb1, jb2, bb⟩
    · rintro L a W ho ⟨V, jb0, jb1, jb2, bb⟩ hn hd K hK
      have jh0 := hd.get 0 rfl
      clear hd
      refine Wants.free rfl ?_
      have jr59 := V.read 0 rfl rfl jh0
      go_simp
      go_at_call 16
      with_reducible refine (M1.out _ bb).mono ?_
      rintro e wx ⟨rfl, q⟩
      go_simp
      exact hK.out (.agg #[.string A1, .string A2, .string A3]) _ ⟨V.set 1 _ _ rfl rfl rfl, jb0.below q, jb1.below q, jb2.below q, bb.trans (q.mono bb.size)⟩
    · rintro L a W ho ⟨V, jb0, jb1, jb2, bb⟩ hn hd K hK
      clear hd
      refine Wants.free rfl ?_
      have jr4 : a.tmps[(4 : Nat)]?.getD undef = .pointer (some ⟨w.heap.size + 1, 0, none⟩) := ho.slot 4 rfl
      have jc0 := jb1.at_ 0 _ rfl
      have jc1 := jb1.at_ 1 _ rfl
      have jc2 := jb1.at_ 2 _ rfl
      have jc3 := jb1.at_ 3 _ rfl
      go_simp
      exact hK.out (.agg #[.int .i8 x2, .int .i8 y2, .int .i8 z2, .int .u8 b2]) _ ⟨V.set 2 _ _ rfl rfl rfl, jb0, jb1, jb2, bb⟩
    · rintro L a W ho ⟨V, jb0, jb1, jb2, bb⟩ hn hd K hK
      have jh2 := hd.get 2 rfl
      clear hd
      refine Wants.free rfl ?_
      have jr61 := V.read 2 rfl rfl jh2
      go_simp
      go_at_call 16
      with_reducible refine (M2.out _ bb).mono ?_
      rintro e wx ⟨rfl, q⟩
      go_simp
      exact hK.out (.agg #[.string C1, .string C2, .string C3]) _ ⟨V.set 3 _ _ rfl rfl rfl, jb0.below q, jb1.below q, jb2.below q, bb.trans (q.mono bb.size)⟩
    · rintro L a W ho ⟨V, jb0, jb1, jb2, bb⟩ hn hd K hK
      have jh1 := hd.get 1 rfl
      have jh3 := hd.get 3 rfl
      clear hd
      refine Wants.free rfl ?_
      have jr60 := V.read 1 rfl rfl jh1
      have jr62 := V.read 3 rfl rfl jh3
      go_simp
      exact hK.out (.agg #[.string A1, .string A2, .string A3, .string C1, .string C2, .string C3]) _ ⟨V.set 4 _ _ rfl rfl rfl, jb0, jb1, jb2, bb⟩
    · rintro L a W ho ⟨V, jb0, jb1, jb2, bb⟩ hn hd K hK
      clear hd
      refine Wants.free rfl ?_
      have jr5 : a.tmps[(5 : Nat)]?.getD undef = .pointer (some ⟨w.heap.size + 2, 0, none⟩) := ho.slot 5 rfl
      go_simp
      exact hK.out (.pointer (some ⟨w.heap.size + 2, 0, none⟩)) _ ⟨V.set 5 _ _ rfl rfl rfl, jb0, jb1, jb2, bb⟩
    · rintro L a W ho ⟨V, jb0, jb1, jb2, bb⟩ hn hd K hK
      have jh5 := hd.get 5 rfl
      clear hd
      refine Wants.free rfl ?_
      have jr64 := V.read 5 rfl rfl jh5
      have jc0 := jb2.at_ 0 _ rfl
      have jc1 := jb2.at_ 1 _ rfl
      have jc2 := jb2.at_ 2 _ rfl
      have jc3 := jb2.at_ 3 _ rfl
      go_simp
      exact hK.out (.agg #[.int .i8 x3, .int .i8 y3, .int .i8 z3, .int .u8 b3]) _ ⟨V.set 6 _ _ rfl rfl rfl, jb0, jb1, jb2, bb⟩
    · rintro L a W ho ⟨V, jb0, jb1, jb2, bb⟩ hn hd K hK
      have jh6 := hd.get 6 rfl
      clear hd
      refine Wants.free rfl ?_
      have jr65 := V.read 6 rfl rfl jh6
      go_simp
      go_at_call 16
      with_reducible refine (M3.out _ bb).mono ?_
      rintro e wx ⟨rfl, q⟩
      go_simp
      exact hK.out (.agg #[.string D1, .string D2, .string D3]) _ ⟨V.set 7 _ _ rfl rfl rfl, jb0.below q, jb1.below q, jb2.below q, bb.trans (q.mono bb.size)⟩
    · rintro L a W ho ⟨V, jb0, jb1, jb2, bb⟩ hn hd K hK
      clear hd
      refine Wants.free rfl ?_
      have jr5 : a.tmps[(5 : Nat)]?.getD undef = .pointer (some ⟨w.heap.size + 2, 0, none⟩) := ho.slot 5 rfl
      go_simp
      exact hK.out (.pointer (some ⟨w.heap.size + 2, 4, none⟩)) _ ⟨V.set 8 _ _ rfl rfl rfl, jb0, jb1, jb2, bb⟩
    · rintro L a W ho ⟨V, jb0, jb1, jb2, bb⟩ hn hd K hK
      have jh8 := hd.get 8 rfl
      clear hd
      refine Wants.free rfl ?_
      have jr67 := V.read 8 rfl rfl jh8
      have jc4 := jb2.at_ 4 _ rfl
      have jc5 := jb2.at_ 5 _ rfl
      have jc6 := jb2.at_ 6 _ rfl
      have jc7 := jb2.at_ 7 _ rfl
      go_simp
      exact hK.out (.agg #[.int .i8 x4, .int .i8 y4, .int .i8 z4, .int .u8 b4]) _ ⟨V.set 9 _ _ rfl rfl rfl, jb0, jb1, jb2, bb⟩
    · rintro L a W ho ⟨V, jb0, jb1, jb2, bb⟩ hn hd K hK
      have jh9 := hd.get 9 rfl
      clear hd
      refine Wants.free rfl ?_
      have jr68 := V.read 9 rfl rfl jh9
      go_simp
      go_at_call 16
      with_reducible refine (M4.out _ bb).mono ?_
      rintro e wx ⟨rfl, q⟩
      go_simp
      exact hK.out (.agg #[.string F1, .string F2, .string F3]) _ ⟨V.set 10 _ _ rfl rfl rfl, jb0.below q, jb1.below q, jb2.below q, bb.trans (q.mono bb.size)⟩
    · rintro L a W ho ⟨V, jb0, jb1, jb2, bb⟩ hn hd K hK
      have jh7 := hd.get 7 rfl
      have jh10 := hd.get 10 rfl
      clear hd
      refine Wants.free rfl ?_
      have jr66 := V.read 7 rfl rfl jh7
      have jr69 := V.read 10 rfl rfl jh10
      go_simp
      exact hK.out (.agg #[.string D1, .string D2, .string D3, .string F1, .string F2, .string F3]) _ ⟨V.set 11 _ _ rfl rfl rfl, jb0, jb1, jb2, bb⟩
    · rintro L a W ho ⟨V, jb0, jb1, jb2, bb⟩ hn hd K hK
      have jh4 := hd.get 4 rfl
      have jh11 := hd.get 11 rfl
      clear hd
      refine Wants.free rfl ?_
      have jr63 := V.read 4 rfl rfl jh4
      have jr70 := V.read 11 rfl rfl jh11
      go_simp
      go_at_call 28
      with_reducible refine (O3.out _ bb).mono ?_
      rintro e wx ⟨rfl, q⟩
      go_simp
      exact hK.out (.tuple #[.int .i64 n, .int .i64 0]) _ ⟨V.set 12 _ _ rfl rfl rfl, jb0.below q, jb1.below q, jb2.below q, bb.trans (q.mono bb.size)⟩
    · rintro L a W ho ⟨V, jb0, jb1, jb2, bb⟩ hn hd K hK
      have jh12 := hd.get 12 rfl
      clear hd
      refine Wants.free rfl ?_
      have jr71 := V.read 12 rfl rfl jh12
      go_simp
      exact hK.out (.tuple #[.int .i64 n, .int .i64 0]) _ ⟨V.set 13 _ _ rfl rfl rfl, jb0, jb1, jb2, bb⟩
    · rintro L a W ho ⟨V, jb0, jb1, jb2, bb⟩ hn hd K hK
      have jh13 := hd.get 13 rfl
      clear hd
      refine Wants.free rfl ?_
      have jr58 := V.read 13 rfl rfl jh13
      go_simp
      exact hK.out (.int .i64 n) _ ⟨V.set 14 _ _ rfl rfl rfl, jb0, jb1, jb2, bb⟩
    · rintro L a W ho ⟨V, jb0, jb1, jb2, bb⟩ hn hd K hK
      have jh13 := hd.get 13 rfl
      clear hd
      refine Wants.free rfl ?_
      have jr58 := V.read 13 rfl rfl jh13
      go_simp
      exact hK.out (.int .i64 0) _ ⟨V.set 15 _ _ rfl rfl rfl, jb0, jb1, jb2, bb⟩
    · rintro L a W ho ⟨V, jb0, jb1, jb2, bb⟩ hn hd K hK
      have jh14 := hd.get 14 rfl
      clear hd
      refine Wants.free rfl ?_
      have jr72 := V.read 14 rfl rfl jh14
      go_simp
      exact hK.out (.int .i64 n) _ ⟨V.set 16 _ _ rfl rfl rfl, jb0, jb1, jb2, bb⟩
    · rintro L a W ho ⟨V, jb0, jb1, jb2, bb⟩ hn hd K hK
      have jh15 := hd.get 15 rfl
      clear hd
      refine Wants.free rfl ?_
      have jr73 := V.read 15 rfl rfl jh15
      go_simp
      exact hK.out (.int .i64 0) _ ⟨V.set 17 _ _ rfl rfl rfl, jb0, jb1, jb2, bb⟩
  rintro L σ W ⟨V, jb0, jb1, jb2, bb⟩ hL
  have jf0 := V 0 _ _ rfl rfl (hL 0 (by decide))
  have jf1 := V 1 _ _ rfl rfl (hL 1 (by decide))
  have jf2 := V 2 _ _ rfl rfl (hL 2 (by decide))
  have jf3 := V 3 _ _ rfl rfl (hL 3 (by decide))
  have jf4 := V 4 _ _ rfl rfl (hL 4 (by decide))
  have jf5 := V 5 _ _ rfl rfl (hL 5 (by decide))
  have jf6 := V 6 _ _ rfl rfl (hL 6 (by decide))
  have jf7 := V 7 _ _ rfl rfl (hL 7 (by decide))
  have jf8 := V 8 _ _ rfl rfl (hL 8 (by decide))
  have jf9 := V 9 _ _ rfl rfl (hL 9 (by decide))
  have jf10 := V 10 _ _ rfl rfl (hL 10 (by decide))
  have jf11 := V 11 _ _ rfl rfl (hL 11 (by decide))
  have jf12 := V 12 _ _ rfl rfl (hL 12 (by decide))
  have jf13 := V 13 _ _ rfl rfl (hL 13 (by decide))
  have jf14 := V 14 _ _ rfl rfl (hL 14 (by decide))
  have jf15 := V 15 _ _ rfl rfl (hL 15 (by decide))
  have jf16 := V 16 _ _ rfl rfl (hL 16 (by decide))
  have jf17 := V 17 _ _ rfl rfl (hL 17 (by decide))
  clear V
  clear hL
  rw [show List.map σ [59, 60, 61, 62, 63, 64, 65, 66, 67, 68, 69, 70, 71, 58, 72, 73, 11, 12] = [σ 59, σ 60, σ 61, σ 62, σ 63, σ 64, σ 65, σ 66, σ 67, σ 68, σ 69, σ 70, σ 71, σ 58, σ 72, σ 73, σ 11, σ 12] from rfl, jf0, jf1, jf2, jf3, jf4, jf5, jf6, jf7, jf8, jf9, jf10, jf11, jf12, jf13, jf14, jf15, jf16, jf17]
  clear jf0 jf1 jf2 jf3 jf4 jf5 jf6 jf7 jf8 jf9 jf10 jf11 jf12 jf13 jf14 jf15 jf16 jf17
  simp only [putAll, List.map, Act.put, List.setIfInBounds_toArray, List.set_cons_succ, List.set_cons_zero]
  replace K0 := Lib.hid jb0
  replace K1 := Lib.hid jb1
  replace K2 := Lib.hid jb2
  replace B := Lib.hid bb
  clear bb jb0 jb1 jb2
  have c0_0 := K0.out.at_ 0 _ rfl
  have c0_1 := K0.out.at_ 1 _ rfl
  have c0_2 := K0.out.at_ 2 _ rfl
  have c0_3 := K0.out.at_ 3 _ rfl
  have c1_0 := K1.out.at_ 0 _ rfl
  have c1_1 := K1.out.at_ 1 _ rfl
  have c1_2 := K1.out.at_ 2 _ rfl
  have c1_3 := K1.out.at_ 3 _ rfl
  have c2_0 := K2.out.at_ 0 _ rfl
  have c2_1 := K2.out.at_ 1 _ rfl
  have c2_2 := K2.out.at_ 2 _ rfl
  have c2_3 := K2.out.at_ 3 _ rfl
  have c2_4 := K2.out.at_ 4 _ rfl
  have c2_5 := K2.out.at_ 5 _ rfl
  have c2_6 := K2.out.at_ 6 _ rfl
  have c2_7 := K2.out.at_ 7 _ rfl
  go_upto_region 6 with (fail)
  clear c0_0 c0_1 c0_2 c0_3 c1_0 c1_1 c1_2 c1_3 c2_0 c2_1 c2_2 c2_3 c2_4 c2_5 c2_6 c2_7
  refine wp_region_par (by kernel_rfl) [74, 75, 76, 77, 13, 14] (fun L σ W => Vals [some 74, some 75, some 76, some 77, none, none, none, none] [(.agg #[.int .i8 x1, .int .i8 y1, .int .i8 z1, .int .u8 b1]), (.agg #[.int .i64 p1, .int .i64 p2, .int .i64 p3]), (.agg #[.int .i8 x2, .int .i8 y2, .int .i8 z2, .int .u8 b2]), (.agg #[.int .i64 q1, .int .i64 q2, .int .i64 q3]), undef, undef, undef, undef] L σ ∧ (L 4 → ∃ (g : Nat) (jy0 jy1 jy2 : Value), σ 13 = .pointer (some ⟨g, 0, none⟩) ∧ w.heap.size ≤ g ∧ Blk W g #[jy0, jy1, jy2] 27 ∧ (L 6 → #[jy0, jy1, jy2] = #[.int .i64 p1, .int .i64 p2, .int .i64 p3]) ∧ w.heap.size ≠ g ∧ w.heap.size + 1 ≠ g ∧ w.heap.size + 2 ≠ g) ∧ (L 5 → ∃ (g : Nat) (jy0 jy1 jy2 : Value), σ 14 = .pointer (some ⟨g, 0, none⟩) ∧ w.heap.size ≤ g ∧ Blk W g #[jy0, jy1, jy2] 27 ∧ (L 7 → #[jy0, jy1, jy2] = #[.int .i64 q1, .int .i64 q2, .int .i64 q3]) ∧ w.heap.size ≠ g ∧ w.heap.size + 1 ≠ g ∧ w.heap.size + 2 ≠ g) ∧ (L 6 → L 4) ∧ (L 7 → L 5) ∧ (L 4 → L 5 → σ 13 ≠ σ 14) ∧ Blk W (w.heap.size) #[.int .i8 x1, .int .i8 y1, .int .i8 z1, .int .u8 b1] 24 ∧ Blk W (w.heap.size + 1) #[.int .i8 x2, .int .i8 y2, .int .i8 z2, .int .u8 b2] 24 ∧ Blk W (w.heap.size + 2) #[.int .i8 x3, .int .i8 y3, .int .i8 z3, .int .u8 b3, .int .i8 x4, .int .i8 y4, .int .i8 z4, .int .u8 b4] 50 ∧ Below w.heap.size w W) (by kernel_rfl) (by kernel_rfl) (by kernel_rfl) ?_ ?_ ?_
  · exact fun σ => ⟨Vals.start, fun h => h.elim, fun h => h.elim, fun h => h.elim, fun h => h.elim, fun h => h.elim, K0.out.below (Below.refl _ _).drew, K1.out.below (Below.refl _ _).drew, K2.out.below (Below.refl _ _).drew, B.out.drew⟩
  · refine ⟨?_, ?_, ?_, ?_, ?_, ?_, ?_, ?_, trivial⟩
    · rintro L a W ho ⟨V, jf4, jf5, js6, js7, jn4_5, jb0, jb1, jb2, bb⟩ hn hd K hK
      clear hd
      refine Wants.free rfl ?_
      have jr3 : a.tmps[(3 : Nat)]?.getD undef = .pointer (some ⟨w.heap.size, 0, none⟩) := ho.slot 3 rfl
      have jc0 := jb0.at_ 0 _ rfl
      have jc1 := jb0.at_ 1 _ rfl
      have jc2 := jb0.at_ 2 _ rfl
      have jc3 := jb0.at_ 3 _ rfl
      go_simp
      exact hK.out (.agg #[.int .i8 x1, .int .i8 y1, .int .i8 z1, .int .u8 b1]) _ ⟨V.set 0 _ _ rfl rfl rfl, fun h => (by obtain ⟨jg, ju0, ju1, ju2, je1, je2, je3, je4, jne0, jne1, jne2⟩ := old jf4 rfl h; exact ⟨jg, _, _, _, je1, je2, je3, fun h => je4 (h.resolve_right (by decide)), jne0, jne1, jne2⟩), fun h => (by obtain ⟨jg, ju0, ju1, ju2, je1, je2, je3, je4, jne0, jne1, jne2⟩ := old jf5 rfl h; exact ⟨jg, _, _, _, je1, je2, je3, fun h => je4 (h.resolve_right (by decide)), jne0, jne1, jne2⟩), fun h => .inl (old js6 rfl h), fun h => .inl (old js7 rfl h), fun h h2 => jn4_5 (h.resolve_right (by decide)) (h2.resolve_right (by decide)), jb0, jb1, jb2, bb⟩
    · rintro L a W ho ⟨V, jf4, jf5, js6, js7, jn4_5, jb0, jb1, jb2, bb⟩ hn hd K hK
      have jh0 := hd.get 0 rfl
      clear hd
      refine Wants.free rfl ?_
      have jr74 := V.read 0 rfl rfl jh0
      go_simp
      go_at_call 14
      with_reducible refine (I1.out _ bb).mono ?_
      rintro e wx ⟨rfl, q⟩
      go_simp
      exact hK.out (.agg #[.int .i64 p1, .int .i64 p2, .int .i64 p3]) _ ⟨V.set 1 _ _ rfl rfl rfl, fun h => (by obtain ⟨jg, ju0, ju1, ju2, je1, je2, je3, je4, jne0, jne1, jne2⟩ := old jf4 rfl h; exact ⟨jg, _, _, _, je1, je2, je3.below q, fun h => je4 (h.resolve_right (by decide)), jne0, jne1, jne2⟩), fun h => (by obtain ⟨jg, ju0, ju1, ju2, je1, je2, je3, je4, jne0, jne1, jne2⟩ := old jf5 rfl h; exact ⟨jg, _, _, _, je1, je2, je3.below q, fun h => je4 (h.resolve_right (by decide)), jne0, jne1, jne2⟩), fun h => .inl (old js6 rfl h), fun h => .inl (old js7 rfl h), fun h h2 => jn4_5 (h.resolve_right (by decide)) (h2.resolve_right (by decide)), jb0.below q, jb1.below q, jb2.below q, bb.trans (q.mono bb.size)⟩
    · rintro L a W ho ⟨V, jf4, jf5, js6, js7, jn4_5, jb0, jb1, jb2, bb⟩ hn hd K hK
      clear hd
      refine Wants.free rfl ?_
      have jr4 : a.tmps[(4 : Nat)]?.getD undef = .pointer (some ⟨w.heap.size + 1, 0, none⟩) := ho.slot 4 rfl
      have jc0 := jb1.at_ 0 _ rfl
      have jc1 := jb1.at_ 1 _ rfl
      have jc2 := jb1.at_ 2 _ rfl
      have jc3 := jb1.at_ 3 _ rfl
      go_simp
      exact hK.out (.agg #[.int .i8 x2, .int .i8 y2, .int .i8 z2, .int .u8 b2]) _ ⟨V.set 2 _ _ rfl rfl rfl, fun h => (by obtain ⟨jg, ju0, ju1, ju2, je1, je2, je3, je4, jne0, jne1, jne2⟩ := old jf4 rfl h; exact ⟨jg, _, _, _, je1, je2, je3, fun h => je4 (h.resolve_right (by decide)), jne0, jne1, jne2⟩), fun h => (by obtain ⟨jg, ju0, ju1, ju2, je1, je2, je3, je4, jne0, jne1, jne2⟩ := old jf5 rfl h; exact ⟨jg, _, _, _, je1, je2, je3, fun h => je4 (h.resolve_right (by decide)), jne0, jne1, jne2⟩), fun h => .inl (old js6 rfl h), fun h => .inl (old js7 rfl h), fun h h2 => jn4_5 (h.resolve_right (by decide)) (h2.resolve_right (by decide)), jb0, jb1, jb2, bb⟩
    · rintro L a W ho ⟨V, jf4, jf5, js6, js7, jn4_5, jb0, jb1, jb2, bb⟩ hn hd K hK
      have jh2 := hd.get 2 rfl
      clear hd
      refine Wants.free rfl ?_
      have jr76 := V.read 2 rfl rfl jh2
      go_simp
      go_at_call 14
      with_reducible refine (I2.out _ bb).mono ?_
      rintro e wx ⟨rfl, q⟩
      go_simp
      exact hK.out (.agg #[.int .i64 q1, .int .i64 q2, .int .i64 q3]) _ ⟨V.set 3 _ _ rfl rfl rfl, fun h => (by obtain ⟨jg, ju0, ju1, ju2, je1, je2, je3, je4, jne0, jne1, jne2⟩ := old jf4 rfl h; exact ⟨jg, _, _, _, je1, je2, je3.below q, fun h => je4 (h.resolve_right (by decide)), jne0, jne1, jne2⟩), fun h => (by obtain ⟨jg, ju0, ju1, ju2, je1, je2, je3, je4, jne0, jne1, jne2⟩ := old jf5 rfl h; exact ⟨jg, _, _, _, je1, je2, je3.below q, fun h => je4 (h.resolve_right (by decide)), jne0, jne1, jne2⟩), fun h => .inl (old js6 rfl h), fun h => .inl (old js7 rfl h), fun h h2 => jn4_5 (h.resolve_right (by decide)) (h2.resolve_right (by decide)), jb0.below q, jb1.below q, jb2.below q, bb.trans (q.mono bb.size)⟩
    · rintro L a W ho ⟨V, jf4, jf5, js6, js7, jn4_5, jb0, jb1, jb2, bb⟩ hn hd K hK
      clear hd
      refine Wants.free rfl ?_
      go_simp
      exact hK.out (.pointer (some ⟨W.heap.size, 0, none⟩)) _ ⟨V.apart 4 _ _ rfl rfl, fun _ => ⟨W.heap.size, .int .i64 0, .int .i64 0, .int .i64 0, rfl, bb.size, Blk.fresh W #[.int .i64 0, .int .i64 0, .int .i64 0] 27, fun h => absurd (old js6 rfl h) hn, (Nat.ne_of_lt jb0.lt), (Nat.ne_of_lt jb1.lt), (Nat.ne_of_lt jb2.lt)⟩, fun h => (by obtain ⟨jg, ju0, ju1, ju2, je1, je2, je3, je4, jne0, jne1, jne2⟩ := old jf5 rfl h; exact ⟨jg, _, _, _, je1, je2, je3.alloc (Obj.cells #[.int .i64 0, .int .i64 0, .int .i64 0] 27), fun h => je4 (h.resolve_right (by decide)), jne0, jne1, jne2⟩), fun h => .inl (old js6 rfl h), fun h => .inl (old js7 rfl h), fun h h2 => (by obtain ⟨jg, ju0, ju1, ju2, je1, je2, je3, je4, jne0, jne1, jne2⟩ := jf5 (h2.resolve_right (by decide)); have jhlt := je3.lt; show (Value.pointer (some ⟨W.heap.size, 0, none⟩)) ≠ slotOf a 14; rw [je1]; intro e; injection e with e; injection e with e; injection e with e; omega), jb0.alloc (Obj.cells #[.int .i64 0, .int .i64 0, .int .i64 0] 27), jb1.alloc (Obj.cells #[.int .i64 0, .int .i64 0, .int .i64 0] 27), jb2.alloc (Obj.cells #[.int .i64 0, .int .i64 0, .int .i64 0] 27), bb.trans ((below_new W (Obj.cells #[.int .i64 0, .int .i64 0, .int .i64 0] 27)).mono bb.size)⟩
    · rintro L a W ho ⟨V, jf4, jf5, js6, js7, jn4_5, jb0, jb1, jb2, bb⟩ hn hd K hK
      clear hd
      refine Wants.free rfl ?_
      go_simp
      exact hK.out (.pointer (some ⟨W.heap.size, 0, none⟩)) _ ⟨V.apart 5 _ _ rfl rfl, fun h => (by obtain ⟨jg, ju0, ju1, ju2, je1, je2, je3, je4, jne0, jne1, jne2⟩ := old jf4 rfl h; exact ⟨jg, _, _, _, je1, je2, je3.alloc (Obj.cells #[.int .i64 0, .int .i64 0, .int .i64 0] 27), fun h => je4 (h.resolve_right (by decide)), jne0, jne1, jne2⟩), fun _ => ⟨W.heap.size, .int .i64 0, .int .i64 0, .int .i64 0, rfl, bb.size, Blk.fresh W #[.int .i64 0, .int .i64 0, .int .i64 0] 27, fun h => absurd (old js7 rfl h) hn, (Nat.ne_of_lt jb0.lt), (Nat.ne_of_lt jb1.lt), (Nat.ne_of_lt jb2.lt)⟩, fun h => .inl (old js6 rfl h), fun h => .inl (old js7 rfl h), fun h h2 => (by obtain ⟨jg, ju0, ju1, ju2, je1, je2, je3, je4, jne0, jne1, jne2⟩ := jf4 (h.resolve_right (by decide)); have jhlt := je3.lt; show slotOf a 13 ≠ (Value.pointer (some ⟨W.heap.size, 0, none⟩)); rw [je1]; intro e; injection e with e; injection e with e; injection e with e; omega), jb0.alloc (Obj.cells #[.int .i64 0, .int .i64 0, .int .i64 0] 27), jb1.alloc (Obj.cells #[.int .i64 0, .int .i64 0, .int .i64 0] 27), jb2.alloc (Obj.cells #[.int .i64 0, .int .i64 0, .int .i64 0] 27), bb.trans ((below_new W (Obj.cells #[.int .i64 0, .int .i64 0, .int .i64 0] 27)).mono bb.size)⟩
    · rintro L a W ho ⟨V, jf4, jf5, js6, js7, jn4_5, jb0, jb1, jb2, bb⟩ hn hd K hK
      have jh4 := hd.get 4 rfl
      have jh1 := hd.get 1 rfl
      clear hd
      refine Wants.free rfl ?_
      have jr75 := V.read 1 rfl rfl jh1
      obtain ⟨jg, jy0, jy1, jy2, je1, je2, je3, je4, jne0, jne1, jne2⟩ := jf4 jh4
      have jr13 : a.tmps[(13 : Nat)]?.getD undef = .pointer (some ⟨jg, 0, none⟩) := je1
      have jc0 := je3.at_ 0 _ rfl
      have jz0 := je3.free 0
      have jc1 := je3.at_ 1 _ rfl
      have jz1 := je3.free 1
      have jc2 := je3.at_ 2 _ rfl
      have jz2 := je3.free 2
      go_simp
      exact hK.out (undef) _ ⟨V.same 6 _ rfl, fun _ => ⟨jg, .int .i64 p1, .int .i64 p2, .int .i64 p3, je1, je2, je3.set3 (.int .i64 p1) (.int .i64 p2) (.int .i64 p3), fun _ => rfl, jne0, jne1, jne2⟩, fun h => (by have jhne := jn4_5 jh4 (h.resolve_right (by decide)); obtain ⟨jg2, ju0, ju1, ju2, jt1, jq2, jq3, je4, jnq0, jnq1, jnq2⟩ := old jf5 rfl h; exact ⟨jg2, _, _, _, jt1, jq2, jq3.else3 (fun e => jhne (by rw [jt1, je1, e])) (.int .i64 p1) (.int .i64 p2) (.int .i64 p3), fun h => je4 (h.resolve_right (by decide)), jnq0, jnq1, jnq2⟩), fun _ => .inl jh4, fun h => .inl (old js7 rfl h), fun h h2 => jn4_5 (h.resolve_right (by decide)) (h2.resolve_right (by decide)), jb0.else3 jne0 (.int .i64 p1) (.int .i64 p2) (.int .i64 p3), jb1.else3 jne1 (.int .i64 p1) (.int .i64 p2) (.int .i64 p3), jb2.else3 jne2 (.int .i64 p1) (.int .i64 p2) (.int .i64 p3), bb.trans (below_else3 W w.heap.size jg je2 (.int .i64 p1) (.int .i64 p2) (.int .i64 p3))⟩
    · rintro L a W ho ⟨V, jf4, jf5, js6, js7, jn4_5, jb0, jb1, jb2, bb⟩ hn hd K hK
      have jh5 := hd.get 5 rfl
      have jh3 := hd.get 3 rfl
      clear hd
      refine Wants.free rfl ?_
      have jr77 := V.read 3 rfl rfl jh3
      obtain ⟨jg, jy0, jy1, jy2, je1, je2, je3, je4, jne0, jne1, jne2⟩ := jf5 jh5
      have jr14 : a.tmps[(14 : Nat)]?.getD undef = .pointer (some ⟨jg, 0, none⟩) := je1
      have jc0 := je3.at_ 0 _ rfl
      have jz0 := je3.free 0
      have jc1 := je3.at_ 1 _ rfl
      have jz1 := je3.free 1
      have jc2 := je3.at_ 2 _ rfl
      have jz2 := je3.free 2
      go_simp
      exact hK.out (undef) _ ⟨V.same 7 _ rfl, fun h => (by have jhne := jn4_5 (h.resolve_right (by decide)) jh5; obtain ⟨jg2, ju0, ju1, ju2, jt1, jq2, jq3, je4, jnq0, jnq1, jnq2⟩ := old jf4 rfl h; exact ⟨jg2, _, _, _, jt1, jq2, jq3.else3 (fun e => jhne (by rw [jt1, je1, e])) (.int .i64 q1) (.int .i64 q2) (.int .i64 q3), fun h => je4 (h.resolve_right (by decide)), jnq0, jnq1, jnq2⟩), fun _ => ⟨jg, .int .i64 q1, .int .i64 q2, .int .i64 q3, je1, je2, je3.set3 (.int .i64 q1) (.int .i64 q2) (.int .i64 q3), fun _ => rfl, jne0, jne1, jne2⟩, fun h => .inl (old js6 rfl h), fun _ => .inl jh5, fun h h2 => jn4_5 (h.resolve_right (by decide)) (h2.resolve_right (by decide)), jb0.else3 jne0 (.int .i64 q1) (.int .i64 q2) (.int .i64 q3), jb1.else3 jne1 (.int .i64 q1) (.int .i64 q2) (.int .i64 q3), jb2.else3 jne2 (.int .i64 q1) (.int .i64 q2) (.int .i64 q3), bb.trans (below_else3 W w.heap.size jg je2 (.int .i64 q1) (.int .i64 q2) (.int .i64 q3))⟩
  rintro L σ W ⟨V, jf4, jf5, js6, js7, jn4_5, jb0, jb1, jb2, bb⟩ hL
  have jf0 := V 0 _ _ rfl rfl (hL 0 (by decide))
  have jf1 := V 1 _ _ rfl rfl (hL 1 (by decide))
  have jf2 := V 2 _ _ rfl rfl (hL 2 (by decide))
  have jf3 := V 3 _ _ rfl rfl (hL 3 (by decide))
  clear V
  replace jn4_5 := jn4_5 (hL 4 (by decide)) (hL 5 (by decide))
  obtain ⟨g6_4, jy4_0, jy4_1, jy4_2, jf4, jl4, jv4, je4, jne4_0, jne4_1, jne4_2⟩ := jf4 (hL 4 (by decide))
  rw [je4 (hL 6 (by decide))] at jv4
  clear je4 jne4_0 jne4_1 jne4_2
  obtain ⟨g6_5, jy5_0, jy5_1, jy5_2, jf5, jl5, jv5, je5, jne5_0, jne5_1, jne5_2⟩ := jf5 (hL 5 (by decide))
  rw [je5 (hL 7 (by decide))] at jv5
  clear je5 jne5_0 jne5_1 jne5_2
  clear jn4_5
  clear hL js6 js7
  rw [show List.map σ [74, 75, 76, 77, 13, 14] = [σ 74, σ 75, σ 76, σ 77, σ 13, σ 14] from rfl, jf0, jf1, jf2, jf3, jf4, jf5]
  clear jf0 jf1 jf2 jf3 jf4 jf5
  simp only [putAll, List.map, Act.put, List.setIfInBounds_toArray, List.set_cons_succ, List.set_cons_zero]
  replace K0 := Lib.hid jb0
  replace K1 := Lib.hid jb1
  replace K2 := Lib.hid jb2
  have K3 := Lib.hid jv4
  have K4 := Lib.hid jv5
  replace B := Lib.hid bb
  clear bb jb0 jb1 jb2 jv4 jl4 jv5 jl5
  have c0_0 := K0.out.at_ 0 _ rfl
  have c0_1 := K0.out.at_ 1 _ rfl
  have c0_2 := K0.out.at_ 2 _ rfl
  have c0_3 := K0.out.at_ 3 _ rfl
  have c1_0 := K1.out.at_ 0 _ rfl
  have c1_1 := K1.out.at_ 1 _ rfl
  have c1_2 := K1.out.at_ 2 _ rfl
  have c1_3 := K1.out.at_ 3 _ rfl
  have c2_0 := K2.out.at_ 0 _ rfl
  have c2_1 := K2.out.at_ 1 _ rfl
  have c2_2 := K2.out.at_ 2 _ rfl
  have c2_3 := K2.out.at_ 3 _ rfl
  have c2_4 := K2.out.at_ 4 _ rfl
  have c2_5 := K2.out.at_ 5 _ rfl
  have c2_6 := K2.out.at_ 6 _ rfl
  have c2_7 := K2.out.at_ 7 _ rfl
  have c3_0 := K3.out.at_ 0 _ rfl
  have c3_1 := K3.out.at_ 1 _ rfl
  have c3_2 := K3.out.at_ 2 _ rfl
  have c4_0 := K4.out.at_ 0 _ rfl
  have c4_1 := K4.out.at_ 1 _ rfl
  have c4_2 := K4.out.at_ 2 _ rfl
  go_upto_region 7 with (fail)
  clear c0_0 c0_1 c0_2 c0_3 c1_0 c1_1 c1_2 c1_3 c2_0 c2_1 c2_2 c2_3 c2_4 c2_5 c2_6 c2_7 c3_0 c3_1 c3_2 c4_0 c4_1 c4_2
  refine wp_region_par (by kernel_rfl) [78, 79, 80, 81, 82, 83, 84, 85, 86, 87, 88, 89, 90, 91, 92, 93, 94, 95, 96, 97, 98, 99, 100, 101, 102, 103, 104, 105, 106, 107, 108, 109, 110, 111, 112, 113, 6] (fun L σ W => Vals [some 78, some 79, some 80, some 81, some 82, some 83, some 84, some 85, some 86, some 87, some 88, some 89, some 90, some 91, some 92, some 93, some 94, some 95, some 96, some 97, some 98, some 99, some 100, some 101, some 102, some 103, some 104, some 105, some 106, some 107, some 108, some 109, some 110, some 111, some 112, some 113, some 6] [(.int .i64 0), (.bool true), (.bool true), (.string R), (.agg #[.int .i64 p1, .int .i64 p2, .int .i64 p3]), (.agg #[.int .i64 q1, .int .i64 q2, .int .i64 q3]), (.int .i64 d), (.agg #[.int .i64 p1, .int .i64 p2, .int .i64 p3]), (.agg #[.int .i64 q1, .int .i64 q2, .int .i64 q3]), (.int .i64 d), (.int .i64 (d * d)), (.agg #[.int .i64 p1, .int .i64 p2, .int .i64 p3]), (.agg #[.int .i64 p1, .int .i64 p2, .int .i64 p3]), (.int .i64 ee), (.agg #[.int .i64 q1, .int .i64 q2, .int .i64 q3]), (.agg #[.int .i64 q1, .int .i64 q2, .int .i64 q3]), (.int .i64 ff), (.int .i64 (ee * ff)), (.string R), (.bool true), (.bool true), (.bool true), (.int .i64 0), (.bool true), (.bool true), (.bool true), (.int .i64 0), (.bool true), (.bool true), (.bool true), (.int .i64 n), (.string T), (.string R), (.int .i64 n), (.bool true), (.bool true), (.bool true)] L σ ∧ Blk W (w.heap.size) #[.int .i8 x1, .int .i8 y1, .int .i8 z1, .int .u8 b1] 24 ∧ Blk W (w.heap.size + 1) #[.int .i8 x2, .int .i8 y2, .int .i8 z2, .int .u8 b2] 24 ∧ Blk W (w.heap.size + 2) #[.int .i8 x3, .int .i8 y3, .int .i8 z3, .int .u8 b3, .int .i8 x4, .int .i8 y4, .int .i8 z4, .int .u8 b4] 50 ∧ Blk W (g6_4) #[.int .i64 p1, .int .i64 p2, .int .i64 p3] 27 ∧ Blk W (g6_5) #[.int .i64 q1, .int .i64 q2, .int .i64 q3] 27 ∧ Below w.heap.size w W) (by kernel_rfl) (by kernel_rfl) (by kernel_rfl) ?_ ?_ ?_
  · exact fun σ => ⟨Vals.start, K0.out.below (Below.refl _ _).drew, K1.out.below (Below.refl _ _).drew, K2.out.below (Below.refl _ _).drew, K3.out.below (Below.refl _ _).drew, K4.out.below (Below.refl _ _).drew, B.out.drew⟩
  · refine ⟨?_, ?_, ?_, ?_, ?_, ?_, ?_, ?_, ?_, ?_, ?_, ?_, ?_, ?_, ?_, ?_, ?_, ?_, ?_, ?_, ?_, ?_, ?_, ?_, ?_, ?_, ?_, ?_, ?_, ?_, ?_, ?_, ?_, ?_, ?_, ?_, ?_, trivial⟩
    · rintro L a W ho ⟨V, jb0, jb1, jb2, jb3, jb4, bb⟩ hn hd K hK
      clear hd
      refine Wants.free rfl ?_
      have jr8 : a.tmps[(8 : Nat)]?.getD undef = .int .i64 0 := ho.slot 8 rfl
      go_simp
      exact hK.out (.int .i64 0) _ ⟨V.set 0 _ _ rfl rfl rfl, jb0, jb1, jb2, jb3, jb4, bb⟩
    · rintro L a W ho ⟨V, jb0, jb1, jb2, jb3, jb4, bb⟩ hn hd K hK
      have jh0 := hd.get 0 rfl
      clear hd
      refine Wants.free rfl ?_
      have jr78 := V.read 0 rfl rfl jh0
      go_simp
      exact hK.out (.bool true) _ ⟨V.set 1 _ _ rfl rfl rfl, jb0, jb1, jb2, jb3, jb4, bb⟩
    · rintro L a W ho ⟨V, jb0, jb1, jb2, jb3, jb4, bb⟩ hn hd K hK
      have jh1 := hd.get 1 rfl
      clear hd
      refine Wants.free rfl ?_
      have jr79 := V.read 1 rfl rfl jh1
      go_simp
      exact hK.out (.bool true) _ ⟨V.set 2 _ _ rfl rfl rfl, jb0, jb1, jb2, jb3, jb4, bb⟩
    · rintro L a W ho ⟨V, jb0, jb1, jb2, jb3, jb4, bb⟩ hn hd K hK
      have jh2 := hd.get 2 rfl
      clear hd
      refine Wants.pos (s := 80) rfl rfl (V 2 _ _ rfl rfl jh2) ?_
      have jr7 : a.tmps[(7 : Nat)]?.getD undef = .string R := ho.slot 7 rfl
      go_simp
      exact hK.out (.string R) _ ⟨V.set 3 _ _ rfl rfl rfl, jb0, jb1, jb2, jb3, jb4, bb⟩
    · rintro L a W ho ⟨V, jb0, jb1, jb2, jb3, jb4, bb⟩ hn hd K hK
      have jh2 := hd.get 2 rfl
      clear hd
      refine Wants.pos (s := 80) rfl rfl (V 2 _ _ rfl rfl jh2) ?_
      have jr13 : a.tmps[(13 : Nat)]?.getD undef = .pointer (some ⟨g6_4, 0, none⟩) := ho.slot 13 rfl
      have jc0 := jb3.at_ 0 _ rfl
      have jc1 := jb3.at_ 1 _ rfl
      have jc2 := jb3.at_ 2 _ rfl
      go_simp
      exact hK.out (.agg #[.int .i64 p1, .int .i64 p2, .int .i64 p3]) _ ⟨V.set 4 _ _ rfl rfl rfl, jb0, jb1, jb2, jb3, jb4, bb⟩
    · rintro L a W ho ⟨V, jb0, jb1, jb2, jb3, jb4, bb⟩ hn hd K hK
      have jh2 := hd.get 2 rfl
      clear hd
      refine Wants.pos (s := 80) rfl rfl (V 2 _ _ rfl rfl jh2) ?_
      have jr14 : a.tmps[(14 : Nat)]?.getD undef = .pointer (some ⟨g6_5, 0, none⟩) := ho.slot 14 rfl
      have jc0 := jb4.at_ 0 _ rfl
      have jc1 := jb4.at_ 1 _ rfl
      have jc2 := jb4.at_ 2 _ rfl
      go_simp
      exact hK.out (.agg #[.int .i64 q1, .int .i64 q2, .int .i64 q3]) _ ⟨V.set 5 _ _ rfl rfl rfl, jb0, jb1, jb2, jb3, jb4, bb⟩
    · rintro L a W ho ⟨V, jb0, jb1, jb2, jb3, jb4, bb⟩ hn hd K hK
      have jh4 := hd.get 4 rfl
      have jh5 := hd.get 5 rfl
      have jh2 := hd.get 2 rfl
      clear hd
      refine Wants.pos (s := 80) rfl rfl (V 2 _ _ rfl rfl jh2) ?_
      have jr82 := V.read 4 rfl rfl jh4
      have jr83 := V.read 5 rfl rfl jh5
      go_simp
      go_at_call 17
      with_reducible refine (T1.out _ bb).mono ?_
      rintro e wx ⟨rfl, q⟩
      go_simp
      exact hK.out (.int .i64 d) _ ⟨V.set 6 _ _ rfl rfl rfl, jb0.below q, jb1.below q, jb2.below q, jb3.below q, jb4.below q, bb.trans (q.mono bb.size)⟩
    · rintro L a W ho ⟨V, jb0, jb1, jb2, jb3, jb4, bb⟩ hn hd K hK
      have jh2 := hd.get 2 rfl
      clear hd
      refine Wants.pos (s := 80) rfl rfl (V 2 _ _ rfl rfl jh2) ?_
      have jr13 : a.tmps[(13 : Nat)]?.getD undef = .pointer (some ⟨g6_4, 0, none⟩) := ho.slot 13 rfl
      have jc0 := jb3.at_ 0 _ rfl
      have jc1 := jb3.at_ 1 _ rfl
      have jc2 := jb3.at_ 2 _ rfl
      go_simp
      exact hK.out (.agg #[.int .i64 p1, .int .i64 p2, .int .i64 p3]) _ ⟨V.set 7 _ _ rfl rfl rfl, jb0, jb1, jb2, jb3, jb4, bb⟩
    · rintro L a W ho ⟨V, jb0, jb1, jb2, jb3, jb4, bb⟩ hn hd K hK
      have jh2 := hd.get 2 rfl
      clear hd
      refine Wants.pos (s := 80) rfl rfl (V 2 _ _ rfl rfl jh2) ?_
      have jr14 : a.tmps[(14 : Nat)]?.getD undef = .pointer (some ⟨g6_5, 0, none⟩) := ho.slot 14 rfl
      have jc0 := jb4.at_ 0 _ rfl
      have jc1 := jb4.at_ 1 _ rfl
      have jc2 := jb4.at_ 2 _ rfl
      go_simp
      exact hK.out (.agg #[.int .i64 q1, .int .i64 q2, .int .i64 q3]) _ ⟨V.set 8 _ _ rfl rfl rfl, jb0, jb1, jb2, jb3, jb4, bb⟩
    · rintro L a W ho ⟨V, jb0, jb1, jb2, jb3, jb4, bb⟩ hn hd K hK
      have jh7 := hd.get 7 rfl
      have jh8 := hd.get 8 rfl
      have jh2 := hd.get 2 rfl
      clear hd
      refine Wants.pos (s := 80) rfl rfl (V 2 _ _ rfl rfl jh2) ?_
      have jr85 := V.read 7 rfl rfl jh7
      have jr86 := V.read 8 rfl rfl jh8
      go_simp
      go_at_call 17
      with_reducible refine (T1.out _ bb).mono ?_
      rintro e wx ⟨rfl, q⟩
      go_simp
      exact hK.out (.int .i64 d) _ ⟨V.set 9 _ _ rfl rfl rfl, jb0.below q, jb1.below q, jb2.below q, jb3.below q, jb4.below q, bb.trans (q.mono bb.size)⟩
    · rintro L a W ho ⟨V, jb0, jb1, jb2, jb3, jb4, bb⟩ hn hd K hK
      have jh6 := hd.get 6 rfl
      have jh9 := hd.get 9 rfl
      have jh2 := hd.get 2 rfl
      clear hd
      refine Wants.pos (s := 80) rfl rfl (V 2 _ _ rfl rfl jh2) ?_
      have jr84 := V.read 6 rfl rfl jh6
      have jr87 := V.read 9 rfl rfl jh9
      go_simp
      exact hK.out (.int .i64 (d * d)) _ ⟨V.set 10 _ _ rfl rfl rfl, jb0, jb1, jb2, jb3, jb4, bb⟩
    · rintro L a W ho ⟨V, jb0, jb1, jb2, jb3, jb4, bb⟩ hn hd K hK
      have jh2 := hd.get 2 rfl
      clear hd
      refine Wants.pos (s := 80) rfl rfl (V 2 _ _ rfl rfl jh2) ?_
      have jr13 : a.tmps[(13 : Nat)]?.getD undef = .pointer (some ⟨g6_4, 0, none⟩) := ho.slot 13 rfl
      have jc0 := jb3.at_ 0 _ rfl
      have jc1 := jb3.at_ 1 _ rfl
      have jc2 := jb3.at_ 2 _ rfl
      go_simp
      exact hK.out (.agg #[.int .i64 p1, .int .i64 p2, .int .i64 p3]) _ ⟨V.set 11 _ _ rfl rfl rfl, jb0, jb1, jb2, jb3, jb4, bb⟩
    · rintro L a W ho ⟨V, jb0, jb1, jb2, jb3, jb4, bb⟩ hn hd K hK
      have jh2 := hd.get 2 rfl
      clear hd
      refine Wants.pos (s := 80) rfl rfl (V 2 _ _ rfl rfl jh2) ?_
      have jr13 : a.tmps[(13 : Nat)]?.getD undef = .pointer (some ⟨g6_4, 0, none⟩) := ho.slot 13 rfl
      have jc0 := jb3.at_ 0 _ rfl
      have jc1 := jb3.at_ 1 _ rfl
      have jc2 := jb3.at_ 2 _ rfl
      go_simp
      exact hK.out (.agg #[.int .i64 p1, .int .i64 p2, .int .i64 p3]) _ ⟨V.set 12 _ _ rfl rfl rfl, jb0, jb1, jb2, jb3, jb4, bb⟩
    · rintro L a W ho ⟨V, jb0, jb1, jb2, jb3, jb4, bb⟩ hn hd K hK
      have jh11 := hd.get 11 rfl
      have jh12 := hd.get 12 rfl
      have jh2 := hd.get 2 rfl
      clear hd
      refine Wants.pos (s := 80) rfl rfl (V 2 _ _ rfl rfl jh2) ?_
      have jr89 := V.read 11 rfl rfl jh11
      have jr90 := V.read 12 rfl rfl jh12
      go_simp
      go_at_call 17
      with_reducible refine (T2.out _ bb).mono ?_
      rintro e wx ⟨rfl, q⟩
      go_simp
      exact hK.out (.int .i64 ee) _ ⟨V.set 13 _ _ rfl rfl rfl, jb0.below q, jb1.below q, jb2.below q, jb3.below q, jb4.below q, bb.trans (q.mono bb.size)⟩
    · rintro L a W ho ⟨V, jb0, jb1, jb2, jb3, jb4, bb⟩ hn hd K hK
      have jh2 := hd.get 2 rfl
      clear hd
      refine Wants.pos (s := 80) rfl rfl (V 2 _ _ rfl rfl jh2) ?_
      have jr14 : a.tmps[(14 : Nat)]?.getD undef = .pointer (some ⟨g6_5, 0, none⟩) := ho.slot 14 rfl
      have jc0 := jb4.at_ 0 _ rfl
      have jc1 := jb4.at_ 1 _ rfl
      have jc2 := jb4.at_ 2 _ rfl
      go_simp
      exact hK.out (.agg #[.int .i64 q1, .int .i64 q2, .int .i64 q3]) _ ⟨V.set 14 _ _ rfl rfl rfl, jb0, jb1, jb2, jb3, jb4, bb⟩
    · rintro L a W ho ⟨V, jb0, jb1, jb2, jb3, jb4, bb⟩ hn hd K hK
      have jh2 := hd.get 2 rfl
      clear hd
      refine Wants.pos (s := 80) rfl rfl (V 2 _ _ rfl rfl jh2) ?_
      have jr14 : a.tmps[(14 : Nat)]?.getD undef = .pointer (some ⟨g6_5, 0, none⟩) := ho.slot 14 rfl
      have jc0 := jb4.at_ 0 _ rfl
      have jc1 := jb4.at_ 1 _ rfl
      have jc2 := jb4.at_ 2 _ rfl
      go_simp
      exact hK.out (.agg #[.int .i64 q1, .int .i64 q2, .int .i64 q3]) _ ⟨V.set 15 _ _ rfl rfl rfl, jb0, jb1, jb2, jb3, jb4, bb⟩
    · rintro L a W ho ⟨V, jb0, jb1, jb2, jb3, jb4, bb⟩ hn hd K hK
      have jh14 := hd.get 14 rfl
      have jh15 := hd.get 15 rfl
      have jh2 := hd.get 2 rfl
      clear hd
      refine Wants.pos (s := 80) rfl rfl (V 2 _ _ rfl rfl jh2) ?_
      have jr92 := V.read 14 rfl rfl jh14
      have jr93 := V.read 15 rfl rfl jh15
      go_simp
      go_at_call 17
      with_reducible refine (T3.out _ bb).mono ?_
      rintro e wx ⟨rfl, q⟩
      go_simp
      exact hK.out (.int .i64 ff) _ ⟨V.set 16 _ _ rfl rfl rfl, jb0.below q, jb1.below q, jb2.below q, jb3.below q, jb4.below q, bb.trans (q.mono bb.size)⟩
    · rintro L a W ho ⟨V, jb0, jb1, jb2, jb3, jb4, bb⟩ hn hd K hK
      have jh13 := hd.get 13 rfl
      have jh16 := hd.get 16 rfl
      have jh2 := hd.get 2 rfl
      clear hd
      refine Wants.pos (s := 80) rfl rfl (V 2 _ _ rfl rfl jh2) ?_
      have jr91 := V.read 13 rfl rfl jh13
      have jr94 := V.read 16 rfl rfl jh16
      go_simp
      exact hK.out (.int .i64 (ee * ff)) _ ⟨V.set 17 _ _ rfl rfl rfl, jb0, jb1, jb2, jb3, jb4, bb⟩
    · rintro L a W ho ⟨V, jb0, jb1, jb2, jb3, jb4, bb⟩ hn hd K hK
      have jh10 := hd.get 10 rfl
      have jh17 := hd.get 17 rfl
      have jh2 := hd.get 2 rfl
      clear hd
      refine Wants.pos (s := 80) rfl rfl (V 2 _ _ rfl rfl jh2) ?_
      have jr88 := V.read 10 rfl rfl jh10
      have jr95 := V.read 17 rfl rfl jh17
      go_simp
      go_at_call 26
      with_reducible refine (QU.out _ bb).mono ?_
      rintro e wx ⟨rfl, q⟩
      go_simp
      exact hK.out (.string R) _ ⟨V.set 18 _ _ rfl rfl rfl, jb0.below q, jb1.below q, jb2.below q, jb3.below q, jb4.below q, bb.trans (q.mono bb.size)⟩
    · rintro L a W ho ⟨V, jb0, jb1, jb2, jb3, jb4, bb⟩ hn hd K hK
      have jh3 := hd.get 3 rfl
      have jh18 := hd.get 18 rfl
      have jh2 := hd.get 2 rfl
      clear hd
      refine Wants.pos (s := 80) rfl rfl (V 2 _ _ rfl rfl jh2) ?_
      have jr81 := V.read 3 rfl rfl jh3
      have jr96 := V.read 18 rfl rfl jh18
      go_simp
      exact hK.out (.bool true) _ ⟨V.set 19 _ _ rfl rfl rfl, jb0, jb1, jb2, jb3, jb4, bb⟩
    · rintro L a W ho ⟨V, jb0, jb1, jb2, jb3, jb4, bb⟩ hn hd K hK
      have jh2 := hd.get 2 rfl
      have jh19 := hd.get 19 rfl
      clear hd
      refine Wants.free rfl ?_
      have jr80 := V.read 2 rfl rfl jh2
      have jr97 := V.read 19 rfl rfl jh19
      go_simp
      exact hK.out (.bool true) _ ⟨V.set 20 _ _ rfl rfl rfl, jb0, jb1, jb2, jb3, jb4, bb⟩
    · rintro L a W ho ⟨V, jb0, jb1, jb2, jb3, jb4, bb⟩ hn hd K hK
      have jh20 := hd.get 20 rfl
      clear hd
      refine Wants.free rfl ?_
      have jr98 := V.read 20 rfl rfl jh20
      go_simp
      exact hK.out (.bool true) _ ⟨V.set 21 _ _ rfl rfl rfl, jb0, jb1, jb2, jb3, jb4, bb⟩
    · rintro L a W ho ⟨V, jb0, jb1, jb2, jb3, jb4, bb⟩ hn hd K hK
      have jh21 := hd.get 21 rfl
      clear hd
      refine Wants.pos (s := 99) rfl rfl (V 21 _ _ rfl rfl jh21) ?_
      have jr10 : a.tmps[(10 : Nat)]?.getD undef = .int .i64 0 := ho.slot 10 rfl
      go_simp
      exact hK.out (.int .i64 0) _ ⟨V.set 22 _ _ rfl rfl rfl, jb0, jb1, jb2, jb3, jb4, bb⟩
    · rintro L a W ho ⟨V, jb0, jb1, jb2, jb3, jb4, bb⟩ hn hd K hK
      have jh22 := hd.get 22 rfl
      have jh21 := hd.get 21 rfl
      clear hd
      refine Wants.pos (s := 99) rfl rfl (V 21 _ _ rfl rfl jh21) ?_
      have jr100 := V.read 22 rfl rfl jh22
      go_simp
      exact hK.out (.bool true) _ ⟨V.set 23 _ _ rfl rfl rfl, jb0, jb1, jb2, jb3, jb4, bb⟩
    · rintro L a W ho ⟨V, jb0, jb1, jb2, jb3, jb4, bb⟩ hn hd K hK
      have jh21 := hd.get 21 rfl
      have jh23 := hd.get 23 rfl
      clear hd
      refine Wants.free rfl ?_
      have jr99 := V.read 21 rfl rfl jh21
      have jr101 := V.read 23 rfl rfl jh23
      go_simp
      exact hK.out (.bool true) _ ⟨V.set 24 _ _ rfl rfl rfl, jb0, jb1, jb2, jb3, jb4, bb⟩
    · rintro L a W ho ⟨V, jb0, jb1, jb2, jb3, jb4, bb⟩ hn hd K hK
      have jh24 := hd.get 24 rfl
      clear hd
      refine Wants.free rfl ?_
      have jr102 := V.read 24 rfl rfl jh24
      go_simp
      exact hK.out (.bool true) _ ⟨V.set 25 _ _ rfl rfl rfl, jb0, jb1, jb2, jb3, jb4, bb⟩
    · rintro L a W ho ⟨V, jb0, jb1, jb2, jb3, jb4, bb⟩ hn hd K hK
      have jh25 := hd.get 25 rfl
      clear hd
      refine Wants.pos (s := 103) rfl rfl (V 25 _ _ rfl rfl jh25) ?_
      have jr12 : a.tmps[(12 : Nat)]?.getD undef = .int .i64 0 := ho.slot 12 rfl
      go_simp
      exact hK.out (.int .i64 0) _ ⟨V.set 26 _ _ rfl rfl rfl, jb0, jb1, jb2, jb3, jb4, bb⟩
    · rintro L a W ho ⟨V, jb0, jb1, jb2, jb3, jb4, bb⟩ hn hd K hK
      have jh26 := hd.get 26 rfl
      have jh25 := hd.get 25 rfl
      clear hd
      refine Wants.pos (s := 103) rfl rfl (V 25 _ _ rfl rfl jh25) ?_
      have jr104 := V.read 26 rfl rfl jh26
      go_simp
      exact hK.out (.bool true) _ ⟨V.set 27 _ _ rfl rfl rfl, jb0, jb1, jb2, jb3, jb4, bb⟩
    · rintro L a W ho ⟨V, jb0, jb1, jb2, jb3, jb4, bb⟩ hn hd K hK
      have jh25 := hd.get 25 rfl
      have jh27 := hd.get 27 rfl
      clear hd
      refine Wants.free rfl ?_
      have jr103 := V.read 25 rfl rfl jh25
      have jr105 := V.read 27 rfl rfl jh27
      go_simp
      exact hK.out (.bool true) _ ⟨V.set 28 _ _ rfl rfl rfl, jb0, jb1, jb2, jb3, jb4, bb⟩
    · rintro L a W ho ⟨V, jb0, jb1, jb2, jb3, jb4, bb⟩ hn hd K hK
      have jh28 := hd.get 28 rfl
      clear hd
      refine Wants.free rfl ?_
      have jr106 := V.read 28 rfl rfl jh28
      go_simp
      exact hK.out (.bool true) _ ⟨V.set 29 _ _ rfl rfl rfl, jb0, jb1, jb2, jb3, jb4, bb⟩
    · rintro L a W ho ⟨V, jb0, jb1, jb2, jb3, jb4, bb⟩ hn hd K hK
      have jh29 := hd.get 29 rfl
      clear hd
      refine Wants.pos (s := 107) rfl rfl (V 29 _ _ rfl rfl jh29) ?_
      have jr11 : a.tmps[(11 : Nat)]?.getD undef = .int .i64 n := ho.slot 11 rfl
      go_simp
      exact hK.out (.int .i64 n) _ ⟨V.set 30 _ _ rfl rfl rfl, jb0, jb1, jb2, jb3, jb4, bb⟩
    · rintro L a W ho ⟨V, jb0, jb1, jb2, jb3, jb4, bb⟩ hn hd K hK
      have jh29 := hd.get 29 rfl
      clear hd
      refine Wants.pos (s := 107) rfl rfl (V 29 _ _ rfl rfl jh29) ?_
      have jr9 : a.tmps[(9 : Nat)]?.getD undef = .string T := ho.slot 9 rfl
      go_simp
      exact hK.out (.string T) _ ⟨V.set 31 _ _ rfl rfl rfl, jb0, jb1, jb2, jb3, jb4, bb⟩
    · rintro L a W ho ⟨V, jb0, jb1, jb2, jb3, jb4, bb⟩ hn hd K hK
      have jh29 := hd.get 29 rfl
      clear hd
      refine Wants.pos (s := 107) rfl rfl (V 29 _ _ rfl rfl jh29) ?_
      have jr7 : a.tmps[(7 : Nat)]?.getD undef = .string R := ho.slot 7 rfl
      go_simp
      exact hK.out (.string R) _ ⟨V.set 32 _ _ rfl rfl rfl, jb0, jb1, jb2, jb3, jb4, bb⟩
    · rintro L a W ho ⟨V, jb0, jb1, jb2, jb3, jb4, bb⟩ hn hd K hK
      have jh31 := hd.get 31 rfl
      have jh32 := hd.get 32 rfl
      have jh29 := hd.get 29 rfl
      clear hd
      refine Wants.pos (s := 107) rfl rfl (V 29 _ _ rfl rfl jh29) ?_
      have jr109 := V.read 31 rfl rfl jh31
      have jr110 := V.read 32 rfl rfl jh32
      go_simp
      go_at_call 29
      with_reducible refine (CM.out _ bb).mono ?_
      rintro e wx ⟨rfl, q⟩
      go_simp
      exact hK.out (.int .i64 n) _ ⟨V.set 33 _ _ rfl rfl rfl, jb0.below q, jb1.below q, jb2.below q, jb3.below q, jb4.below q, bb.trans (q.mono bb.size)⟩
    · rintro L a W ho ⟨V, jb0, jb1, jb2, jb3, jb4, bb⟩ hn hd K hK
      have jh30 := hd.get 30 rfl
      have jh33 := hd.get 33 rfl
      have jh29 := hd.get 29 rfl
      clear hd
      refine Wants.pos (s := 107) rfl rfl (V 29 _ _ rfl rfl jh29) ?_
      have jr108 := V.read 30 rfl rfl jh30
      have jr111 := V.read 33 rfl rfl jh33
      go_simp
      exact hK.out (.bool true) _ ⟨V.set 34 _ _ rfl rfl rfl, jb0, jb1, jb2, jb3, jb4, bb⟩
    · rintro L a W ho ⟨V, jb0, jb1, jb2, jb3, jb4, bb⟩ hn hd K hK
      have jh29 := hd.get 29 rfl
      have jh34 := hd.get 34 rfl
      clear hd
      refine Wants.free rfl ?_
      have jr107 := V.read 29 rfl rfl jh29
      have jr112 := V.read 34 rfl rfl jh34
      go_simp
      exact hK.out (.bool true) _ ⟨V.set 35 _ _ rfl rfl rfl, jb0, jb1, jb2, jb3, jb4, bb⟩
    · rintro L a W ho ⟨V, jb0, jb1, jb2, jb3, jb4, bb⟩ hn hd K hK
      have jh35 := hd.get 35 rfl
      clear hd
      refine Wants.free rfl ?_
      have jr113 := V.read 35 rfl rfl jh35
      go_simp
      exact hK.out (.bool true) _ ⟨V.set 36 _ _ rfl rfl rfl, jb0, jb1, jb2, jb3, jb4, bb⟩
  rintro L σ W ⟨V, jb0, jb1, jb2, jb3, jb4, bb⟩ hL
  have jf0 := V 0 _ _ rfl rfl (hL 0 (by decide))
  have jf1 := V 1 _ _ rfl rfl (hL 1 (by decide))
  have jf2 := V 2 _ _ rfl rfl (hL 2 (by decide))
  have jf3 := V 3 _ _ rfl rfl (hL 3 (by decide))
  have jf4 := V 4 _ _ rfl rfl (hL 4 (by decide))
  have jf5 := V 5 _ _ rfl rfl (hL 5 (by decide))
  have jf6 := V 6 _ _ rfl rfl (hL 6 (by decide))
  have jf7 := V 7 _ _ rfl rfl (hL 7 (by decide))
  have jf8 := V 8 _ _ rfl rfl (hL 8 (by decide))
  have jf9 := V 9 _ _ rfl rfl (hL 9 (by decide))
  have jf10 := V 10 _ _ rfl rfl (hL 10 (by decide))
  have jf11 := V 11 _ _ rfl rfl (hL 11 (by decide))
  have jf12 := V 12 _ _ rfl rfl (hL 12 (by decide))
  have jf13 := V 13 _ _ rfl rfl (hL 13 (by decide))
  have jf14 := V 14 _ _ rfl rfl (hL 14 (by decide))
  have jf15 := V 15 _ _ rfl rfl (hL 15 (by decide))
  have jf16 := V 16 _ _ rfl rfl (hL 16 (by decide))
  have jf17 := V 17 _ _ rfl rfl (hL 17 (by decide))
  have jf18 := V 18 _ _ rfl rfl (hL 18 (by decide))
  have jf19 := V 19 _ _ rfl rfl (hL 19 (by decide))
  have jf20 := V 20 _ _ rfl rfl (hL 20 (by decide))
  have jf21 := V 21 _ _ rfl rfl (hL 21 (by decide))
  have jf22 := V 22 _ _ rfl rfl (hL 22 (by decide))
  have jf23 := V 23 _ _ rfl rfl (hL 23 (by decide))
  have jf24 := V 24 _ _ rfl rfl (hL 24 (by decide))
  have jf25 := V 25 _ _ rfl rfl (hL 25 (by decide))
  have jf26 := V 26 _ _ rfl rfl (hL 26 (by decide))
  have jf27 := V 27 _ _ rfl rfl (hL 27 (by decide))
  have jf28 := V 28 _ _ rfl rfl (hL 28 (by decide))
  have jf29 := V 29 _ _ rfl rfl (hL 29 (by decide))
  have jf30 := V 30 _ _ rfl rfl (hL 30 (by decide))
  have jf31 := V 31 _ _ rfl rfl (hL 31 (by decide))
  have jf32 := V 32 _ _ rfl rfl (hL 32 (by decide))
  have jf33 := V 33 _ _ rfl rfl (hL 33 (by decide))
  have jf34 := V 34 _ _ rfl rfl (hL 34 (by decide))
  have jf35 := V 35 _ _ rfl rfl (hL 35 (by decide))
  have jf36 := V 36 _ _ rfl rfl (hL 36 (by decide))
  clear V
  clear hL
  rw [show List.map σ [78, 79, 80, 81, 82, 83, 84, 85, 86, 87, 88, 89, 90, 91, 92, 93, 94, 95, 96, 97, 98, 99, 100, 101, 102, 103, 104, 105, 106, 107, 108, 109, 110, 111, 112, 113, 6] = [σ 78, σ 79, σ 80, σ 81, σ 82, σ 83, σ 84, σ 85, σ 86, σ 87, σ 88, σ 89, σ 90, σ 91, σ 92, σ 93, σ 94, σ 95, σ 96, σ 97, σ 98, σ 99, σ 100, σ 101, σ 102, σ 103, σ 104, σ 105, σ 106, σ 107, σ 108, σ 109, σ 110, σ 111, σ 112, σ 113, σ 6] from rfl, jf0, jf1, jf2, jf3, jf4, jf5, jf6, jf7, jf8, jf9, jf10, jf11, jf12, jf13, jf14, jf15, jf16, jf17, jf18, jf19, jf20, jf21, jf22, jf23, jf24, jf25, jf26, jf27, jf28, jf29, jf30, jf31, jf32, jf33, jf34, jf35, jf36]
  clear jf0 jf1 jf2 jf3 jf4 jf5 jf6 jf7 jf8 jf9 jf10 jf11 jf12 jf13 jf14 jf15 jf16 jf17 jf18 jf19 jf20 jf21 jf22 jf23 jf24 jf25 jf26 jf27 jf28 jf29 jf30 jf31 jf32 jf33 jf34 jf35 jf36
  simp only [putAll, List.map, Act.put, List.setIfInBounds_toArray, List.set_cons_succ, List.set_cons_zero]
  replace K0 := Lib.hid jb0
  replace K1 := Lib.hid jb1
  replace K2 := Lib.hid jb2
  replace K3 := Lib.hid jb3
  replace K4 := Lib.hid jb4
  replace B := Lib.hid bb
  clear bb jb0 jb1 jb2 jb3 jb4
  have c0_0 := K0.out.at_ 0 _ rfl
  have c0_1 := K0.out.at_ 1 _ rfl
  have c0_2 := K0.out.at_ 2 _ rfl
  have c0_3 := K0.out.at_ 3 _ rfl
  have c1_0 := K1.out.at_ 0 _ rfl
  have c1_1 := K1.out.at_ 1 _ rfl
  have c1_2 := K1.out.at_ 2 _ rfl
  have c1_3 := K1.out.at_ 3 _ rfl
  have c2_0 := K2.out.at_ 0 _ rfl
  have c2_1 := K2.out.at_ 1 _ rfl
  have c2_2 := K2.out.at_ 2 _ rfl
  have c2_3 := K2.out.at_ 3 _ rfl
  have c2_4 := K2.out.at_ 4 _ rfl
  have c2_5 := K2.out.at_ 5 _ rfl
  have c2_6 := K2.out.at_ 6 _ rfl
  have c2_7 := K2.out.at_ 7 _ rfl
  have c3_0 := K3.out.at_ 0 _ rfl
  have c3_1 := K3.out.at_ 1 _ rfl
  have c3_2 := K3.out.at_ 2 _ rfl
  have c4_0 := K4.out.at_ 0 _ rfl
  have c4_1 := K4.out.at_ 1 _ rfl
  have c4_2 := K4.out.at_ 2 _ rfl
  go_wp2
  go_ret
  exact ⟨rfl, B.out⟩

end Go.Proofs.YtajkeoapfkkjbaaGreatDoor
