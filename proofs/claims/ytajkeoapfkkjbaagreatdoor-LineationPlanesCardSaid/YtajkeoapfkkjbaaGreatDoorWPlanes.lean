/- The walk of LineationPlanes, over texts and ints. -/
import Derived.Test.YtajkeoapfkkjbaaGreatDoorShelf
import Derived.Test.YtajkeoapfkkjbaaGreatDoorPar
import Derived.Deep.RegionHeld3
import Derived.Laws.ResultCell
import Derived.Deep.Cut
import Derived.Deep.CutRange
import Derived.Deep.DeepCutAuto
import Derived.Outline
namespace Go.Proofs.YtajkeoapfkkjbaaGreatDoor
set_option linter.all false
open Go.RowKit

set_option maxRecDepth 100000 in
set_option maxHeartbeats 4000000 in
theorem planes_z1 (x1 y1 z1 b1 x2 y2 z2 b2 x3 y3 z3 b3 p1 p2 p3 : Int) (w : World)
    (kn : ∀ W, Below w.heap.size w W → Calls Tryz.prog 12 #[] W fun e w' => e = .returned (.bool true) ∧ Below W.heap.size W w')
    (i1 : ∀ W, Below w.heap.size w W → Calls Tryz.prog 14 #[.agg #[.int .i8 x1, .int .i8 y1, .int .i8 z1, .int .u8 b1]] W fun e w' => e = .returned (.agg #[.int .i64 p1, .int .i64 p2, .int .i64 p3]) ∧ Below W.heap.size W w')
    (s1 : ∀ W, Below w.heap.size w W → Calls Tryz.prog 13 #[.agg #[.int .i64 p1, .int .i64 p2, .int .i64 p3]] W fun e w' => e = .returned (.bool true) ∧ Below W.heap.size W w') :
    Calls Tryz.prog 5 #[.agg #[.int .i8 x1, .int .i8 y1, .int .i8 z1, .int .u8 b1], .agg #[.int .i8 x2, .int .i8 y2, .int .i8 z2, .int .u8 b2], .agg #[.int .i8 x3, .int .i8 y3, .int .i8 z3, .int .u8 b3]] w fun e w' => e = .returned (.bool true) ∧ Below w.heap.size w w' := by
  have KN := Lib.hid kn
  have I1 := Lib.hid i1
  have S1 := Lib.hid s1
  clear kn i1 s1
  have k0 := Blk.fresh w #[.int .i8 x1, .int .i8 y1, .int .i8 z1, .int .u8 b1] 24
  replace k0 := k0.alloc (Obj.cells #[.int .i8 x2, .int .i8 y2, .int .i8 z2, .int .u8 b2] 24)
  replace k0 := k0.alloc (Obj.cells #[.int .i8 x3, .int .i8 y3, .int .i8 z3, .int .u8 b3] 24)
  have k1 := Blk.fresh (w.alloc (Obj.cells #[.int .i8 x1, .int .i8 y1, .int .i8 z1, .int .u8 b1] 24)) #[.int .i8 x2, .int .i8 y2, .int .i8 z2, .int .u8 b2] 24
  rw [show (w.alloc (Obj.cells #[.int .i8 x1, .int .i8 y1, .int .i8 z1, .int .u8 b1] 24)).heap.size = w.heap.size + 1 from World.size_alloc ..] at k1
  replace k1 := k1.alloc (Obj.cells #[.int .i8 x3, .int .i8 y3, .int .i8 z3, .int .u8 b3] 24)
  have k2 := Blk.fresh ((w.alloc (Obj.cells #[.int .i8 x1, .int .i8 y1, .int .i8 z1, .int .u8 b1] 24)).alloc (Obj.cells #[.int .i8 x2, .int .i8 y2, .int .i8 z2, .int .u8 b2] 24)) #[.int .i8 x3, .int .i8 y3, .int .i8 z3, .int .u8 b3] 24
  rw [show ((w.alloc (Obj.cells #[.int .i8 x1, .int .i8 y1, .int .i8 z1, .int .u8 b1] 24)).alloc (Obj.cells #[.int .i8 x2, .int .i8 y2, .int .i8 z2, .int .u8 b2] 24)).heap.size = w.heap.size + 2 from by simp] at k2
  have jb0 : Below w.heap.size w (((w.alloc (Obj.cells #[.int .i8 x1, .int .i8 y1, .int .i8 z1, .int .u8 b1] 24)).alloc (Obj.cells #[.int .i8 x2, .int .i8 y2, .int .i8 z2, .int .u8 b2] 24)).alloc (Obj.cells #[.int .i8 x3, .int .i8 y3, .int .i8 z3, .int .u8 b3] 24)) := ((((Below.refl _ _).alloc (Nat.le_refl _) _).alloc (by simp; try omega) _).alloc (by simp; try omega) _)
  have K0 := Lib.hid k0
  have K1 := Lib.hid k1
  have K2 := Lib.hid k2
  have B := Lib.hid jb0
  clear jb0 k0 k1 k2
  go_enter Tryz.func5, Tryz.ntmps5
  go_upto_region 1 with (fail)
  generalize (((w.alloc (Obj.cells #[.int .i8 x1, .int .i8 y1, .int .i8 z1, .int .u8 b1] 24)).alloc (Obj.cells #[.int .i8 x2, .int .i8 y2, .int .i8 z2, .int .u8 b2] 24)).alloc (Obj.cells #[.int .i8 x3, .int .i8 y3, .int .i8 z3, .int .u8 b3] 24)) = W0 at *
  have c0_0 := K0.out.at_ 0 _ rfl
  have c0_1 := K0.out.at_ 1 _ rfl
  have c0_2 := K0.out.at_ 2 _ rfl
  have c0_3 := K0.out.at_ 3 _ rfl
  have c1_0 := K1.out.at_ 0 _ rfl
  have c1_1 := K1.out.at_ 1 _ rfl
  have c1_2 := K1.out.at_ 2 _ rfl
  have c1_3 := K1.out.at_ 3 _ rfl
  have c2_0 := K2.out.at_ 0 _ rfl
  have c2_1 := K2.out.at_ 1 _ rfl
  have c2_2 := K2.out.at_ 2 _ rfl
  have c2_3 := K2.out.at_ 3 _ rfl
  go_wp2_with (
   (first
    | (go_at_call 12; with_reducible refine (KN.out _ (baseI B.out)).mono ?_)
    | (go_at_call 14; with_reducible refine (I1.out _ (baseI B.out)).mono ?_)
    | (go_at_call 13; with_reducible refine (S1.out _ (baseI B.out)).mono ?_)
    | fail "arm"); rintro e wx ⟨rfl, q⟩; replace K0 := Lib.hid (K0.out.nearI q); replace K1 := Lib.hid (K1.out.nearI q); replace K2 := Lib.hid (K2.out.nearI q); replace B := Lib.hid (goI B.out q); clear q; replace c0_0 := K0.out.at_ 0 _ rfl; replace c0_1 := K0.out.at_ 1 _ rfl; replace c0_2 := K0.out.at_ 2 _ rfl; replace c0_3 := K0.out.at_ 3 _ rfl; replace c1_0 := K1.out.at_ 0 _ rfl; replace c1_1 := K1.out.at_ 1 _ rfl; replace c1_2 := K1.out.at_ 2 _ rfl; replace c1_3 := K1.out.at_ 3 _ rfl; replace c2_0 := K2.out.at_ 0 _ rfl; replace c2_1 := K2.out.at_ 1 _ rfl; replace c2_2 := K2.out.at_ 2 _ rfl; replace c2_3 := K2.out.at_ 3 _ rfl)
  go_ret
  exact ⟨rfl, B.out⟩

set_option maxRecDepth 100000 in
set_option maxHeartbeats 4000000 in
theorem planes_z2 (x1 y1 z1 b1 x2 y2 z2 b2 x3 y3 z3 b3 p1 p2 p3 q1 q2 q3 : Int) (w : World)
    (kn : ∀ W, Below w.heap.size w W → Calls Tryz.prog 12 #[] W fun e w' => e = .returned (.bool true) ∧ Below W.heap.size W w')
    (i1 : ∀ W, Below w.heap.size w W → Calls Tryz.prog 14 #[.agg #[.int .i8 x1, .int .i8 y1, .int .i8 z1, .int .u8 b1]] W fun e w' => e = .returned (.agg #[.int .i64 p1, .int .i64 p2, .int .i64 p3]) ∧ Below W.heap.size W w')
    (s1 : ∀ W, Below w.heap.size w W → Calls Tryz.prog 13 #[.agg #[.int .i64 p1, .int .i64 p2, .int .i64 p3]] W fun e w' => e = .returned (.bool false) ∧ Below W.heap.size W w')
    (i2 : ∀ W, Below w.heap.size w W → Calls Tryz.prog 14 #[.agg #[.int .i8 x2, .int .i8 y2, .int .i8 z2, .int .u8 b2]] W fun e w' => e = .returned (.agg #[.int .i64 q1, .int .i64 q2, .int .i64 q3]) ∧ Below W.heap.size W w')
    (s2 : ∀ W, Below w.heap.size w W → Calls Tryz.prog 13 #[.agg #[.int .i64 q1, .int .i64 q2, .int .i64 q3]] W fun e w' => e = .returned (.bool true) ∧ Below W.heap.size W w') :
    Calls Tryz.prog 5 #[.agg #[.int .i8 x1, .int .i8 y1, .int .i8 z1, .int .u8 b1], .agg #[.int .i8 x2, .int .i8 y2, .int .i8 z2, .int .u8 b2], .agg #[.int .i8 x3, .int .i8 y3, .int .i8 z3, .int .u8 b3]] w fun e w' => e = .returned (.bool true) ∧ Below w.heap.size w w' := by
  have KN := Lib.hid kn
  have I1 := Lib.hid i1
  have S1 := Lib.hid s1
  have I2 := Lib.hid i2
  have S2 := Lib.hid s2
  clear kn i1 s1 i2 s2
  have k0 := Blk.fresh w #[.int .i8 x1, .int .i8 y1, .int .i8 z1, .int .u8 b1] 24
  replace k0 := k0.alloc (Obj.cells #[.int .i8 x2, .int .i8 y2, .int .i8 z2, .int .u8 b2] 24)
  replace k0 := k0.alloc (Obj.cells #[.int .i8 x3, .int .i8 y3, .int .i8 z3, .int .u8 b3] 24)
  have k1 := Blk.fresh (w.alloc (Obj.cells #[.int .i8 x1, .int .i8 y1, .int .i8 z1, .int .u8 b1] 24)) #[.int .i8 x2, .int .i8 y2, .int .i8 z2, .int .u8 b2] 24
  rw [show (w.alloc (Obj.cells #[.int .i8 x1, .int .i8 y1, .int .i8 z1, .int .u8 b1] 24)).heap.size = w.heap.size + 1 from World.size_alloc ..] at k1
  replace k1 := k1.alloc (Obj.cells #[.int .i8 x3, .int .i8 y3, .int .i8 z3, .int .u8 b3] 24)
  have k2 := Blk.fresh ((w.alloc (Obj.cells #[.int .i8 x1, .int .i8 y1, .int .i8 z1, .int .u8 b1] 24)).alloc (Obj.cells #[.int .i8 x2, .int .i8 y2, .int .i8 z2, .int .u8 b2] 24)) #[.int .i8 x3, .int .i8 y3, .int .i8 z3, .int .u8 b3] 24
  rw [show ((w.alloc (Obj.cells #[.int .i8 x1, .int .i8 y1, .int .i8 z1, .int .u8 b1] 24)).alloc (Obj.cells #[.int .i8 x2, .int .i8 y2, .int .i8 z2, .int .u8 b2] 24)).heap.size = w.heap.size + 2 from by simp] at k2
  have jb0 : Below w.heap.size w (((w.alloc (Obj.cells #[.int .i8 x1, .int .i8 y1, .int .i8 z1, .int .u8 b1] 24)).alloc (Obj.cells #[.int .i8 x2, .int .i8 y2, .int .i8 z2, .int .u8 b2] 24)).alloc (Obj.cells #[.int .i8 x3, .int .i8 y3, .int .i8 z3, .int .u8 b3] 24)) := ((((Below.refl _ _).alloc (Nat.le_refl _) _).alloc (by simp; try omega) _).alloc (by simp; try omega) _)
  have K0 := Lib.hid k0
  have K1 := Lib.hid k1
  have K2 := Lib.hid k2
  have B := Lib.hid jb0
  clear jb0 k0 k1 k2
  go_enter Tryz.func5, Tryz.ntmps5
  go_upto_region 1 with (fail)
  generalize (((w.alloc (Obj.cells #[.int .i8 x1, .int .i8 y1, .int .i8 z1, .int .u8 b1] 24)).alloc (Obj.cells #[.int .i8 x2, .int .i8 y2, .int .i8 z2, .int .u8 b2] 24)).alloc (Obj.cells #[.int .i8 x3, .int .i8 y3, .int .i8 z3, .int .u8 b3] 24)) = W0 at *
  have c0_0 := K0.out.at_ 0 _ rfl
  have c0_1 := K0.out.at_ 1 _ rfl
  have c0_2 := K0.out.at_ 2 _ rfl
  have c0_3 := K0.out.at_ 3 _ rfl
  have c1_0 := K1.out.at_ 0 _ rfl
  have c1_1 := K1.out.at_ 1 _ rfl
  have c1_2 := K1.out.at_ 2 _ rfl
  have c1_3 := K1.out.at_ 3 _ rfl
  have c2_0 := K2.out.at_ 0 _ rfl
  have c2_1 := K2.out.at_ 1 _ rfl
  have c2_2 := K2.out.at_ 2 _ rfl
  have c2_3 := K2.out.at_ 3 _ rfl
  go_wp2_with (
   (first
    | (go_at_call 12; with_reducible refine (KN.out _ (baseI B.out)).mono ?_)
    | (go_at_call 14; with_reducible refine (I1.out _ (baseI B.out)).mono ?_)
    | (go_at_call 13; with_reducible refine (S1.out _ (baseI B.out)).mono ?_)
    | (go_at_call 14; with_reducible refine (I2.out _ (baseI B.out)).mono ?_)
    | (go_at_call 13; with_reducible refine (S2.out _ (baseI B.out)).mono ?_)
    | fail "arm"); rintro e wx ⟨rfl, q⟩; replace K0 := Lib.hid (K0.out.nearI q); replace K1 := Lib.hid (K1.out.nearI q); replace K2 := Lib.hid (K2.out.nearI q); replace B := Lib.hid (goI B.out q); clear q; replace c0_0 := K0.out.at_ 0 _ rfl; replace c0_1 := K0.out.at_ 1 _ rfl; replace c0_2 := K0.out.at_ 2 _ rfl; replace c0_3 := K0.out.at_ 3 _ rfl; replace c1_0 := K1.out.at_ 0 _ rfl; replace c1_1 := K1.out.at_ 1 _ rfl; replace c1_2 := K1.out.at_ 2 _ rfl; replace c1_3 := K1.out.at_ 3 _ rfl; replace c2_0 := K2.out.at_ 0 _ rfl; replace c2_1 := K2.out.at_ 1 _ rfl; replace c2_2 := K2.out.at_ 2 _ rfl; replace c2_3 := K2.out.at_ 3 _ rfl)
  go_ret
  exact ⟨rfl, B.out⟩

set_option maxRecDepth 100000 in
set_option maxHeartbeats 4000000 in
theorem planes_z3 (x1 y1 z1 b1 x2 y2 z2 b2 x3 y3 z3 b3 p1 p2 p3 q1 q2 q3 r1 r2 r3 : Int) (w : World)
    (kn : ∀ W, Below w.heap.size w W → Calls Tryz.prog 12 #[] W fun e w' => e = .returned (.bool true) ∧ Below W.heap.size W w')
    (i1 : ∀ W, Below w.heap.size w W → Calls Tryz.prog 14 #[.agg #[.int .i8 x1, .int .i8 y1, .int .i8 z1, .int .u8 b1]] W fun e w' => e = .returned (.agg #[.int .i64 p1, .int .i64 p2, .int .i64 p3]) ∧ Below W.heap.size W w')
    (s1 : ∀ W, Below w.heap.size w W → Calls Tryz.prog 13 #[.agg #[.int .i64 p1, .int .i64 p2, .int .i64 p3]] W fun e w' => e = .returned (.bool false) ∧ Below W.heap.size W w')
    (i2 : ∀ W, Below w.heap.size w W → Calls Tryz.prog 14 #[.agg #[.int .i8 x2, .int .i8 y2, .int .i8 z2, .int .u8 b2]] W fun e w' => e = .returned (.agg #[.int .i64 q1, .int .i64 q2, .int .i64 q3]) ∧ Below W.heap.size W w')
    (s2 : ∀ W, Below w.heap.size w W → Calls Tryz.prog 13 #[.agg #[.int .i64 q1, .int .i64 q2, .int .i64 q3]] W fun e w' => e = .returned (.bool false) ∧ Below W.heap.size W w')
    (i3 : ∀ W, Below w.heap.size w W → Calls Tryz.prog 14 #[.agg #[.int .i8 x3, .int .i8 y3, .int .i8 z3, .int .u8 b3]] W fun e w' => e = .returned (.agg #[.int .i64 r1, .int .i64 r2, .int .i64 r3]) ∧ Below W.heap.size W w')
    (s3 : ∀ W, Below w.heap.size w W → Calls Tryz.prog 13 #[.agg #[.int .i64 r1, .int .i64 r2, .int .i64 r3]] W fun e w' => e = .returned (.bool true) ∧ Below W.heap.size W w') :
    Calls Tryz.prog 5 #[.agg #[.int .i8 x1, .int .i8 y1, .int .i8 z1, .int .u8 b1], .agg #[.int .i8 x2, .int .i8 y2, .int .i8 z2, .int .u8 b2], .agg #[.int .i8 x3, .int .i8 y3, .int .i8 z3, .int .u8 b3]] w fun e w' => e = .returned (.bool true) ∧ Below w.heap.size w w' := by
  have KN := Lib.hid kn
  have I1 := Lib.hid i1
  have S1 := Lib.hid s1
  have I2 := Lib.hid i2
  have S2 := Lib.hid s2
  have I3 := Lib.hid i3
  have S3 := Lib.hid s3
  clear kn i1 s1 i2 s2 i3 s3
  have k0 := Blk.fresh w #[.int .i8 x1, .int .i8 y1, .int .i8 z1, .int .u8 b1] 24
  replace k0 := k0.alloc (Obj.cells #[.int .i8 x2, .int .i8 y2, .int .i8 z2, .int .u8 b2] 24)
  replace k0 := k0.alloc (Obj.cells #[.int .i8 x3, .int .i8 y3, .int .i8 z3, .int .u8 b3] 24)
  have k1 := Blk.fresh (w.alloc (Obj.cells #[.int .i8 x1, .int .i8 y1, .int .i8 z1, .int .u8 b1] 24)) #[.int .i8 x2, .int .i8 y2, .int .i8 z2, .int .u8 b2] 24
  rw [show (w.alloc (Obj.cells #[.int .i8 x1, .int .i8 y1, .int .i8 z1, .int .u8 b1] 24)).heap.size = w.heap.size + 1 from World.size_alloc ..] at k1
  replace k1 := k1.alloc (Obj.cells #[.int .i8 x3, .int .i8 y3, .int .i8 z3, .int .u8 b3] 24)
  have k2 := Blk.fresh ((w.alloc (Obj.cells #[.int .i8 x1, .int .i8 y1, .int .i8 z1, .int .u8 b1] 24)).alloc (Obj.cells #[.int .i8 x2, .int .i8 y2, .int .i8 z2, .int .u8 b2] 24)) #[.int .i8 x3, .int .i8 y3, .int .i8 z3, .int .u8 b3] 24
  rw [show ((w.alloc (Obj.cells #[.int .i8 x1, .int .i8 y1, .int .i8 z1, .int .u8 b1] 24)).alloc (Obj.cells #[.int .i8 x2, .int .i8 y2, .int .i8 z2, .int .u8 b2] 24)).heap.size = w.heap.size + 2 from by simp] at k2
  have jb0 : Below w.heap.size w (((w.alloc (Obj.cells #[.int .i8 x1, .int .i8 y1, .int .i8 z1, .int .u8 b1] 24)).alloc (Obj.cells #[.int .i8 x2, .int .i8 y2, .int .i8 z2, .int .u8 b2] 24)).alloc (Obj.cells #[.int .i8 x3, .int .i8 y3, .int .i8 z3, .int .u8 b3] 24)) := ((((Below.refl _ _).alloc (Nat.le_refl _) _).alloc (by simp; try omega) _).alloc (by simp; try omega) _)
  have K0 := Lib.hid k0
  have K1 := Lib.hid k1
  have K2 := Lib.hid k2
  have B := Lib.hid jb0
  clear jb0 k0 k1 k2
  go_enter Tryz.func5, Tryz.ntmps5
  go_upto_region 1 with (fail)
  generalize (((w.alloc (Obj.cells #[.int .i8 x1, .int .i8 y1, .int .i8 z1, .int .u8 b1] 24)).alloc (Obj.cells #[.int .i8 x2, .int .i8 y2, .int .i8 z2, .int .u8 b2] 24)).alloc (Obj.cells #[.int .i8 x3, .int .i8 y3, .int .i8 z3, .int .u8 b3] 24)) = W0 at *
  have c0_0 := K0.out.at_ 0 _ rfl
  have c0_1 := K0.out.at_ 1 _ rfl
  have c0_2 := K0.out.at_ 2 _ rfl
  have c0_3 := K0.out.at_ 3 _ rfl
  have c1_0 := K1.out.at_ 0 _ rfl
  have c1_1 := K1.out.at_ 1 _ rfl
  have c1_2 := K1.out.at_ 2 _ rfl
  have c1_3 := K1.out.at_ 3 _ rfl
  have c2_0 := K2.out.at_ 0 _ rfl
  have c2_1 := K2.out.at_ 1 _ rfl
  have c2_2 := K2.out.at_ 2 _ rfl
  have c2_3 := K2.out.at_ 3 _ rfl
  go_wp2_with (
   (first
    | (go_at_call 12; with_reducible refine (KN.out _ (baseI B.out)).mono ?_)
    | (go_at_call 14; with_reducible refine (I1.out _ (baseI B.out)).mono ?_)
    | (go_at_call 13; with_reducible refine (S1.out _ (baseI B.out)).mono ?_)
    | (go_at_call 14; with_reducible refine (I2.out _ (baseI B.out)).mono ?_)
    | (go_at_call 13; with_reducible refine (S2.out _ (baseI B.out)).mono ?_)
    | (go_at_call 14; with_reducible refine (I3.out _ (baseI B.out)).mono ?_)
    | (go_at_call 13; with_reducible refine (S3.out _ (baseI B.out)).mono ?_)
    | fail "arm"); rintro e wx ⟨rfl, q⟩; replace K0 := Lib.hid (K0.out.nearI q); replace K1 := Lib.hid (K1.out.nearI q); replace K2 := Lib.hid (K2.out.nearI q); replace B := Lib.hid (goI B.out q); clear q; replace c0_0 := K0.out.at_ 0 _ rfl; replace c0_1 := K0.out.at_ 1 _ rfl; replace c0_2 := K0.out.at_ 2 _ rfl; replace c0_3 := K0.out.at_ 3 _ rfl; replace c1_0 := K1.out.at_ 0 _ rfl; replace c1_1 := K1.out.at_ 1 _ rfl; replace c1_2 := K1.out.at_ 2 _ rfl; replace c1_3 := K1.out.at_ 3 _ rfl; replace c2_0 := K2.out.at_ 0 _ rfl; replace c2_1 := K2.out.at_ 1 _ rfl; replace c2_2 := K2.out.at_ 2 _ rfl; replace c2_3 := K2.out.at_ 3 _ rfl)
  go_ret
  exact ⟨rfl, B.out⟩

set_option maxRecDepth 100000 in
set_option maxHeartbeats 40000000 in
theorem planes_ok (x1 y1 z1 b1 x2 y2 z2 b2 x3 y3 z3 b3 p1 p2 p3 q1 q2 q3 r1 r2 r3 k1 k2 k3 m1 m2 m3 d eo f g h n : Int) (A1 A2 A3 C1 C2 C3 D1 D2 D3 P1 P2 P3 R : ByteArray) (b : Bool) (w : World)
    (hb : (d == 0) = b)
    (hx : (P1 = ⟨#[]⟩ ∧ P2 = ⟨#[]⟩ ∧ P3 = ⟨#[]⟩ ∧ eo = 18 ∧ (∀ W, Below w.heap.size w W → Calls Tryz.prog 13 #[.agg #[.int .i64 k1, .int .i64 k2, .int .i64 k3]] W fun e w' => e = .returned (.bool true) ∧ Below W.heap.size W w')) ∨ (eo = 0 ∧ (∀ W, Below w.heap.size w W → Calls Tryz.prog 13 #[.agg #[.int .i64 k1, .int .i64 k2, .int .i64 k3]] W fun e w' => e = .returned (.bool false) ∧ Below W.heap.size W w') ∧ (∀ W, Below w.heap.size w W → Calls Tryz.prog 21 #[.agg #[.int .i64 k1, .int .i64 k2, .int .i64 k3]] W fun e w' => e = .returned (.agg #[.int .i64 m1, .int .i64 m2, .int .i64 m3]) ∧ Below W.heap.size W w') ∧ (∀ W, Below w.heap.size w W → Calls Tryz.prog 20 #[.agg #[.int .i64 m1, .int .i64 m2, .int .i64 m3]] W fun e w' => e = .returned (.agg #[.string P1, .string P2, .string P3]) ∧ Below W.heap.size W w')))
    (hy : (p1 = 0 ∧ p2 = 0 ∧ R = ⟨#[]⟩ ∧ g = 19) ∨ ((((p1 == 0) = false) ∨ ((p1 == 0) = true ∧ (p2 == 0) = false)) ∧ (d != 0) = true ∧ R = ⟨#[]⟩ ∧ g = 7) ∨ ((((p1 == 0) = false) ∨ ((p1 == 0) = true ∧ (p2 == 0) = false)) ∧ (d != 0) = false ∧ g = 0 ∧ IntKind.i64.wrap (-p2) = -p2 ∧ IntKind.i64.wrap (f * f) = f * f ∧ IntKind.i64.wrap (n * h) = n * h ∧ (∀ W, Below w.heap.size w W → Calls Tryz.prog 17 #[.agg #[.int .i64 (-p2), .int .i64 p1, .int .i64 0], .agg #[.int .i64 r1, .int .i64 r2, .int .i64 r3]] W fun e w' => e = .returned (.int .i64 f) ∧ Below W.heap.size W w') ∧ (∀ W, Below w.heap.size w W → Calls Tryz.prog 17 #[.agg #[.int .i64 (-p2), .int .i64 p1, .int .i64 0], .agg #[.int .i64 (-p2), .int .i64 p1, .int .i64 0]] W fun e w' => e = .returned (.int .i64 n) ∧ Below W.heap.size W w') ∧ (∀ W, Below w.heap.size w W → Calls Tryz.prog 17 #[.agg #[.int .i64 r1, .int .i64 r2, .int .i64 r3], .agg #[.int .i64 r1, .int .i64 r2, .int .i64 r3]] W fun e w' => e = .returned (.int .i64 h) ∧ Below W.heap.size W w') ∧ (∀ W, Below w.heap.size w W → Calls Tryz.prog 26 #[.int .i64 (f * f), .int .i64 (n * h)] W fun e w' => e = .returned (.string R) ∧ Below W.heap.size W w')))
    (kn : ∀ W, Below w.heap.size w W → Calls Tryz.prog 12 #[] W fun e w' => e = .returned (.bool true) ∧ Below W.heap.size W w')
    (i1 : ∀ W, Below w.heap.size w W → Calls Tryz.prog 14 #[.agg #[.int .i8 x1, .int .i8 y1, .int .i8 z1, .int .u8 b1]] W fun e w' => e = .returned (.agg #[.int .i64 p1, .int .i64 p2, .int .i64 p3]) ∧ Below W.heap.size W w')
    (s1 : ∀ W, Below w.heap.size w W → Calls Tryz.prog 13 #[.agg #[.int .i64 p1, .int .i64 p2, .int .i64 p3]] W fun e w' => e = .returned (.bool false) ∧ Below W.heap.size W w')
    (i2 : ∀ W, Below w.heap.size w W → Calls Tryz.prog 14 #[.agg #[.int .i8 x2, .int .i8 y2, .int .i8 z2, .int .u8 b2]] W fun e w' => e = .returned (.agg #[.int .i64 q1, .int .i64 q2, .int .i64 q3]) ∧ Below W.heap.size W w')
    (s2 : ∀ W, Below w.heap.size w W → Calls Tryz.prog 13 #[.agg #[.int .i64 q1, .int .i64 q2, .int .i64 q3]] W fun e w' => e = .returned (.bool false) ∧ Below W.heap.size W w')
    (i3 : ∀ W, Below w.heap.size w W → Calls Tryz.prog 14 #[.agg #[.int .i8 x3, .int .i8 y3, .int .i8 z3, .int .u8 b3]] W fun e w' => e = .returned (.agg #[.int .i64 r1, .int .i64 r2, .int .i64 r3]) ∧ Below W.heap.size W w')
    (s3 : ∀ W, Below w.heap.size w W → Calls Tryz.prog 13 #[.agg #[.int .i64 r1, .int .i64 r2, .int .i64 r3]] W fun e w' => e = .returned (.bool false) ∧ Below W.heap.size W w')
    (m1 : ∀ W, Below w.heap.size w W → Calls Tryz.prog 16 #[.agg #[.int .i8 x1, .int .i8 y1, .int .i8 z1, .int .u8 b1]] W fun e w' => e = .returned (.agg #[.string A1, .string A2, .string A3]) ∧ Below W.heap.size W w')
    (m2 : ∀ W, Below w.heap.size w W → Calls Tryz.prog 16 #[.agg #[.int .i8 x2, .int .i8 y2, .int .i8 z2, .int .u8 b2]] W fun e w' => e = .returned (.agg #[.string C1, .string C2, .string C3]) ∧ Below W.heap.size W w')
    (m3 : ∀ W, Below w.heap.size w W → Calls Tryz.prog 16 #[.agg #[.int .i8 x3, .int .i8 y3, .int .i8 z3, .int .u8 b3]] W fun e w' => e = .returned (.agg #[.string D1, .string D2, .string D3]) ∧ Below W.heap.size W w')
    (o1 : ∀ W, Below w.heap.size w W → Calls Tryz.prog 22 #[.agg #[.string A1, .string A2, .string A3], .agg #[.string D1, .string D2, .string D3]] W fun e w' => e = .returned (.tuple #[.bool b, .int .i64 0]) ∧ Below W.heap.size W w')
    (o2 : ∀ W, Below w.heap.size w W → Calls Tryz.prog 23 #[.agg #[.string A1, .string A2, .string A3], .agg #[.string C1, .string C2, .string C3]] W fun e w' => e = .returned (.tuple #[.agg #[.string P1, .string P2, .string P3], .int .i64 eo]) ∧ Below W.heap.size W w')
    (o3 : ∀ W, Below w.heap.size w W → Calls Tryz.prog 24 #[.agg #[.string A1, .string A2, .string A3], .agg #[.string D1, .string D2, .string D3]] W fun e w' => e = .returned (.tuple #[.string R, .int .i64 g]) ∧ Below W.heap.size W w')
    (t1 : ∀ W, Below w.heap.size w W → Calls Tryz.prog 17 #[.agg #[.int .i64 p1, .int .i64 p2, .int .i64 p3], .agg #[.int .i64 r1, .int .i64 r2, .int .i64 r3]] W fun e w' => e = .returned (.int .i64 d) ∧ Below W.heap.size W w')
    (cr : ∀ W, Below w.heap.size w W → Calls Tryz.prog 25 #[.agg #[.int .i64 p1, .int .i64 p2, .int .i64 p3], .agg #[.int .i64 q1, .int .i64 q2, .int .i64 q3]] W fun e w' => e = .returned (.agg #[.int .i64 k1, .int .i64 k2, .int .i64 k3]) ∧ Below W.heap.size W w') :
    Calls Tryz.prog 5 #[.agg #[.int .i8 x1, .int .i8 y1, .int .i8 z1, .int .u8 b1], .agg #[.int .i8 x2, .int .i8 y2, .int .i8 z2, .int .u8 b2], .agg #[.int .i8 x3, .int .i8 y3, .int .i8 z3, .int .u8 b3]] w fun e w' => e = .returned (.bool true) ∧ Below w.heap.size w w' := by
  have KN := Lib.hid kn
  have I1 := Lib.hid i1
  have S1 := Lib.hid s1
  have I2 := Lib.hid i2
  have S2 := Lib.hid s2
  have I3 := Lib.hid i3
  have S3 := Lib.hid s3
  have M1 := Lib.hid m1
  have M2 := Lib.hid m2
  have M3 := Lib.hid m3
  have O1 := Lib.hid o1
  have O2 := Lib.hid o2
  have O3 := Lib.hid o3
  have T1 := Lib.hid t1
  have CR := Lib.hid cr
  clear kn i1 s1 i2 s2 i3 s3 m1 m2 m3 o1 o2 o3 t1 cr
  have k0 := Blk.fresh w #[.int .i8 x1, .int .i8 y1, .int .i8 z1, .int .u8 b1] 24
  replace k0 := k0.alloc (Obj.cells #[.int .i8 x2, .int .i8 y2, .int .i8 z2, .int .u8 b2] 24)
  replace k0 := k0.alloc (Obj.cells #[.int .i8 x3, .int .i8 y3, .int .i8 z3, .int .u8 b3] 24)
  have k1 := Blk.fresh (w.alloc (Obj.cells #[.int .i8 x1, .int .i8 y1, .int .i8 z1, .int .u8 b1] 24)) #[.int .i8 x2, .int .i8 y2, .int .i8 z2, .int .u8 b2] 24
  rw [show (w.alloc (Obj.cells #[.int .i8 x1, .int .i8 y1, .int .i8 z1, .int .u8 b1] 24)).heap.size = w.heap.size + 1 from World.size_alloc ..] at k1
  replace k1 := k1.alloc (Obj.cells #[.int .i8 x3, .int .i8 y3, .int .i8 z3, .int .u8 b3] 24)
  have k2 := Blk.fresh ((w.alloc (Obj.cells #[.int .i8 x1, .int .i8 y1, .int .i8 z1, .int .u8 b1] 24)).alloc (Obj.cells #[.int .i8 x2, .int .i8 y2, .int .i8 z2, .int .u8 b2] 24)) #[.int .i8 x3, .int .i8 y3, .int .i8 z3, .int .u8 b3] 24
  rw [show ((w.alloc (Obj.cells #[.int .i8 x1, .int .i8 y1, .int .i8 z1, .int .u8 b1] 24)).alloc (Obj.cells #[.int .i8 x2, .int .i8 y2, .int .i8 z2, .int .u8 b2] 24)).heap.size = w.heap.size + 2 from by simp] at k2
  have jb0 : Below w.heap.size w (((w.alloc (Obj.cells #[.int .i8 x1, .int .i8 y1, .int .i8 z1, .int .u8 b1] 24)).alloc (Obj.cells #[.int .i8 x2, .int .i8 y2, .int .i8 z2, .int .u8 b2] 24)).alloc (Obj.cells #[.int .i8 x3, .int .i8 y3, .int .i8 z3, .int .u8 b3] 24)) := ((((Below.refl _ _).alloc (Nat.le_refl _) _).alloc (by simp; try omega) _).alloc (by simp; try omega) _)
  have K0 := Lib.hid k0
  have K1 := Lib.hid k1
  have K2 := Lib.hid k2
  have B := Lib.hid jb0
  clear jb0 k0 k1 k2
  go_enter Tryz.func5, Tryz.ntmps5
  go_upto_region 1 with (fail)
  generalize (((w.alloc (Obj.cells #[.int .i8 x1, .int .i8 y1, .int .i8 z1, .int .u8 b1] 24)).alloc (Obj.cells #[.int .i8 x2, .int .i8 y2, .int .i8 z2, .int .u8 b2] 24)).alloc (Obj.cells #[.int .i8 x3, .int .i8 y3, .int .i8 z3, .int .u8 b3] 24)) = W0 at *
  have c0_0 := K0.out.at_ 0 _ rfl
  have c0_1 := K0.out.at_ 1 _ rfl
  have c0_2 := K0.out.at_ 2 _ rfl
  have c0_3 := K0.out.at_ 3 _ rfl
  have c1_0 := K1.out.at_ 0 _ rfl
  have c1_1 := K1.out.at_ 1 _ rfl
  have c1_2 := K1.out.at_ 2 _ rfl
  have c1_3 := K1.out.at_ 3 _ rfl
  have c2_0 := K2.out.at_ 0 _ rfl
  have c2_1 := K2.out.at_ 1 _ rfl
  have c2_2 := K2.out.at_ 2 _ rfl
  have c2_3 := K2.out.at_ 3 _ rfl
  go_upto_region 3 with (
   (first
    | (go_at_call 12; with_reducible refine (KN.out _ (baseI B.out)).mono ?_)
    | (go_at_call 14; with_reducible refine (I1.out _ (baseI B.out)).mono ?_)
    | (go_at_call 13; with_reducible refine (S1.out _ (baseI B.out)).mono ?_)
    | (go_at_call 14; with_reducible refine (I2.out _ (baseI B.out)).mono ?_)
    | (go_at_call 13; with_reducible refine (S2.out _ (baseI B.out)).mono ?_)
    | (go_at_call 14; with_reducible refine (I3.out _ (baseI B.out)).mono ?_)
    | (go_at_call 13; with_reducible refine (S3.out _ (baseI B.out)).mono ?_)
    | fail "arm"); rintro e wx ⟨rfl, q⟩; replace K0 := Lib.hid (K0.out.nearI q); replace K1 := Lib.hid (K1.out.nearI q); replace K2 := Lib.hid (K2.out.nearI q); replace B := Lib.hid (goI B.out q); clear q; replace c0_0 := K0.out.at_ 0 _ rfl; replace c0_1 := K0.out.at_ 1 _ rfl; replace c0_2 := K0.out.at_ 2 _ rfl; replace c0_3 := K0.out.at_ 3 _ rfl; replace c1_0 := K1.out.at_ 0 _ rfl; replace c1_1 := K1.out.at_ 1 _ rfl; replace c1_2 := K1.out.at_ 2 _ rfl; replace c1_3 := K1.out.at_ 3 _ rfl; replace c2_0 := K2.out.at_ 0 _ rfl; replace c2_1 := K2.out.at_ 1 _ rfl; replace c2_2 := K2.out.at_ 2 _ rfl; replace c2_3 := K2.out.at_ 3 _ rfl)
  clear c0_0 c0_1 c0_2 c0_3 c1_0 c1_1 c1_2 c1_3 c2_0 c2_1 c2_2 c2_3
  refine wp_region_par (by kernel_rfl) [36, 37, 38, 39, 40, 41, 7, 8, 9] (fun L σ W => Vals [some 36, some 37, some 38, some 39, some 40, some 41, none, none, none, none, none, none] [(.agg #[.int .i8 x1, .int .i8 y1, .int .i8 z1, .int .u8 b1]), (.agg #[.int .i64 p1, .int .i64 p2, .int .i64 p3]), (.agg #[.int .i8 x2, .int .i8 y2, .int .i8 z2, .int .u8 b2]), (.agg #[.int .i64 q1, .int .i64 q2, .int .i64 q3]), (.agg #[.int .i8 x3, .int .i8 y3, .int .i8 z3, .int .u8 b3]), (.agg #[.int .i64 r1, .int .i64 r2, .int .i64 r3]), undef, undef, undef, undef, undef, undef] L σ ∧ (L 6 → ∃ (g : Nat) (jy0 jy1 jy2 : Value), σ 7 = .pointer (some ⟨g, 0, none⟩) ∧ w.heap.size ≤ g ∧ Blk W g #[jy0, jy1, jy2] 27 ∧ (L 9 → #[jy0, jy1, jy2] = #[.int .i64 p1, .int .i64 p2, .int .i64 p3]) ∧ w.heap.size ≠ g ∧ w.heap.size + 1 ≠ g ∧ w.heap.size + 2 ≠ g) ∧ (L 7 → ∃ (g : Nat) (jy0 jy1 jy2 : Value), σ 8 = .pointer (some ⟨g, 0, none⟩) ∧ w.heap.size ≤ g ∧ Blk W g #[jy0, jy1, jy2] 27 ∧ (L 10 → #[jy0, jy1, jy2] = #[.int .i64 q1, .int .i64 q2, .int .i64 q3]) ∧ w.heap.size ≠ g ∧ w.heap.size + 1 ≠ g ∧ w.heap.size + 2 ≠ g) ∧ (L 8 → ∃ (g : Nat) (jy0 jy1 jy2 : Value), σ 9 = .pointer (some ⟨g, 0, none⟩) ∧ w.heap.size ≤ g ∧ Blk W g #[jy0, jy1, jy2] 27 ∧ (L 11 → #[jy0, jy1, jy2] = #[.int .i64 r1, .int .i64 r2, .int .i64 r3]) ∧ w.heap.size ≠ g ∧ w.heap.size + 1 ≠ g ∧ w.heap.size + 2 ≠ g) ∧ (L 9 → L 6) ∧ (L 10 → L 7) ∧ (L 11 → L 8) ∧ (L 6 → L 7 → σ 7 ≠ σ 8) ∧ (L 6 → L 8 → σ 7 ≠ σ 9) ∧ (L 7 → L 8 → σ 8 ≠ σ 9) ∧ Blk W (w.heap.size) #[.int .i8 x1, .int .i8 y1, .int .i8 z1, .int .u8 b1] 24 ∧ Blk W (w.heap.size + 1) #[.int .i8 x2, .int .i8 y2, .int .i8 z2, .int .u8 b2] 24 ∧ Blk W (w.heap.size + 2) #[.int .i8 x3, .int .i8 y3, .int .i8 z3, .int .u8 b3] 24 ∧ Below w.heap.size w W) (by kernel_rfl) (by kernel_rfl) (by kernel_rfl) ?_ ?_ ?_
  · exact fun σ => ⟨Vals.start, fun h => h.elim, fun h => h.elim, fun h => h.elim, fun h => h.elim, fun h => h.elim, fun h => h.elim, fun h => h.elim, fun h => h.elim, fun h => h.elim, K0.out.below (Below.refl _ _).drew, K1.out.below (Below.refl _ _).drew, K2.out.below (Below.refl _ _).drew, B.out.drew⟩
  · refine ⟨?_, ?_, ?_, ?_, ?_, ?_, ?_, ?_, ?_, ?_, ?_, ?_, trivial⟩
    · rintro L a W ho ⟨V, jf6, jf7, jf8, js9, js10, js11, jn6_7, jn6_8, jn7_8, jb0, jb1, jb2, bb⟩ hn hd K hK
      clear hd
      refine Wants.free rfl ?_
      have jr3 : a.tmps[(3 : Nat)]?.getD undef = .pointer (some ⟨w.heap.size, 0, none⟩) := ho.slot 3 rfl
      have jc0 := jb0.at_ 0 _ rfl
      have jc1 := jb0.at_ 1 _ rfl
      have jc2 := jb0.at_ 2 _ rfl
      have jc3 := jb0.at_ 3 _ rfl
      go_simp
      exact hK.out (.agg #[.int .i8 x1, .int .i8 y1, .int .i8 z1, .int .u8 b1]) _ ⟨V.set 0 _ _ rfl rfl rfl, fun h => (by obtain ⟨jg, ju0, ju1, ju2, je1, je2, je3, je4, jne0, jne1, jne2⟩ := old jf6 rfl h; exact ⟨jg, _, _, _, je1, je2, je3, fun h => je4 (h.resolve_right (by decide)), jne0, jne1, jne2⟩), fun h => (by obtain ⟨jg, ju0, ju1, ju2, je1, je2, je3, je4, jne0, jne1, jne2⟩ := old jf7 rfl h; exact ⟨jg, _, _, _, je1, je2, je3, fun h => je4 (h.resolve_right (by decide)), jne0, jne1, jne2⟩), fun h => (by obtain ⟨jg, ju0, ju1, ju2, je1, je2, je3, je4, jne0, jne1, jne2⟩ := old jf8 rfl h; exact ⟨jg, _, _, _, je1, je2, je3, fun h => je4 (h.resolve_right (by decide)), jne0, jne1, jne2⟩), fun h => .inl (old js9 rfl h), fun h => .inl (old js10 rfl h), fun h => .inl (old js11 rfl h), fun h h2 => jn6_7 (h.resolve_right (by decide)) (h2.resolve_right (by decide)), fun h h2 => jn6_8 (h.resolve_right (by decide)) (h2.resolve_right (by decide)), fun h h2 => jn7_8 (h.resolve_right (by decide)) (h2.resolve_right (by decide)), jb0, jb1, jb2, bb⟩
    · rintro L a W ho ⟨V, jf6, jf7, jf8, js9, js10, js11, jn6_7, jn6_8, jn7_8, jb0, jb1, jb2, bb⟩ hn hd K hK
      have jh0 := hd.get 0 rfl
      clear hd
      refine Wants.free rfl ?_
      have jr36 := V.read 0 rfl rfl jh0
      go_simp
      go_at_call 14
      with_reducible refine (I1.out _ bb).mono ?_
      rintro e wx ⟨rfl, q⟩
      go_simp
      exact hK.out (.agg #[.int .i64 p1, .int .i64 p2, .int .i64 p3]) _ ⟨V.set 1 _ _ rfl rfl rfl, fun h => (by obtain ⟨jg, ju0, ju1, ju2, je1, je2, je3, je4, jne0, jne1, jne2⟩ := old jf6 rfl h; exact ⟨jg, _, _, _, je1, je2, je3.below q, fun h => je4 (h.resolve_right (by decide)), jne0, jne1, jne2⟩), fun h => (by obtain ⟨jg, ju0, ju1, ju2, je1, je2, je3, je4, jne0, jne1, jne2⟩ := old jf7 rfl h; exact ⟨jg, _, _, _, je1, je2, je3.below q, fun h => je4 (h.resolve_right (by decide)), jne0, jne1, jne2⟩), fun h => (by obtain ⟨jg, ju0, ju1, ju2, je1, je2, je3, je4, jne0, jne1, jne2⟩ := old jf8 rfl h; exact ⟨jg, _, _, _, je1, je2, je3.below q, fun h => je4 (h.resolve_right (by decide)), jne0, jne1, jne2⟩), fun h => .inl (old js9 rfl h), fun h => .inl (old js10 rfl h), fun h => .inl (old js11 rfl h), fun h h2 => jn6_7 (h.resolve_right (by decide)) (h2.resolve_right (by decide)), fun h h2 => jn6_8 (h.resolve_right (by decide)) (h2.resolve_right (by decide)), fun h h2 => jn7_8 (h.resolve_right (by decide)) (h2.resolve_right (by decide)), jb0.below q, jb1.below q, jb2.below q, bb.trans (q.mono bb.size)⟩
    · rintro L a W ho ⟨V, jf6, jf7, jf8, js9, js10, js11, jn6_7, jn6_8, jn7_8, jb0, jb1, jb2, bb⟩ hn hd K hK
      clear hd
      refine Wants.free rfl ?_
      have jr4 : a.tmps[(4 : Nat)]?.getD undef = .pointer (some ⟨w.heap.size + 1, 0, none⟩) := ho.slot 4 rfl
      have jc0 := jb1.at_ 0 _ rfl
      have jc1 := jb1.at_ 1 _ rfl
      have jc2 := jb1.at_ 2 _ rfl
      have jc3 := jb1.at_ 3 _ rfl
      go_simp
      exact hK.out (.agg #[.int .i8 x2, .int .i8 y2, .int .i8 z2, .int .u8 b2]) _ ⟨V.set 2 _ _ rfl rfl rfl, fun h => (by obtain ⟨jg, ju0, ju1, ju2, je1, je2, je3, je4, jne0, jne1, jne2⟩ := old jf6 rfl h; exact ⟨jg, _, _, _, je1, je2, je3, fun h => je4 (h.resolve_right (by decide)), jne0, jne1, jne2⟩), fun h => (by obtain ⟨jg, ju0, ju1, ju2, je1, je2, je3, je4, jne0, jne1, jne2⟩ := old jf7 rfl h; exact ⟨jg, _, _, _, je1, je2, je3, fun h => je4 (h.resolve_right (by decide)), jne0, jne1, jne2⟩), fun h => (by obtain ⟨jg, ju0, ju1, ju2, je1, je2, je3, je4, jne0, jne1, jne2⟩ := old jf8 rfl h; exact ⟨jg, _, _, _, je1, je2, je3, fun h => je4 (h.resolve_right (by decide)), jne0, jne1, jne2⟩), fun h => .inl (old js9 rfl h), fun h => .inl (old js10 rfl h), fun h => .inl (old js11 rfl h), fun h h2 => jn6_7 (h.resolve_right (by decide)) (h2.resolve_right (by decide)), fun h h2 => jn6_8 (h.resolve_right (by decide)) (h2.resolve_right (by decide)), fun h h2 => jn7_8 (h.resolve_right (by decide)) (h2.resolve_right (by decide)), jb0, jb1, jb2, bb⟩
    · rintro L a W ho ⟨V, jf6, jf7, jf8, js9, js10, js11, jn6_7, jn6_8, jn7_8, jb0, jb1, jb2, bb⟩ hn hd K hK
      have jh2 := hd.get 2 rfl
      clear hd
      refine Wants.free rfl ?_
      have jr38 := V.read 2 rfl rfl jh2
      go_simp
      go_at_call 14
      with_reducible refine (I2.out _ bb).mono ?_
      rintro e wx ⟨rfl, q⟩
      go_simp
      exact hK.out (.agg #[.int .i64 q1, .int .i64 q2, .int .i64 q3]) _ ⟨V.set 3 _ _ rfl rfl rfl, fun h => (by obtain ⟨jg, ju0, ju1, ju2, je1, je2, je3, je4, jne0, jne1, jne2⟩ := old jf6 rfl h; exact ⟨jg, _, _, _, je1, je2, je3.below q, fun h => je4 (h.resolve_right (by decide)), jne0, jne1, jne2⟩), fun h => (by obtain ⟨jg, ju0, ju1, ju2, je1, je2, je3, je4, jne0, jne1, jne2⟩ := old jf7 rfl h; exact ⟨jg, _, _, _, je1, je2, je3.below q, fun h => je4 (h.resolve_right (by decide)), jne0, jne1, jne2⟩), fun h => (by obtain ⟨jg, ju0, ju1, ju2, je1, je2, je3, je4, jne0, jne1, jne2⟩ := old jf8 rfl h; exact ⟨jg, _, _, _, je1, je2, je3.below q, fun h => je4 (h.resolve_right (by decide)), jne0, jne1, jne2⟩), fun h => .inl (old js9 rfl h), fun h => .inl (old js10 rfl h), fun h => .inl (old js11 rfl h), fun h h2 => jn6_7 (h.resolve_right (by decide)) (h2.resolve_right (by decide)), fun h h2 => jn6_8 (h.resolve_right (by decide)) (h2.resolve_right (by decide)), fun h h2 => jn7_8 (h.resolve_right (by decide)) (h2.resolve_right (by decide)), jb0.below q, jb1.below q, jb2.below q, bb.trans (q.mono bb.size)⟩
    · rintro L a W ho ⟨V, jf6, jf7, jf8, js9, js10, js11, jn6_7, jn6_8, jn7_8, jb0, jb1, jb2, bb⟩ hn hd K hK
      clear hd
      refine Wants.free rfl ?_
      have jr5 : a.tmps[(5 : Nat)]?.getD undef = .pointer (some ⟨w.heap.size + 2, 0, none⟩) := ho.slot 5 rfl
      have jc0 := jb2.at_ 0 _ rfl
      have jc1 := jb2.at_ 1 _ rfl
      have jc2 := jb2.at_ 2 _ rfl
      have jc3 := jb2.at_ 3 _ rfl
      go_simp
      exact hK.out (.agg #[.int .i8 x3, .int .i8 y3, .int .i8 z3, .int .u8 b3]) _ ⟨V.set 4 _ _ rfl rfl rfl, fun h => (by obtain ⟨jg, ju0, ju1, ju2, je1, je2, je3, je4, jne0, jne1, jne2⟩ := old jf6 rfl h; exact ⟨jg, _, _, _, je1, je2, je3, fun h => je4 (h.resolve_right (by decide)), jne0, jne1, jne2⟩), fun h => (by obtain ⟨jg, ju0, ju1, ju2, je1, je2, je3, je4, jne0, jne1, jne2⟩ := old jf7 rfl h; exact ⟨jg, _, _, _, je1, je2, je3, fun h => je4 (h.resolve_right (by decide)), jne0, jne1, jne2⟩), fun h => (by obtain ⟨jg, ju0, ju1, ju2, je1, je2, je3, je4, jne0, jne1, jne2⟩ := old jf8 rfl h; exact ⟨jg, _, _, _, je1, je2, je3, fun h => je4 (h.resolve_right (by decide)), jne0, jne1, jne2⟩), fun h => .inl (old js9 rfl h), fun h => .inl (old js10 rfl h), fun h => .inl (old js11 rfl h), fun h h2 => jn6_7 (h.resolve_right (by decide)) (h2.resolve_right (by decide)), fun h h2 => jn6_8 (h.resolve_right (by decide)) (h2.resolve_right (by decide)), fun h h2 => jn7_8 (h.resolve_right (by decide)) (h2.resolve_right (by decide)), jb0, jb1, jb2, bb⟩
    · rintro L a W ho ⟨V, jf6, jf7, jf8, js9, js10, js11, jn6_7, jn6_8, jn7_8, jb0, jb1, jb2, bb⟩ hn hd K hK
      have jh4 := hd.get 4 rfl
      clear hd
      refine Wants.free rfl ?_
      have jr40 := V.read 4 rfl rfl jh4
      go_simp
      go_at_call 14
      with_reducible refine (I3.out _ bb).mono ?_
      rintro e wx ⟨rfl, q⟩
      go_simp
      exact hK.out (.agg #[.int .i64 r1, .int .i64 r2, .int .i64 r3]) _ ⟨V.set 5 _ _ rfl rfl rfl, fun h => (by obtain ⟨jg, ju0, ju1, ju2, je1, je2, je3, je4, jne0, jne1, jne2⟩ := old jf6 rfl h; exact ⟨jg, _, _, _, je1, je2, je3.below q, fun h => je4 (h.resolve_right (by decide)), jne0, jne1, jne2⟩), fun h => (by obtain ⟨jg, ju0, ju1, ju2, je1, je2, je3, je4, jne0, jne1, jne2⟩ := old jf7 rfl h; exact ⟨jg, _, _, _, je1, je2, je3.below q, fun h => je4 (h.resolve_right (by decide)), jne0, jne1, jne2⟩), fun h => (by obtain ⟨jg, ju0, ju1, ju2, je1, je2, je3, je4, jne0, jne1, jne2⟩ := old jf8 rfl h; exact ⟨jg, _, _, _, je1, je2, je3.below q, fun h => je4 (h.resolve_right (by decide)), jne0, jne1, jne2⟩), fun h => .inl (old js9 rfl h), fun h => .inl (old js10 rfl h), fun h => .inl (old js11 rfl h), fun h h2 => jn6_7 (h.resolve_right (by decide)) (h2.resolve_right (by decide)), fun h h2 => jn6_8 (h.resolve_right (by decide)) (h2.resolve_right (by decide)), fun h h2 => jn7_8 (h.resolve_right (by decide)) (h2.resolve_right (by decide)), jb0.below q, jb1.below q, jb2.below q, bb.trans (q.mono bb.size)⟩
    · rintro L a W ho ⟨V, jf6, jf7, jf8, js9, js10, js11, jn6_7, jn6_8, jn7_8, jb0, jb1, jb2, bb⟩ hn hd K hK
      clear hd
      refine Wants.free rfl ?_
      go_simp
      exact hK.out (.pointer (some ⟨W.heap.size, 0, none⟩)) _ ⟨V.apart 6 _ _ rfl rfl, fun _ => ⟨W.heap.size, .int .i64 0, .int .i64 0, .int .i64 0, rfl, bb.size, Blk.fresh W #[.int .i64 0, .int .i64 0, .int .i64 0] 27, fun h => absurd (old js9 rfl h) hn, (Nat.ne_of_lt jb0.lt), (Nat.ne_of_lt jb1.lt), (Nat.ne_of_lt jb2.lt)⟩, fun h => (by obtain ⟨jg, ju0, ju1, ju2, je1, je2, je3, je4, jne0, jne1, jne2⟩ := old jf7 rfl h; exact ⟨jg, _, _, _, je1, je2, je3.alloc (Obj.cells #[.int .i64 0, .int .i64 0, .int .i64 0] 27), fun h => je4 (h.resolve_right (by decide)), jne0, jne1, jne2⟩), fun h => (by obtain ⟨jg, ju0, ju1, ju2, je1, je2, je3, je4, jne0, jne1, jne2⟩ := old jf8 rfl h; exact ⟨jg, _, _, _, je1, je2, je3.alloc (Obj.cells #[.int .i64 0, .int .i64 0, .int .i64 0] 27), fun h => je4 (h.resolve_right (by decide)), jne0, jne1, jne2⟩), fun h => .inl (old js9 rfl h), fun h => .inl (old js10 rfl h), fun h => .inl (old js11 rfl h), fun h h2 => (by obtain ⟨jg, ju0, ju1, ju2, je1, je2, je3, je4, jne0, jne1, jne2⟩ := jf7 (h2.resolve_right (by decide)); have jhlt := je3.lt; show (Value.pointer (some ⟨W.heap.size, 0, none⟩)) ≠ slotOf a 8; rw [je1]; intro e; injection e with e; injection e with e; injection e with e; omega), fun h h2 => (by obtain ⟨jg, ju0, ju1, ju2, je1, je2, je3, je4, jne0, jne1, jne2⟩ := jf8 (h2.resolve_right (by decide)); have jhlt := je3.lt; show (Value.pointer (some ⟨W.heap.size, 0, none⟩)) ≠ slotOf a 9; rw [je1]; intro e; injection e with e; injection e with e; injection e with e; omega), fun h h2 => jn7_8 (h.resolve_right (by decide)) (h2.resolve_right (by decide)), jb0.alloc (Obj.cells #[.int .i64 0, .int .i64 0, .int .i64 0] 27), jb1.alloc (Obj.cells #[.int .i64 0, .int .i64 0, .int .i64 0] 27), jb2.alloc (Obj.cells #[.int .i64 0, .int .i64 0, .int .i64 0] 27), bb.trans ((below_new W (Obj.cells #[.int .i64 0, .int .i64 0, .int .i64 0] 27)).mono bb.size)⟩
    · rintro L a W ho ⟨V, jf6, jf7, jf8, js9, js10, js11, jn6_7, jn6_8, jn7_8, jb0, jb1, jb2, bb⟩ hn hd K hK
      clear hd
      refine Wants.free rfl ?_
      go_simp
      exact hK.out (.pointer (some ⟨W.heap.size, 0, none⟩)) _ ⟨V.apart 7 _ _ rfl rfl, fun h => (by obtain ⟨jg, ju0, ju1, ju2, je1, je2, je3, je4, jne0, jne1, jne2⟩ := old jf6 rfl h; exact ⟨jg, _, _, _, je1, je2, je3.alloc (Obj.cells #[.int .i64 0, .int .i64 0, .int .i64 0] 27), fun h => je4 (h.resolve_right (by decide)), jne0, jne1, jne2⟩), fun _ => ⟨W.heap.size, .int .i64 0, .int .i64 0, .int .i64 0, rfl, bb.size, Blk.fresh W #[.int .i64 0, .int .i64 0, .int .i64 0] 27, fun h => absurd (old js10 rfl h) hn, (Nat.ne_of_lt jb0.lt), (Nat.ne_of_lt jb1.lt), (Nat.ne_of_lt jb2.lt)⟩, fun h => (by obtain ⟨jg, ju0, ju1, ju2, je1, je2, je3, je4, jne0, jne1, jne2⟩ := old jf8 rfl h; exact ⟨jg, _, _, _, je1, je2, je3.alloc (Obj.cells #[.int .i64 0, .int .i64 0, .int .i64 0] 27), fun h => je4 (h.resolve_right (by decide)), jne0, jne1, jne2⟩), fun h => .inl (old js9 rfl h), fun h => .inl (old js10 rfl h), fun h => .inl (old js11 rfl h), fun h h2 => (by obtain ⟨jg, ju0, ju1, ju2, je1, je2, je3, je4, jne0, jne1, jne2⟩ := jf6 (h.resolve_right (by decide)); have jhlt := je3.lt; show slotOf a 7 ≠ (Value.pointer (some ⟨W.heap.size, 0, none⟩)); rw [je1]; intro e; injection e with e; injection e with e; injection e with e; omega), fun h h2 => jn6_8 (h.resolve_right (by decide)) (h2.resolve_right (by decide)), fun h h2 => (by obtain ⟨jg, ju0, ju1, ju2, je1, je2, je3, je4, jne0, jne1, jne2⟩ := jf8 (h2.resolve_right (by decide)); have jhlt := je3.lt; show (Value.pointer (some ⟨W.heap.size, 0, none⟩)) ≠ slotOf a 9; rw [je1]; intro e; injection e with e; injection e with e; injection e with e; omega), jb0.alloc (Obj.cells #[.int .i64 0, .int .i64 0, .int .i64 0] 27), jb1.alloc (Obj.cells #[.int .i64 0, .int .i64 0, .int .i64 0] 27), jb2.alloc (Obj.cells #[.int .i64 0, .int .i64 0, .int .i64 0] 27), bb.trans ((below_new W (Obj.cells #[.int .i64 0, .int .i64 0, .int .i64 0] 27)).mono bb.size)⟩
    · rintro L a W ho ⟨V, jf6, jf7, jf8, js9, js10, js11, jn6_7, jn6_8, jn7_8, jb0, jb1, jb2, bb⟩ hn hd K hK
      clear hd
      refine Wants.free rfl ?_
      go_simp
      exact hK.out (.pointer (some ⟨W.heap.size, 0, none⟩)) _ ⟨V.apart 8 _ _ rfl rfl, fun h => (by obtain ⟨jg, ju0, ju1, ju2, je1, je2, je3, je4, jne0, jne1, jne2⟩ := old jf6 rfl h; exact ⟨jg, _, _, _, je1, je2, je3.alloc (Obj.cells #[.int .i64 0, .int .i64 0, .int .i64 0] 27), fun h => je4 (h.resolve_right (by decide)), jne0, jne1, jne2⟩), fun h => (by obtain ⟨jg, ju0, ju1, ju2, je1, je2, je3, je4, jne0, jne1, jne2⟩ := old jf7 rfl h; exact ⟨jg, _, _, _, je1, je2, je3.alloc (Obj.cells #[.int .i64 0, .int .i64 0, .int .i64 0] 27), fun h => je4 (h.resolve_right (by decide)), jne0, jne1, jne2⟩), fun _ => ⟨W.heap.size, .int .i64 0, .int .i64 0, .int .i64 0, rfl, bb.size, Blk.fresh W #[.int .i64 0, .int .i64 0, .int .i64 0] 27, fun h => absurd (old js11 rfl h) hn, (Nat.ne_of_lt jb0.lt), (Nat.ne_of_lt jb1.lt), (Nat.ne_of_lt jb2.lt)⟩, fun h => .inl (old js9 rfl h), fun h => .inl (old js10 rfl h), fun h => .inl (old js11 rfl h), fun h h2 => jn6_7 (h.resolve_right (by decide)) (h2.resolve_right (by decide)), fun h h2 => (by obtain ⟨jg, ju0, ju1, ju2, je1, je2, je3, je4, jne0, jne1, jne2⟩ := jf6 (h.resolve_right (by decide)); have jhlt := je3.lt; show slotOf a 7 ≠ (Value.pointer (some ⟨W.heap.size, 0, none⟩)); rw [je1]; intro e; injection e with e; injection e with e; injection e with e; omega), fun h h2 => (by obtain ⟨jg, ju0, ju1, ju2, je1, je2, je3, je4, jne0, jne1, jne2⟩ := jf7 (h.resolve_right (by decide)); have jhlt := je3.lt; show slotOf a 8 ≠ (Value.pointer (some ⟨W.heap.size, 0, none⟩)); rw [je1]; intro e; injection e with e; injection e with e; injection e with e; omega), jb0.alloc (Obj.cells #[.int .i64 0, .int .i64 0, .int .i64 0] 27), jb1.alloc (Obj.cells #[.int .i64 0, .int .i64 0, .int .i64 0] 27), jb2.alloc (Obj.cells #[.int .i64 0, .int .i64 0, .int .i64 0] 27), bb.trans ((below_new W (Obj.cells #[.int .i64 0, .int .i64 0, .int .i64 0] 27)).mono bb.size)⟩
    · rintro L a W ho ⟨V, jf6, jf7, jf8, js9, js10, js11, jn6_7, jn6_8, jn7_8, jb0, jb1, jb2, bb⟩ hn hd K hK
      have jh6 := hd.get 6 rfl
      have jh1 := hd.get 1 rfl
      clear hd
      refine Wants.free rfl ?_
      have jr37 := V.read 1 rfl rfl jh1
      obtain ⟨jg, jy0, jy1, jy2, je1, je2, je3, je4, jne0, jne1, jne2⟩ := jf6 jh6
      have jr7 : a.tmps[(7 : Nat)]?.getD undef = .pointer (some ⟨jg, 0, none⟩) := je1
      have jc0 := je3.at_ 0 _ rfl
      have jz0 := je3.free 0
      have jc1 := je3.at_ 1 _ rfl
      have jz1 := je3.free 1
      have jc2 := je3.at_ 2 _ rfl
      have jz2 := je3.free 2
      go_simp
      exact hK.out (undef) _ ⟨V.same 9 _ rfl, fun _ => ⟨jg, .int .i64 p1, .int .i64 p2, .int .i64 p3, je1, je2, je3.set3 (.int .i64 p1) (.int .i64 p2) (.int .i64 p3), fun _ => rfl, jne0, jne1, jne2⟩, fun h => (by have jhne := jn6_7 jh6 (h.resolve_right (by decide)); obtain ⟨jg2, ju0, ju1, ju2, jt1, jq2, jq3, je4, jnq0, jnq1, jnq2⟩ := old jf7 rfl h; exact ⟨jg2, _, _, _, jt1, jq2, jq3.else3 (fun e => jhne (by rw [jt1, je1, e])) (.int .i64 p1) (.int .i64 p2) (.int .i64 p3), fun h => je4 (h.resolve_right (by decide)), jnq0, jnq1, jnq2⟩), fun h => (by have jhne := jn6_8 jh6 (h.resolve_right (by decide)); obtain ⟨jg2, ju0, ju1, ju2, jt1, jq2, jq3, je4, jnq0, jnq1, jnq2⟩ := old jf8 rfl h; exact ⟨jg2, _, _, _, jt1, jq2, jq3.else3 (fun e => jhne (by rw [jt1, je1, e])) (.int .i64 p1) (.int .i64 p2) (.int .i64 p3), fun h => je4 (h.resolve_right (by decide)), jnq0, jnq1, jnq2⟩), fun _ => .inl jh6, fun h => .inl (old js10 rfl h), fun h => .inl (old js11 rfl h), fun h h2 => jn6_7 (h.resolve_right (by decide)) (h2.resolve_right (by decide)), fun h h2 => jn6_8 (h.resolve_right (by decide)) (h2.resolve_right (by decide)), fun h h2 => jn7_8 (h.resolve_right (by decide)) (h2.resolve_right (by decide)), jb0.else3 jne0 (.int .i64 p1) (.int .i64 p2) (.int .i64 p3), jb1.else3 jne1 (.int .i64 p1) (.int .i64 p2) (.int .i64 p3), jb2.else3 jne2 (.int .i64 p1) (.int .i64 p2) (.int .i64 p3), bb.trans (below_else3 W w.heap.size jg je2 (.int .i64 p1) (.int .i64 p2) (.int .i64 p3))⟩
    · rintro L a W ho ⟨V, jf6, jf7, jf8, js9, js10, js11, jn6_7, jn6_8, jn7_8, jb0, jb1, jb2, bb⟩ hn hd K hK
      have jh7 := hd.get 7 rfl
      have jh3 := hd.get 3 rfl
      clear hd
      refine Wants.free rfl ?_
      have jr39 := V.read 3 rfl rfl jh3
      obtain ⟨jg, jy0, jy1, jy2, je1, je2, je3, je4, jne0, jne1, jne2⟩ := jf7 jh7
      have jr8 : a.tmps[(8 : Nat)]?.getD undef = .pointer (some ⟨jg, 0, none⟩) := je1
      have jc0 := je3.at_ 0 _ rfl
      have jz0 := je3.free 0
      have jc1 := je3.at_ 1 _ rfl
      have jz1 := je3.free 1
      have jc2 := je3.at_ 2 _ rfl
      have jz2 := je3.free 2
      go_simp
      exact hK.out (undef) _ ⟨V.same 10 _ rfl, fun h => (by have jhne := jn6_7 (h.resolve_right (by decide)) jh7; obtain ⟨jg2, ju0, ju1, ju2, jt1, jq2, jq3, je4, jnq0, jnq1, jnq2⟩ := old jf6 rfl h; exact ⟨jg2, _, _, _, jt1, jq2, jq3.else3 (fun e => jhne (by rw [jt1, je1, e])) (.int .i64 q1) (.int .i64 q2) (.int .i64 q3), fun h => je4 (h.resolve_right (by decide)), jnq0, jnq1, jnq2⟩), fun _ => ⟨jg, .int .i64 q1, .int .i64 q2, .int .i64 q3, je1, je2, je3.set3 (.int .i64 q1) (.int .i64 q2) (.int .i64 q3), fun _ => rfl, jne0, jne1, jne2⟩, fun h => (by have jhne := jn7_8 jh7 (h.resolve_right (by decide)); obtain ⟨jg2, ju0, ju1, ju2, jt1, jq2, jq3, je4, jnq0, jnq1, jnq2⟩ := old jf8 rfl h; exact ⟨jg2, _, _, _, jt1, jq2, jq3.else3 (fun e => jhne (by rw [jt1, je1, e])) (.int .i64 q1) (.int .i64 q2) (.int .i64 q3), fun h => je4 (h.resolve_right (by decide)), jnq0, jnq1, jnq2⟩), fun h => .inl (old js9 rfl h), fun _ => .inl jh7, fun h => .inl (old js11 rfl h), fun h h2 => jn6_7 (h.resolve_right (by decide)) (h2.resolve_right (by decide)), fun h h2 => jn6_8 (h.resolve_right (by decide)) (h2.resolve_right (by decide)), fun h h2 => jn7_8 (h.resolve_right (by decide)) (h2.resolve_right (by decide)), jb0.else3 jne0 (.int .i64 q1) (.int .i64 q2) (.int .i64 q3), jb1.else3 jne1 (.int .i64 q1) (.int .i64 q2) (.int .i64 q3), jb2.else3 jne2 (.int .i64 q1) (.int .i64 q2) (.int .i64 q3), bb.trans (below_else3 W w.heap.size jg je2 (.int .i64 q1) (.int .i64 q2) (.int .i64 q3))⟩
    · rintro L a W ho ⟨V, jf6, jf7, jf8, js9, js10, js11, jn6_7, jn6_8, jn7_8, jb0, jb1, jb2, bb⟩ hn hd K hK
      have jh8 := hd.get 8 rfl
      have jh5 := hd.get 5 rfl
      clear hd
      refine Wants.free rfl ?_
      have jr41 := V.read 5 rfl rfl jh5
      obtain ⟨jg, jy0, jy1, jy2, je1, je2, je3, je4, jne0, jne1, jne2⟩ := jf8 jh8
      have jr9 : a.tmps[(9 : Nat)]?.getD undef = .pointer (some ⟨jg, 0, none⟩) := je1
      have jc0 := je3.at_ 0 _ rfl
      have jz0 := je3.free 0
      have jc1 := je3.at_ 1 _ rfl
      have jz1 := je3.free 1
      have jc2 := je3.at_ 2 _ rfl
      have jz2 := je3.free 2
      go_simp
      exact hK.out (undef) _ ⟨V.same 11 _ rfl, fun h => (by have jhne := jn6_8 (h.resolve_right (by decide)) jh8; obtain ⟨jg2, ju0, ju1, ju2, jt1, jq2, jq3, je4, jnq0, jnq1, jnq2⟩ := old jf6 rfl h; exact ⟨jg2, _, _, _, jt1, jq2, jq3.else3 (fun e => jhne (by rw [jt1, je1, e])) (.int .i64 r1) (.int .i64 r2) (.int .i64 r3), fun h => je4 (h.resolve_right (by decide)), jnq0, jnq1, jnq2⟩), fun h => (by have jhne := jn7_8 (h.resolve_right (by decide)) jh8; obtain ⟨jg2, ju0, ju1, ju2, jt1, jq2, jq3, je4, jnq0, jnq1, jnq2⟩ := old jf7 rfl h; exact ⟨jg2, _, _, _, jt1, jq2, jq3.else3 (fun e => jhne (by rw [jt1, je1, e])) (.int .i64 r1) (.int .i64 r2) (.int .i64 r3), fun h => je4 (h.resolve_right (by decide)), jnq0, jnq1, jnq2⟩), fun _ => ⟨jg, .int .i64 r1, .int .i64 r2, .int .i64 r3, je1, je2, je3.set3 (.int .i64 r1) (.int .i64 r2) (.int .i64 r3), fun _ => rfl, jne0, jne1, jne2⟩, fun h => .inl (old js9 rfl h), fun h => .inl (old js10 rfl h), fun _ => .inl jh8, fun h h2 => jn6_7 (h.resolve_right (by decide)) (h2.resolve_right (by decide)), fun h h2 => jn6_8 (h.resolve_right (by decide)) (h2.resolve_right (by decide)), fun h h2 => jn7_8 (h.resolve_right (by decide)) (h2.resolve_right (by decide)), jb0.else3 jne0 (.int .i64 r1) (.int .i64 r2) (.int .i64 r3), jb1.else3 jne1 (.int .i64 r1) (.int .i64 r2) (.int .i64 r3), jb2.else3 jne2 (.int .i64 r1) (.int .i64 r2) (.int .i64 r3), bb.trans (below_else3 W w.heap.size jg je2 (.int .i64 r1) (.int .i64 r2) (.int .i64 r3))⟩
  rintro L σ W ⟨V, jf6, jf7, jf8, js9, js10, js11, jn6_7, jn6_8, jn7_8, jb0, jb1, jb2, bb⟩ hL
  have jf0 := V 0 _ _ rfl rfl (hL 0 (by decide))
  have jf1 := V 1 _ _ rfl rfl (hL 1 (by decide))
  have jf2 := V 2 _ _ rfl rfl (hL 2 (by decide))
  have jf3 := V 3 _ _ rfl rfl (hL 3 (by decide))
  have jf4 := V 4 _ _ rfl rfl (hL 4 (by decide))
  have jf5 := V 5 _ _ rfl rfl (hL 5 (by decide))
  clear V
  replace jn6_7 := jn6_7 (hL 6 (by decide)) (hL 7 (by decide))
  replace jn6_8 := jn6_8 (hL 6 (by decide)) (hL 8 (by decide))
  replace jn7_8 := jn7_8 (hL 7 (by decide)) (hL 8 (by decide))
  obtain ⟨g3_6, jy6_0, jy6_1, jy6_2, jf6, jl6, jv6, je6, jne6_0, jne6_1, jne6_2⟩ := jf6 (hL 6 (by decide))
  rw [je6 (hL 9 (by decide))] at jv6
  clear je6 jne6_0 jne6_1 jne6_2
  obtain ⟨g3_7, jy7_0, jy7_1, jy7_2, jf7, jl7, jv7, je7, jne7_0, jne7_1, jne7_2⟩ := jf7 (hL 7 (by decide))
  rw [je7 (hL 10 (by decide))] at jv7
  clear je7 jne7_0 jne7_1 jne7_2
  obtain ⟨g3_8, jy8_0, jy8_1, jy8_2, jf8, jl8, jv8, je8, jne8_0, jne8_1, jne8_2⟩ := jf8 (hL 8 (by decide))
  rw [je8 (hL 11 (by decide))] at jv8
  clear je8 jne8_0 jne8_1 jne8_2
  clear jn6_7 jn6_8 jn7_8
  clear hL js9 js10 js11
  rw [show List.map σ [36, 37, 38, 39, 40, 41, 7, 8, 9] = [σ 36, σ 37, σ 38, σ 39, σ 40, σ 41, σ 7, σ 8, σ 9] from rfl, jf0, jf1, jf2, jf3, jf4, jf5, jf6, jf7, jf8]
  clear jf0 jf1 jf2 jf3 jf4 jf5 jf6 jf7 jf8
  simp only [putAll, List.map, Act.put, List.setIfInBounds_toArray, List.set_cons_succ, List.set_cons_zero]
  replace K0 := Lib.hid jb0
  replace K1 := Lib.hid jb1
  replace K2 := Lib.hid jb2
  have K3 := Lib.hid jv6
  have K4 := Lib.hid jv7
  have K5 := Lib.hid jv8
  replace B := Lib.hid bb
  clear bb jb0 jb1 jb2 jv6 jl6 jv7 jl7 jv8 jl8
  have c0_0 := K0.out.at_ 0 _ rfl
  have c0_1 := K0.out.at_ 1 _ rfl
  have c0_2 := K0.out.at_ 2 _ rfl
  have c0_3 := K0.out.at_ 3 _ rfl
  have c1_0 := K1.out.at_ 0 _ rfl
  have c1_1 := K1.out.at_ 1 _ rfl
  have c1_2 := K1.out.at_ 2 _ rfl
  have c1_3 := K1.out.at_ 3 _ rfl
  have c2_0 := K2.out.at_ 0 _ rfl
  have c2_1 := K2.out.at_ 1 _ rfl
  have c2_2 := K2.out.at_ 2 _ rfl
  have c2_3 := K2.out.at_ 3 _ rfl
  have c3_0 := K3.out.at_ 0 _ rfl
  have c3_1 := K3.out.at_ 1 _ rfl
  have c3_2 := K3.out.at_ 2 _ rfl
  have c4_0 := K4.out.at_ 0 _ rfl
  have c4_1 := K4.out.at_ 1 _ rfl
  have c4_2 := K4.out.at_ 2 _ rfl
  have c5_0 := K5.out.at_ 0 _ rfl
  have c5_1 := K5.out.at_ 1 _ rfl
  have c5_2 := K5.out.at_ 2 _ rfl
  go_upto_region 4 with (fail)
  clear c0_0 c0_1 c0_2 c0_3 c1_0 c1_1 c1_2 c1_3 c2_0 c2_1 c2_2 c2_3 c3_0 c3_1 c3_2 c4_0 c4_1 c4_2 c5_0 c5_1 c5_2
  refine wp_region_par (by kernel_rfl) [43, 44, 45, 46, 47, 42, 48, 49, 10, 11] (fun L σ W => Vals [some 43, some 44, some 45, some 46, some 47, some 42, some 48, some 49, some 10, some 11] [(.agg #[.int .i8 x1, .int .i8 y1, .int .i8 z1, .int .u8 b1]), (.agg #[.string A1, .string A2, .string A3]), (.agg #[.int .i8 x3, .int .i8 y3, .int .i8 z3, .int .u8 b3]), (.agg #[.string D1, .string D2, .string D3]), (.tuple #[.bool b, .int .i64 0]), (.tuple #[.bool b, .int .i64 0]), (.bool b), (.int .i64 0), (.bool b), (.int .i64 0)] L σ ∧ Blk W (w.heap.size) #[.int .i8 x1, .int .i8 y1, .int .i8 z1, .int .u8 b1] 24 ∧ Blk W (w.heap.size + 1) #[.int .i8 x2, .int .i8 y2, .int .i8 z2, .int .u8 b2] 24 ∧ Blk W (w.heap.size + 2) #[.int .i8 x3, .int .i8 y3, .int .i8 z3, .int .u8 b3] 24 ∧ Blk W (g3_6) #[.int .i64 p1, .int .i64 p2, .int .i64 p3] 27 ∧ Blk W (g3_7) #[.int .i64 q1, .int .i64 q2, .int .i64 q3] 27 ∧ Blk W (g3_8) #[.int .i64 r1, .int .i64 r2, .int .i64 r3] 27 ∧ Below w.heap.size w W) (by kernel_rfl) (by kernel_rfl) (by kernel_rfl) ?_ ?_ ?_
  · exact fun σ => ⟨Vals.start, K0.out.below (Below.refl _ _).drew, K1.out.below (Below.refl _ _).drew, K2.out.below (Below.refl _ _).drew, K3.out.below (Below.refl _ _).drew, K4.out.below (Below.refl _ _).drew, K5.out.below (Below.refl _ _).drew, B.out.drew⟩
  · refine ⟨?_, ?_, ?_, ?_, ?_, ?_, ?_, ?_, ?_, ?_, trivial⟩
    · rintro L a W ho ⟨V, jb0, jb1, jb2, jb3, jb4, jb5, bb⟩ hn hd K hK
      clear hd
      refine Wants.free rfl ?_
      have jr3 : a.tmps[(3 : Nat)]?.getD undef = .pointer (some ⟨w.heap.size, 0, none⟩) := ho.slot 3 rfl
      have jc0 := jb0.at_ 0 _ rfl
      have jc1 := jb0.at_ 1 _ rfl
      have jc2 := jb0.at_ 2 _ rfl
      have jc3 := jb0.at_ 3 _ rfl
      go_simp
      exact hK.out (.agg #[.int .i8 x1, .int .i8 y1, .int .i8 z1, .int .u8 b1]) _ ⟨V.set 0 _ _ rfl rfl rfl, jb0, jb1, jb2, jb3, jb4, jb5, bb⟩
    · rintro L a W ho ⟨V, jb0, jb1, jb2, jb3, jb4, jb5, bb⟩ hn hd K hK
      have jh0 := hd.get 0 rfl
      clear hd
      refine Wants.free rfl ?_
      have jr43 := V.read 0 rfl rfl jh0
      go_simp
      go_at_call 16
      with_reducible refine (M1.out _ bb).mono ?_
      rintro e wx ⟨rfl, q⟩
      go_simp
      exact hK.out (.agg #[.string A1, .string A2, .string A3]) _ ⟨V.set 1 _ _ rfl rfl rfl, jb0.below q, jb1.below q, jb2.below q, jb3.below q, jb4.below q, jb5.below q, bb.trans (q.mono bb.size)⟩
    · rintro L a W ho ⟨V, jb0, jb1, jb2, jb3, jb4, jb5, bb⟩ hn hd K hK
      clear hd
      refine Wants.free rfl ?_
      have jr5 : a.tmps[(5 : Nat)]?.getD undef = .pointer (some ⟨w.heap.size + 2, 0, none⟩) := ho.slot 5 rfl
      have jc0 := jb2.at_ 0 _ rfl
      have jc1 := jb2.at_ 1 _ rfl
      have jc2 := jb2.at_ 2 _ rfl
      have jc3 := jb2.at_ 3 _ rfl
      go_simp
      exact hK.out (.agg #[.int .i8 x3, .int .i8 y3, .int .i8 z3, .int .u8 b3]) _ ⟨V.set 2 _ _ rfl rfl rfl, jb0, jb1, jb2, jb3, jb4, jb5, bb⟩
    · rintro L a W ho ⟨V, jb0, jb1, jb2, jb3, jb4, jb5, bb⟩ hn hd K hK
      have jh2 := hd.get 2 rfl
      clear hd
      refine Wants.free rfl ?_
      have jr45 := V.read 2 rfl rfl jh2
      go_simp
      go_at_call 16
      with_reducible refine (M3.out _ bb).mono ?_
      rintro e wx ⟨rfl, q⟩
      go_simp
      exact hK.out (.agg #[.string D1, .string D2, .string D3]) _ ⟨V.set 3 _ _ rfl rfl rfl, jb0.below q, jb1.below q, jb2.below q, jb3.below q, jb4.below q, jb5.below q, bb.trans (q.mono bb.size)⟩
    · rintro L a W ho ⟨V, jb0, jb1, jb2, jb3, jb4, jb5, bb⟩ hn hd K hK
      have jh1 := hd.get 1 rfl
      have jh3 := hd.get 3 rfl
      clear hd
      refine Wants.free rfl ?_
      have jr44 := V.read 1 rfl rfl jh1
      have jr46 := V.read 3 rfl rfl jh3
      go_simp
      go_at_call 22
      with_reducible refine (O1.out _ bb).mono ?_
      rintro e wx ⟨rfl, q⟩
      go_simp
      exact hK.out (.tuple #[.bool b, .int .i64 0]) _ ⟨V.set 4 _ _ rfl rfl rfl, jb0.below q, jb1.below q, jb2.below q, jb3.below q, jb4.below q, jb5.below q, bb.trans (q.mono bb.size)⟩
    · rintro L a W ho ⟨V, jb0, jb1, jb2, jb3, jb4, jb5, bb⟩ hn hd K hK
      have jh4 := hd.get 4 rfl
      clear hd
      refine Wants.free rfl ?_
      have jr47 := V.read 4 rfl rfl jh4
      go_simp
      exact hK.out (.tuple #[.bool b, .int .i64 0]) _ ⟨V.set 5 _ _ rfl rfl rfl, jb0, jb1, jb2, jb3, jb4, jb5, bb⟩
    · rintro L a W ho ⟨V, jb0, jb1, jb2, jb3, jb4, jb5, bb⟩ hn hd K hK
      have jh5 := hd.get 5 rfl
      clear hd
      refine Wants.free rfl ?_
      have jr42 := V.read 5 rfl rfl jh5
      go_simp
      exact hK.out (.bool b) _ ⟨V.set 6 _ _ rfl rfl rfl, jb0, jb1, jb2, jb3, jb4, jb5, bb⟩
    · rintro L a W ho ⟨V, jb0, jb1, jb2, jb3, jb4, jb5, bb⟩ hn hd K hK
      have jh5 := hd.get 5 rfl
      clear hd
      refine Wants.free rfl ?_
      have jr42 := V.read 5 rfl rfl jh5
      go_simp
      exact hK.out (.int .i64 0) _ ⟨V.set 7 _ _ rfl rfl rfl, jb0, jb1, jb2, jb3, jb4, jb5, bb⟩
    · rintro L a W ho ⟨V, jb0, jb1, jb2, jb3, jb4, jb5, bb⟩ hn hd K hK
      have jh6 := hd.get 6 rfl
      clear hd
      refine Wants.free rfl ?_
      have jr48 := V.read 6 rfl rfl jh6
      go_simp
      exact hK.out (.bool b) _ ⟨V.set 8 _ _ rfl rfl rfl, jb0, jb1, jb2, jb3, jb4, jb5, bb⟩
    · rintro L a W ho ⟨V, jb0, jb1, jb2, jb3, jb4, jb5, bb⟩ hn hd K hK
      have jh7 := hd.get 7 rfl
      clear hd
      refine Wants.free rfl ?_
      have jr49 := V.read 7 rfl rfl jh7
      go_simp
      exact hK.out (.int .i64 0) _ ⟨V.set 9 _ _ rfl rfl rfl, jb0, jb1, jb2, jb3, jb4, jb5, bb⟩
  rintro L σ W ⟨V, jb0, jb1, jb2, jb3, jb4, jb5, bb⟩ hL
  have jf0 := V 0 _ _ rfl rfl (hL 0 (by decide))
  have jf1 := V 1 _ _ rfl rfl (hL 1 (by decide))
  have jf2 := V 2 _ _ rfl rfl (hL 2 (by decide))
  have jf3 := V 3 _ _ rfl rfl (hL 3 (by decide))
  have jf4 := V 4 _ _ rfl rfl (hL 4 (by decide))
  have jf5 := V 5 _ _ rfl rfl (hL 5 (by decide))
  have jf6 := V 6 _ _ rfl rfl (hL 6 (by decide))
  have jf7 := V 7 _ _ rfl rfl (hL 7 (by decide))
  have jf8 := V 8 _ _ rfl rfl (hL 8 (by decide))
  have jf9 := V 9 _ _ rfl rfl (hL 9 (by decide))
  clear V
  clear hL
  rw [show List.map σ [43, 44, 45, 46, 47, 42, 48, 49, 10, 11] = [σ 43, σ 44, σ 45, σ 46, σ 47, σ 42, σ 48, σ 49, σ 10, σ 11] from rfl, jf0, jf1, jf2, jf3, jf4, jf5, jf6, jf7, jf8, jf9]
  clear jf0 jf1 jf2 jf3 jf4 jf5 jf6 jf7 jf8 jf9
  simp only [putAll, List.map, Act.put, List.setIfInBounds_toArray, List.set_cons_succ, List.set_cons_zero]
  replace K0 := Lib.hid jb0
  replace K1 := Lib.hid jb1
  replace K2 := Lib.hid jb2
  replace K3 := Lib.hid jb3
  replace K4 := Lib.hid jb4
  replace K5 := Lib.hid jb5
  replace B := Lib.hid bb
  clear bb jb0 jb1 jb2 jb3 jb4 jb5
  have c0_0 := K0.out.at_ 0 _ rfl
  have c0_1 := K0.out.at_ 1 _ rfl
  have c0_2 := K0.out.at_ 2 _ rfl
  have c0_3 := K0.out.at_ 3 _ rfl
  have c1_0 := K1.out.at_ 0 _ rfl
  have c1_1 := K1.out.at_ 1 _ rfl
  have c1_2 := K1.out.at_ 2 _ rfl
  have c1_3 := K1.out.at_ 3 _ rfl
  have c2_0 := K2.out.at_ 0 _ rfl
  have c2_1 := K2.out.at_ 1 _ rfl
  have c2_2 := K2.out.at_ 2 _ rfl
  have c2_3 := K2.out.at_ 3 _ rfl
  have c3_0 := K3.out.at_ 0 _ rfl
  have c3_1 := K3.out.at_ 1 _ rfl
  have c3_2 := K3.out.at_ 2 _ rfl
  have c4_0 := K4.out.at_ 0 _ rfl
  have c4_1 := K4.out.at_ 1 _ rfl
  have c4_2 := K4.out.at_ 2 _ rfl
  have c5_0 := K5.out.at_ 0 _ rfl
  have c5_1 := K5.out.at_ 1 _ rfl
  have c5_2 := K5.out.at_ 2 _ rfl
  go_upto_region 5 with (fail)
  clear c0_0 c0_1 c0_2 c0_3 c1_0 c1_1 c1_2 c1_3 c2_0 c2_1 c2_2 c2_3 c3_0 c3_1 c3_2 c4_0 c4_1 c4_2 c5_0 c5_1 c5_2
  refine wp_region_par (by kernel_rfl) [51, 52, 53, 54, 55, 50, 56, 57, 12, 13] (fun L σ W => Vals [some 51, some 52, some 53, some 54, some 55, some 50, some 56, some 57, none, none, some 13] [(.agg #[.int .i8 x1, .int .i8 y1, .int .i8 z1, .int .u8 b1]), (.agg #[.string A1, .string A2, .string A3]), (.agg #[.int .i8 x2, .int .i8 y2, .int .i8 z2, .int .u8 b2]), (.agg #[.string C1, .string C2, .string C3]), (.tuple #[.agg #[.string P1, .string P2, .string P3], .int .i64 eo]), (.tuple #[.agg #[.string P1, .string P2, .string P3], .int .i64 eo]), (.agg #[.string P1, .string P2, .string P3]), (.int .i64 eo), undef, undef, (.int .i64 eo)] L σ ∧ (L 8 → ∃ (g : Nat) (jy0 jy1 jy2 : Value), σ 12 = .pointer (some ⟨g, 0, none⟩) ∧ w.heap.size ≤ g ∧ Blk W g #[jy0, jy1, jy2] 34 ∧ (L 9 → #[jy0, jy1, jy2] = #[.string P1, .string P2, .string P3]) ∧ w.heap.size ≠ g ∧ w.heap.size + 1 ≠ g ∧ w.heap.size + 2 ≠ g ∧ g3_6 ≠ g ∧ g3_7 ≠ g ∧ g3_8 ≠ g) ∧ (L 9 → L 8) ∧ Blk W (w.heap.size) #[.int .i8 x1, .int .i8 y1, .int .i8 z1, .int .u8 b1] 24 ∧ Blk W (w.heap.size + 1) #[.int .i8 x2, .int .i8 y2, .int .i8 z2, .int .u8 b2] 24 ∧ Blk W (w.heap.size + 2) #[.int .i8 x3, .int .i8 y3, .int .i8 z3, .int .u8 b3] 24 ∧ Blk W (g3_6) #[.int .i64 p1, .int .i64 p2, .int .i64 p3] 27 ∧ Blk W (g3_7) #[.int .i64 q1, .int .i64 q2, .int .i64 q3] 27 ∧ Blk W (g3_8) #[.int .i64 r1, .int .i64 r2, .int .i64 r3] 27 ∧ Below w.heap.size w W) (by kernel_rfl) (by kernel_rfl) (by kernel_rfl) ?_ ?_ ?_
  · exact fun σ => ⟨Vals.start, fun h => h.elim, fun h => h.elim, K0.out.below (Below.refl _ _).drew, K1.out.below (Below.refl _ _).drew, K2.out.below (Below.refl _ _).drew, K3.out.below (Below.refl _ _).drew, K4.out.below (Below.refl _ _).drew, K5.out.below (Below.refl _ _).drew, B.out.drew⟩
  · refine ⟨?_, ?_, ?_, ?_, ?_, ?_, ?_, ?_, ?_, ?_, ?_, trivial⟩
    · rintro L a W ho ⟨V, jf8, js9, jb0, jb1, jb2, jb3, jb4, jb5, bb⟩ hn hd K hK
      clear hd
      refine Wants.free rfl ?_
      have jr3 : a.tmps[(3 : Nat)]?.getD undef = .pointer (some ⟨w.heap.size, 0, none⟩) := ho.slot 3 rfl
      have jc0 := jb0.at_ 0 _ rfl
      have jc1 := jb0.at_ 1 _ rfl
      have jc2 := jb0.at_ 2 _ rfl
      have jc3 := jb0.at_ 3 _ rfl
      go_simp
      exact hK.out (.agg #[.int .i8 x1, .int .i8 y1, .int .i8 z1, .int .u8 b1]) _ ⟨V.set 0 _ _ rfl rfl rfl, fun h => (by obtain ⟨jg, ju0, ju1, ju2, je1, je2, je3, je4, jne0, jne1, jne2, jne3, jne4, jne5⟩ := old jf8 rfl h; exact ⟨jg, _, _, _, je1, je2, je3, fun h => je4 (h.resolve_right (by decide)), jne0, jne1, jne2, jne3, jne4, jne5⟩), fun h => .inl (old js9 rfl h), jb0, jb1, jb2, jb3, jb4, jb5, bb⟩
    · rintro L a W ho ⟨V, jf8, js9, jb0, jb1, jb2, jb3, jb4, jb5, bb⟩ hn hd K hK
      have jh0 := hd.get 0 rfl
      clear hd
      refine Wants.free rfl ?_
      have jr51 := V.read 0 rfl rfl jh0
      go_simp
      go_at_call 16
      with_reducible refine (M1.out _ bb).mono ?_
      rintro e wx ⟨rfl, q⟩
      go_simp
      exact hK.out (.agg #[.string A1, .string A2, .string A3]) _ ⟨V.set 1 _ _ rfl rfl rfl, fun h => (by obtain ⟨jg, ju0, ju1, ju2, je1, je2, je3, je4, jne0, jne1, jne2, jne3, jne4, jne5⟩ := old jf8 rfl h; exact ⟨jg, _, _, _, je1, je2, je3.below q, fun h => je4 (h.resolve_right (by decide)), jne0, jne1, jne2, jne3, jne4, jne5⟩), fun h => .inl (old js9 rfl h), jb0.below q, jb1.below q, jb2.below q, jb3.below q, jb4.below q, jb5.below q, bb.trans (q.mono bb.size)⟩
    · rintro L a W ho ⟨V, jf8, js9, jb0, jb1, jb2, jb3, jb4, jb5, bb⟩ hn hd K hK
      clear hd
      refine Wants.free rfl ?_
      have jr4 : a.tmps[(4 : Nat)]?.getD undef = .pointer (some ⟨w.heap.size + 1, 0, none⟩) := ho.slot 4 rfl
      have jc0 := jb1.at_ 0 _ rfl
      have jc1 := jb1.at_ 1 _ rfl
      have jc2 := jb1.at_ 2 _ rfl
      have jc3 := jb1.at_ 3 _ rfl
      go_simp
      exact hK.out (.agg #[.int .i8 x2, .int .i8 y2, .int .i8 z2, .int .u8 b2]) _ ⟨V.set 2 _ _ rfl rfl rfl, fun h => (by obtain ⟨jg, ju0, ju1, ju2, je1, je2, je3, je4, jne0, jne1, jne2, jne3, jne4, jne5⟩ := old jf8 rfl h; exact ⟨jg, _, _, _, je1, je2, je3, fun h => je4 (h.resolve_right (by decide)), jne0, jne1, jne2, jne3, jne4, jne5⟩), fun h => .inl (old js9 rfl h), jb0, jb1, jb2, jb3, jb4, jb5, bb⟩
    · rintro L a W ho ⟨V, jf8, js9, jb0, jb1, jb2, jb3, jb4, jb5, bb⟩ hn hd K hK
      have jh2 := hd.get 2 rfl
      clear hd
      refine Wants.free rfl ?_
      have jr53 := V.read 2 rfl rfl jh2
      go_simp
      go_at_call 16
      with_reducible refine (M2.out _ bb).mono ?_
      rintro e wx ⟨rfl, q⟩
      go_simp
      exact hK.out (.agg #[.string C1, .string C2, .string C3]) _ ⟨V.set 3 _ _ rfl rfl rfl, fun h => (by obtain ⟨jg, ju0, ju1, ju2, je1, je2, je3, je4, jne0, jne1, jne2, jne3, jne4, jne5⟩ := old jf8 rfl h; exact ⟨jg, _, _, _, je1, je2, je3.below q, fun h => je4 (h.resolve_right (by decide)), jne0, jne1, jne2, jne3, jne4, jne5⟩), fun h => .inl (old js9 rfl h), jb0.below q, jb1.below q, jb2.below q, jb3.below q, jb4.below q, jb5.below q, bb.trans (q.mono bb.size)⟩
    · rintro L a W ho ⟨V, jf8, js9, jb0, jb1, jb2, jb3, jb4, jb5, bb⟩ hn hd K hK
      have jh1 := hd.get 1 rfl
      have jh3 := hd.get 3 rfl
      clear hd
      refine Wants.free rfl ?_
      have jr52 := V.read 1 rfl rfl jh1
      have jr54 := V.read 3 rfl rfl jh3
      go_simp
      go_at_call 23
      with_reducible refine (O2.out _ bb).mono ?_
      rintro e wx ⟨rfl, q⟩
      go_simp
      exact hK.out (.tuple #[.agg #[.string P1, .string P2, .string P3], .int .i64 eo]) _ ⟨V.set 4 _ _ rfl rfl rfl, fun h => (by obtain ⟨jg, ju0, ju1, ju2, je1, je2, je3, je4, jne0, jne1, jne2, jne3, jne4, jne5⟩ := old jf8 rfl h; exact ⟨jg, _, _, _, je1, je2, je3.below q, fun h => je4 (h.resolve_right (by decide)), jne0, jne1, jne2, jne3, jne4, jne5⟩), fun h => .inl (old js9 rfl h), jb0.below q, jb1.below q, jb2.below q, jb3.below q, jb4.below q, jb5.below q, bb.trans (q.mono bb.size)⟩
    · rintro L a W ho ⟨V, jf8, js9, jb0, jb1, jb2, jb3, jb4, jb5, bb⟩ hn hd K hK
      have jh4 := hd.get 4 rfl
      clear hd
      refine Wants.free rfl ?_
      have jr55 := V.read 4 rfl rfl jh4
      go_simp
      exact hK.out (.tuple #[.agg #[.string P1, .string P2, .string P3], .int .i64 eo]) _ ⟨V.set 5 _ _ rfl rfl rfl, fun h => (by obtain ⟨jg, ju0, ju1, ju2, je1, je2, je3, je4, jne0, jne1, jne2, jne3, jne4, jne5⟩ := old jf8 rfl h; exact ⟨jg, _, _, _, je1, je2, je3, fun h => je4 (h.resolve_right (by decide)), jne0, jne1, jne2, jne3, jne4, jne5⟩), fun h => .inl (old js9 rfl h), jb0, jb1, jb2, jb3, jb4, jb5, bb⟩
    · rintro L a W ho ⟨V, jf8, js9, jb0, jb1, jb2, jb3, jb4, jb5, bb⟩ hn hd K hK
      have jh5 := hd.get 5 rfl
      clear hd
      refine Wants.free rfl ?_
      have jr50 := V.read 5 rfl rfl jh5
      go_simp
      exact hK.out (.agg #[.string P1, .string P2, .string P3]) _ ⟨V.set 6 _ _ rfl rfl rfl, fun h => (by obtain ⟨jg, ju0, ju1, ju2, je1, je2, je3, je4, jne0, jne1, jne2, jne3, jne4, jne5⟩ := old jf8 rfl h; exact ⟨jg, _, _, _, je1, je2, je3, fun h => je4 (h.resolve_right (by decide)), jne0, jne1, jne2, jne3, jne4, jne5⟩), fun h => .inl (old js9 rfl h), jb0, jb1, jb2, jb3, jb4, jb5, bb⟩
    · rintro L a W ho ⟨V, jf8, js9, jb0, jb1, jb2, jb3, jb4, jb5, bb⟩ hn hd K hK
      have jh5 := hd.get 5 rfl
      clear hd
      refine Wants.free rfl ?_
      have jr50 := V.read 5 rfl rfl jh5
      go_simp
      exact hK.out (.int .i64 eo) _ ⟨V.set 7 _ _ rfl rfl rfl, fun h => (by obtain ⟨jg, ju0, ju1, ju2, je1, je2, je3, je4, jne0, jne1, jne2, jne3, jne4, jne5⟩ := old jf8 rfl h; exact ⟨jg, _, _, _, je1, je2, je3, fun h => je4 (h.resolve_right (by decide)), jne0, jne1, jne2, jne3, jne4, jne5⟩), fun h => .inl (old js9 rfl h), jb0, jb1, jb2, jb3, jb4, jb5, bb⟩
    · rintro L a W ho ⟨V, jf8, js9, jb0, jb1, jb2, jb3, jb4, jb5, bb⟩ hn hd K hK
      clear hd
      refine Wants.free rfl ?_
      go_simp
      exact hK.out (.pointer (some ⟨W.heap.size, 0, none⟩)) _ ⟨V.apart 8 _ _ rfl rfl, fun _ => ⟨W.heap.size, .string ⟨#[]⟩, .string ⟨#[]⟩, .string ⟨#[]⟩, rfl, bb.size, Blk.fresh W #[.string ⟨#[]⟩, .string ⟨#[]⟩, .string ⟨#[]⟩] 34, fun h => absurd (old js9 rfl h) hn, (Nat.ne_of_lt jb0.lt), (Nat.ne_of_lt jb1.lt), (Nat.ne_of_lt jb2.lt), (Nat.ne_of_lt jb3.lt), (Nat.ne_of_lt jb4.lt), (Nat.ne_of_lt jb5.lt)⟩, fun h => .inl (old js9 rfl h), jb0.alloc (Obj.cells #[.string ⟨#[]⟩, .string ⟨#[]⟩, .string ⟨#[]⟩] 34), jb1.alloc (Obj.cells #[.string ⟨#[]⟩, .string ⟨#[]⟩, .string ⟨#[]⟩] 34), jb2.alloc (Obj.cells #[.string ⟨#[]⟩, .string ⟨#[]⟩, .string ⟨#[]⟩] 34), jb3.alloc (Obj.cells #[.string ⟨#[]⟩, .string ⟨#[]⟩, .string ⟨#[]⟩] 34), jb4.alloc (Obj.cells #[.string ⟨#[]⟩, .string ⟨#[]⟩, .string ⟨#[]⟩] 34), jb5.alloc (Obj.cells #[.string ⟨#[]⟩, .string ⟨#[]⟩, .string ⟨#[]⟩] 34), bb.trans ((below_new W (Obj.cells #[.string ⟨#[]⟩, .string ⟨#[]⟩, .string ⟨#[]⟩] 34)).mono bb.size)⟩
    · rintro L a W ho ⟨V, jf8, js9, jb0, jb1, jb2, jb3, jb4, jb5, bb⟩ hn hd K hK
      have jh8 := hd.get 8 rfl
      have jh6 := hd.get 6 rfl
      clear hd
      refine Wants.free rfl ?_
      have jr56 := V.read 6 rfl rfl jh6
      obtain ⟨jg, jy0, jy1, jy2, je1, je2, je3, je4, jne0, jne1, jne2, jne3, jne4, jne5⟩ := jf8 jh8
      have jr12 : a.tmps[(12 : Nat)]?.getD undef = .pointer (some ⟨jg, 0, none⟩) := je1
      have jc0 := je3.at_ 0 _ rfl
      have jz0 := je3.free 0
      have jc1 := je3.at_ 1 _ rfl
      have jz1 := je3.free 1
      have jc2 := je3.at_ 2 _ rfl
      have jz2 := je3.free 2
      go_simp
      exact hK.out (undef) _ ⟨V.same 9 _ rfl, fun _ => ⟨jg, .string P1, .string P2, .string P3, je1, je2, je3.set3 (.string P1) (.string P2) (.string P3), fun _ => rfl, jne0, jne1, jne2, jne3, jne4, jne5⟩, fun _ => .inl jh8, jb0.else3 jne0 (.string P1) (.string P2) (.string P3), jb1.else3 jne1 (.string P1) (.string P2) (.string P3), jb2.else3 jne2 (.string P1) (.string P2) (.string P3), jb3.else3 jne3 (.string P1) (.string P2) (.string P3), jb4.else3 jne4 (.string P1) (.string P2) (.string P3), jb5.else3 jne5 (.string P1) (.string P2) (.string P3), bb.trans (below_else3 W w.heap.size jg je2 (.string P1) (.string P2) (.string P3))⟩
    · rintro L a W ho ⟨V, jf8, js9, jb0, jb1, jb2, jb3, jb4, jb5, bb⟩ hn hd K hK
      have jh7 := hd.get 7 rfl
      clear hd
      refine Wants.free rfl ?_
      have jr57 := V.read 7 rfl rfl jh7
      go_simp
      exact hK.out (.int .i64 eo) _ ⟨V.set 10 _ _ rfl rfl rfl, fun h => (by obtain ⟨jg, ju0, ju1, ju2, je1, je2, je3, je4, jne0, jne1, jne2, jne3, jne4, jne5⟩ := old jf8 rfl h; exact ⟨jg, _, _, _, je1, je2, je3, fun h => je4 (h.resolve_right (by decide)), jne0, jne1, jne2, jne3, jne4, jne5⟩), fun h => .inl (old js9 rfl h), jb0, jb1, jb2, jb3, jb4, jb5, bb⟩
  rintro L σ W ⟨V, jf8, js9, jb0, jb1, jb2, jb3, jb4, jb5, bb⟩ hL
  have jf0 := V 0 _ _ rfl rfl (hL 0 (by decide))
  have jf1 := V 1 _ _ rfl rfl (hL 1 (by decide))
  have jf2 := V 2 _ _ rfl rfl (hL 2 (by decide))
  have jf3 := V 3 _ _ rfl rfl (hL 3 (by decide))
  have jf4 := V 4 _ _ rfl rfl (hL 4 (by decide))
  have jf5 := V 5 _ _ rfl rfl (hL 5 (by decide))
  have jf6 := V 6 _ _ rfl rfl (hL 6 (by decide))
  have jf7 := V 7 _ _ rfl rfl (hL 7 (by decide))
  have jf10 := V 10 _ _ rfl rfl (hL 10 (by decide))
  clear V
  obtain ⟨g5_8, jy8_0, jy8_1, jy8_2, jf8, jl8, jv8, je8, jne8_0, jne8_1, jne8_2, jne8_3, jne8_4, jne8_5⟩ := jf8 (hL 8 (by decide))
  rw [je8 (hL 9 (by decide))] at jv8
  clear je8 jne8_0 jne8_1 jne8_2 jne8_3 jne8_4 jne8_5
  clear hL js9
  rw [show List.map σ [51, 52, 53, 54, 55, 50, 56, 57, 12, 13] = [σ 51, σ 52, σ 53, σ 54, σ 55, σ 50, σ 56, σ 57, σ 12, σ 13] from rfl, jf0, jf1, jf2, jf3, jf4, jf5, jf6, jf7, jf8, jf10]
  clear jf0 jf1 jf2 jf3 jf4 jf5 jf6 jf7 jf8 jf10
  simp only [putAll, List.map, Act.put, List.setIfInBounds_toArray, List.set_cons_succ, List.set_cons_zero]
  replace K0 := Lib.hid jb0
  replace K1 := Lib.hid jb1
  replace K2 := Lib.hid jb2
  replace K3 := Lib.hid jb3
  replace K4 := Lib.hid jb4
  replace K5 := Lib.hid jb5
  have K6 := Lib.hid jv8
  replace B := Lib.hid bb
  clear bb jb0 jb1 jb2 jb3 jb4 jb5 jv8 jl8
  have c0_0 := K0.out.at_ 0 _ rfl
  have c0_1 := K0.out.at_ 1 _ rfl
  have c0_2 := K0.out.at_ 2 _ rfl
  have c0_3 := K0.out.at_ 3 _ rfl
  have c1_0 := K1.out.at_ 0 _ rfl
  have c1_1 := K1.out.at_ 1 _ rfl
  have c1_2 := K1.out.at_ 2 _ rfl
  have c1_3 := K1.out.at_ 3 _ rfl
  have c2_0 := K2.out.at_ 0 _ rfl
  have c2_1 := K2.out.at_ 1 _ rfl
  have c2_2 := K2.out.at_ 2 _ rfl
  have c2_3 := K2.out.at_ 3 _ rfl
  have c3_0 := K3.out.at_ 0 _ rfl
  have c3_1 := K3.out.at_ 1 _ rfl
  have c3_2 := K3.out.at_ 2 _ rfl
  have c4_0 := K4.out.at_ 0 _ rfl
  have c4_1 := K4.out.at_ 1 _ rfl
  have c4_2 := K4.out.at_ 2 _ rfl
  have c5_0 := K5.out.at_ 0 _ rfl
  have c5_1 := K5.out.at_ 1 _ rfl
  have c5_2 := K5.out.at_ 2 _ rfl
  have c6_0 := K6.out.at_ 0 _ rfl
  have c6_1 := K6.out.at_ 1 _ rfl
  have c6_2 := K6.out.at_ 2 _ rfl
  go_upto_region 6 with (fail)
  clear c0_0 c0_1 c0_2 c0_3 c1_0 c1_1 c1_2 c1_3 c2_0 c2_1 c2_2 c2_3 c3_0 c3_1 c3_2 c4_0 c4_1 c4_2 c5_0 c5_1 c5_2 c6_0 c6_1 c6_2
  refine wp_region_par (by kernel_rfl) [59, 60, 61, 62, 63, 58, 64, 65, 14, 15] (fun L σ W => Vals [some 59, some 60, some 61, some 62, some 63, some 58, some 64, some 65, some 14, some 15] [(.agg #[.int .i8 x1, .int .i8 y1, .int .i8 z1, .int .u8 b1]), (.agg #[.string A1, .string A2, .string A3]), (.agg #[.int .i8 x3, .int .i8 y3, .int .i8 z3, .int .u8 b3]), (.agg #[.string D1, .string D2, .string D3]), (.tuple #[.string R, .int .i64 g]), (.tuple #[.string R, .int .i64 g]), (.string R), (.int .i64 g), (.string R), (.int .i64 g)] L σ ∧ Blk W (w.heap.size) #[.int .i8 x1, .int .i8 y1, .int .i8 z1, .int .u8 b1] 24 ∧ Blk W (w.heap.size + 1) #[.int .i8 x2, .int .i8 y2, .int .i8 z2, .int .u8 b2] 24 ∧ Blk W (w.heap.size + 2) #[.int .i8 x3, .int .i8 y3, .int .i8 z3, .int .u8 b3] 24 ∧ Blk W (g3_6) #[.int .i64 p1, .int .i64 p2, .int .i64 p3] 27 ∧ Blk W (g3_7) #[.int .i64 q1, .int .i64 q2, .int .i64 q3] 27 ∧ Blk W (g3_8) #[.int .i64 r1, .int .i64 r2, .int .i64 r3] 27 ∧ Blk W (g5_8) #[.string P1, .string P2, .string P3] 34 ∧ Below w.heap.size w W) (by kernel_rfl) (by kernel_rfl) (by kernel_rfl) ?_ ?_ ?_
  · exact fun σ => ⟨Vals.start, K0.out.below (Below.refl _ _).drew, K1.out.below (Below.refl _ _).drew, K2.out.below (Below.refl _ _).drew, K3.out.below (Below.refl _ _).drew, K4.out.below (Below.refl _ _).drew, K5.out.below (Below.refl _ _).drew, K6.out.below (Below.refl _ _).drew, B.out.drew⟩
  · refine ⟨?_, ?_, ?_, ?_, ?_, ?_, ?_, ?_, ?_, ?_, trivial⟩
    · rintro L a W ho ⟨V, jb0, jb1, jb2, jb3, jb4, jb5, jb6, bb⟩ hn hd K hK
      clear hd
      refine Wants.free rfl ?_
      have jr3 : a.tmps[(3 : Nat)]?.getD undef = .pointer (some ⟨w.heap.size, 0, none⟩) := ho.slot 3 rfl
      have jc0 := jb0.at_ 0 _ rfl
      have jc1 := jb0.at_ 1 _ rfl
      have jc2 := jb0.at_ 2 _ rfl
      have jc3 := jb0.at_ 3 _ rfl
      go_simp
      exact hK.out (.agg #[.int .i8 x1, .int .i8 y1, .int .i8 z1, .int .u8 b1]) _ ⟨V.set 0 _ _ rfl rfl rfl, jb0, jb1, jb2, jb3, jb4, jb5, jb6, bb⟩
    · rintro L a W ho ⟨V, jb0, jb1, jb2, jb3, jb4, jb5, jb6, bb⟩ hn hd K hK
      have jh0 := hd.get 0 rfl
      clear hd
      refine Wants.free rfl ?_
      have jr59 := V.read 0 rfl rfl jh0
      go_simp
      go_at_call 16
      with_reducible refine (M1.out _ bb).mono ?_
      rintro e wx ⟨rfl, q⟩
      go_simp
      exact hK.out (.agg #[.string A1, .string A2, .string A3]) _ ⟨V.set 1 _ _ rfl rfl rfl, jb0.below q, jb1.below q, jb2.below q, jb3.below q, jb4.below q, jb5.below q, jb6.below q, bb.trans (q.mono bb.size)⟩
    · rintro L a W ho ⟨V, jb0, jb1, jb2, jb3, jb4, jb5, jb6, bb⟩ hn hd K hK
      clear hd
      refine Wants.free rfl ?_
      have jr5 : a.tmps[(5 : Nat)]?.getD undef = .pointer (some ⟨w.heap.size + 2, 0, none⟩) := ho.slot 5 rfl
      have jc0 := jb2.at_ 0 _ rfl
      have jc1 := jb2.at_ 1 _ rfl
      have jc2 := jb2.at_ 2 _ rfl
      have jc3 := jb2.at_ 3 _ rfl
      go_simp
      exact hK.out (.agg #[.int .i8 x3, .int .i8 y3, .int .i8 z3, .int .u8 b3]) _ ⟨V.set 2 _ _ rfl rfl rfl, jb0, jb1, jb2, jb3, jb4, jb5, jb6, bb⟩
    · rintro L a W ho ⟨V, jb0, jb1, jb2, jb3, jb4, jb5, jb6, bb⟩ hn hd K hK
      have jh2 := hd.get 2 rfl
      clear hd
      refine Wants.free rfl ?_
      have jr61 := V.read 2 rfl rfl jh2
      go_simp
      go_at_call 16
      with_reducible refine (M3.out _ bb).mono ?_
      rintro e wx ⟨rfl, q⟩
      go_simp
      exact hK.out (.agg #[.string D1, .string D2, .string D3]) _ ⟨V.set 3 _ _ rfl rfl rfl, jb0.below q, jb1.below q, jb2.below q, jb3.below q, jb4.below q, jb5.below q, jb6.below q, bb.trans (q.mono bb.size)⟩
    · rintro L a W ho ⟨V, jb0, jb1, jb2, jb3, jb4, jb5, jb6, bb⟩ hn hd K hK
      have jh1 := hd.get 1 rfl
      have jh3 := hd.get 3 rfl
      clear hd
      refine Wants.free rfl ?_
      have jr60 := V.read 1 rfl rfl jh1
      have jr62 := V.read 3 rfl rfl jh3
      go_simp
      go_at_call 24
      with_reducible refine (O3.out _ bb).mono ?_
      rintro e wx ⟨rfl, q⟩
      go_simp
      exact hK.out (.tuple #[.string R, .int .i64 g]) _ ⟨V.set 4 _ _ rfl rfl rfl, jb0.below q, jb1.below q, jb2.below q, jb3.below q, jb4.below q, jb5.below q, jb6.below q, bb.trans (q.mono bb.size)⟩
    · rintro L a W ho ⟨V, jb0, jb1, jb2, jb3, jb4, jb5, jb6, bb⟩ hn hd K hK
      have jh4 := hd.get 4 rfl
      clear hd
      refine Wants.free rfl ?_
      have jr63 := V.read 4 rfl rfl jh4
      go_simp
      exact hK.out (.tuple #[.string R, .int .i64 g]) _ ⟨V.set 5 _ _ rfl rfl rfl, jb0, jb1, jb2, jb3, jb4, jb5, jb6, bb⟩
    · rintro L a W ho ⟨V, jb0, jb1, jb2, jb3, jb4, jb5, jb6, bb⟩ hn hd K hK
      have jh5 := hd.get 5 rfl
      clear hd
      refine Wants.free rfl ?_
      have jr58 := V.read 5 rfl rfl jh5
      go_simp
      exact hK.out (.string R) _ ⟨V.set 6 _ _ rfl rfl rfl, jb0, jb1, jb2, jb3, jb4, jb5, jb6, bb⟩
    · rintro L a W ho ⟨V, jb0, jb1, jb2, jb3, jb4, jb5, jb6, bb⟩ hn hd K hK
      have jh5 := hd.get 5 rfl
      clear hd
      refine Wants.free rfl ?_
      have jr58 := V.read 5 rfl rfl jh5
      go_simp
      exact hK.out (.int .i64 g) _ ⟨V.set 7 _ _ rfl rfl rfl, jb0, jb1, jb2, jb3, jb4, jb5, jb6, bb⟩
    · rintro L a W ho ⟨V, jb0, jb1, jb2, jb3, jb4, jb5, jb6, bb⟩ hn hd K hK
      have jh6 := hd.get 6 rfl
      clear hd
      refine Wants.free rfl ?_
      have jr64 := V.read 6 rfl rfl jh6
      go_simp
      exact hK.out (.string R) _ ⟨V.set 8 _ _ rfl rfl rfl, jb0, jb1, jb2, jb3, jb4, jb5, jb6, bb⟩
    · rintro L a W ho ⟨V, jb0, jb1, jb2, jb3, jb4, jb5, jb6, bb⟩ hn hd K hK
      have jh7 := hd.get 7 rfl
      clear hd
      refine Wants.free rfl ?_
      have jr65 := V.read 7 rfl rfl jh7
      go_simp
      exact hK.out (.int .i64 g) _ ⟨V.set 9 _ _ rfl rfl rfl, jb0, jb1, jb2, jb3, jb4, jb5, jb6, bb⟩
  rintro L σ W ⟨V, jb0, jb1, jb2, jb3, jb4, jb5, jb6, bb⟩ hL
  have jf0 := V 0 _ _ rfl rfl (hL 0 (by decide))
  have jf1 := V 1 _ _ rfl rfl (hL 1 (by decide))
  have jf2 := V 2 _ _ rfl rfl (hL 2 (by decide))
  have jf3 := V 3 _ _ rfl rfl (hL 3 (by decide))
  have jf4 := V 4 _ _ rfl rfl (hL 4 (by decide))
  have jf5 := V 5 _ _ rfl rfl (hL 5 (by decide))
  have jf6 := V 6 _ _ rfl rfl (hL 6 (by decide))
  have jf7 := V 7 _ _ rfl rfl (hL 7 (by decide))
  have jf8 := V 8 _ _ rfl rfl (hL 8 (by decide))
  have jf9 := V 9 _ _ rfl rfl (hL 9 (by decide))
  clear V
  clear hL
  rw [show List.map σ [59, 60, 61, 62, 63, 58, 64, 65, 14, 15] = [σ 59, σ 60, σ 61, σ 62, σ 63, σ 58, σ 64, σ 65, σ 14, σ 15] from rfl, jf0, jf1, jf2, jf3, jf4, jf5, jf6, jf7, jf8, jf9]
  clear jf0 jf1 jf2 jf3 jf4 jf5 jf6 jf7 jf8 jf9
  simp only [putAll, List.map, Act.put, List.setIfInBounds_toArray, List.set_cons_succ, List.set_cons_zero]
  replace K0 := Lib.hid jb0
  replace K1 := Lib.hid jb1
  replace K2 := Lib.hid jb2
  replace K3 := Lib.hid jb3
  replace K4 := Lib.hid jb4
  replace K5 := Lib.hid jb5
  replace K6 := Lib.hid jb6
  replace B := Lib.hid bb
  clear bb jb0 jb1 jb2 jb3 jb4 jb5 jb6
  have c0_0 := K0.out.at_ 0 _ rfl
  have c0_1 := K0.out.at_ 1 _ rfl
  have c0_2 := K0.out.at_ 2 _ rfl
  have c0_3 := K0.out.at_ 3 _ rfl
  have c1_0 := K1.out.at_ 0 _ rfl
  have c1_1 := K1.out.at_ 1 _ rfl
  have c1_2 := K1.out.at_ 2 _ rfl
  have c1_3 := K1.out.at_ 3 _ rfl
  have c2_0 := K2.out.at_ 0 _ rfl
  have c2_1 := K2.out.at_ 1 _ rfl
  have c2_2 := K2.out.at_ 2 _ rfl
  have c2_3 := K2.out.at_ 3 _ rfl
  have c3_0 := K3.out.at_ 0 _ rfl
  have c3_1 := K3.out.at_ 1 _ rfl
  have c3_2 := K3.out.at_ 2 _ rfl
  have c4_0 := K4.out.at_ 0 _ rfl
  have c4_1 := K4.out.at_ 1 _ rfl
  have c4_2 := K4.out.at_ 2 _ rfl
  have c5_0 := K5.out.at_ 0 _ rfl
  have c5_1 := K5.out.at_ 1 _ rfl
  have c5_2 := K5.out.at_ 2 _ rfl
  have c6_0 := K6.out.at_ 0 _ rfl
  have c6_1 := K6.out.at_ 1 _ rfl
  have c6_2 := K6.out.at_ 2 _ rfl
  go_upto_region 10 with (
   (first
    | (go_at_call 17; with_reducible refine (T1.out _ (baseI B.out)).mono ?_)
    | (go_at_call 25; with_reducible refine (CR.out _ (baseI B.out)).mono ?_)
    | fail "arm"); rintro e wx ⟨rfl, q⟩; replace K0 := Lib.hid (K0.out.nearI q); replace K1 := Lib.hid (K1.out.nearI q); replace K2 := Lib.hid (K2.out.nearI q); replace K3 := Lib.hid (K3.out.nearI q); replace K4 := Lib.hid (K4.out.nearI q); replace K5 := Lib.hid (K5.out.nearI q); replace K6 := Lib.hid (K6.out.nearI q); replace B := Lib.hid (goI B.out q); clear q; replace c0_0 := K0.out.at_ 0 _ rfl; replace c0_1 := K0.out.at_ 1 _ rfl; replace c0_2 := K0.out.at_ 2 _ rfl; replace c0_3 := K0.out.at_ 3 _ rfl; replace c1_0 := K1.out.at_ 0 _ rfl; replace c1_1 := K1.out.at_ 1 _ rfl; replace c1_2 := K1.out.at_ 2 _ rfl; replace c1_3 := K1.out.at_ 3 _ rfl; replace c2_0 := K2.out.at_ 0 _ rfl; replace c2_1 := K2.out.at_ 1 _ rfl; replace c2_2 := K2.out.at_ 2 _ rfl; replace c2_3 := K2.out.at_ 3 _ rfl; replace c3_0 := K3.out.at_ 0 _ rfl; replace c3_1 := K3.out.at_ 1 _ rfl; replace c3_2 := K3.out.at_ 2 _ rfl; replace c4_0 := K4.out.at_ 0 _ rfl; replace c4_1 := K4.out.at_ 1 _ rfl; replace c4_2 := K4.out.at_ 2 _ rfl; replace c5_0 := K5.out.at_ 0 _ rfl; replace c5_1 := K5.out.at_ 1 _ rfl; replace c5_2 := K5.out.at_ 2 _ rfl; replace c6_0 := K6.out.at_ 0 _ rfl; replace c6_1 := K6.out.at_ 1 _ rfl; replace c6_2 := K6.out.at_ 2 _ rfl)
  have n7 := Blk.fresh wx #[.int .i64 k1, .int .i64 k2, .int .i64 k3] 27
  replace K0 := Lib.hid (K0.out.alloc (Obj.cells #[.int .i64 k1, .int .i64 k2, .int .i64 k3] 27))
  replace K1 := Lib.hid (K1.out.alloc (Obj.cells #[.int .i64 k1, .int .i64 k2, .int .i64 k3] 27))
  replace K2 := Lib.hid (K2.out.alloc (Obj.cells #[.int .i64 k1, .int .i64 k2, .int .i64 k3] 27))
  replace K3 := Lib.hid (K3.out.alloc (Obj.cells #[.int .i64 k1, .int .i64 k2, .int .i64 k3] 27))
  replace K4 := Lib.hid (K4.out.alloc (Obj.cells #[.int .i64 k1, .int .i64 k2, .int .i64 k3] 27))
  replace K5 := Lib.hid (K5.out.alloc (Obj.cells #[.int .i64 k1, .int .i64 k2, .int .i64 k3] 27))
  replace K6 := Lib.hid (K6.out.alloc (Obj.cells #[.int .i64 k1, .int .i64 k2, .int .i64 k3] 27))
  replace B := Lib.hid (B.out.trans ((below_new wx (Obj.cells #[.int .i64 k1, .int .i64 k2, .int .i64 k3] 27)).mono B.out.size))
  generalize wx.alloc (Obj.cells #[.int .i64 k1, .int .i64 k2, .int .i64 k3] 27) = wl5 at *
  generalize wx.heap.size = gl5 at *
  have K7 := Lib.hid n7
  clear n7
  replace c0_0 := K0.out.at_ 0 _ rfl
  replace c0_1 := K0.out.at_ 1 _ rfl
  replace c0_2 := K0.out.at_ 2 _ rfl
  replace c0_3 := K0.out.at_ 3 _ rfl
  replace c1_0 := K1.out.at_ 0 _ rfl
  replace c1_1 := K1.out.at_ 1 _ rfl
  replace c1_2 := K1.out.at_ 2 _ rfl
  replace c1_3 := K1.out.at_ 3 _ rfl
  replace c2_0 := K2.out.at_ 0 _ rfl
  replace c2_1 := K2.out.at_ 1 _ rfl
  replace c2_2 := K2.out.at_ 2 _ rfl
  replace c2_3 := K2.out.at_ 3 _ rfl
  replace c3_0 := K3.out.at_ 0 _ rfl
  replace c3_1 := K3.out.at_ 1 _ rfl
  replace c3_2 := K3.out.at_ 2 _ rfl
  replace c4_0 := K4.out.at_ 0 _ rfl
  replace c4_1 := K4.out.at_ 1 _ rfl
  replace c4_2 := K4.out.at_ 2 _ rfl
  replace c5_0 := K5.out.at_ 0 _ rfl
  replace c5_1 := K5.out.at_ 1 _ rfl
  replace c5_2 := K5.out.at_ 2 _ rfl
  replace c6_0 := K6.out.at_ 0 _ rfl
  replace c6_1 := K6.out.at_ 1 _ rfl
  replace c6_2 := K6.out.at_ 2 _ rfl
  have c7_0 := K7.out.at_ 0 _ rfl
  have c7_1 := K7.out.at_ 1 _ rfl
  have c7_2 := K7.out.at_ 2 _ rfl
  rcases hx with ⟨rfl, rfl, rfl, rfl, zk⟩ | ⟨rfl, zk, dk, om⟩
  · have ZK := Lib.hid zk
    clear zk
    go_upto_region 15 with (
     (first
      | (go_at_call 13; with_reducible refine (ZK.out _ (baseI B.out)).mono ?_)
      | fail "arm"); rintro e wx ⟨rfl, q⟩; replace K0 := Lib.hid (K0.out.nearI q); replace K1 := Lib.hid (K1.out.nearI q); replace K2 := Lib.hid (K2.out.nearI q); replace K3 := Lib.hid (K3.out.nearI q); replace K4 := Lib.hid (K4.out.nearI q); replace K5 := Lib.hid (K5.out.nearI q); replace K6 := Lib.hid (K6.out.nearI q); replace K7 := Lib.hid (K7.out.nearI q); replace B := Lib.hid (goI B.out q); clear q; replace c0_0 := K0.out.at_ 0 _ rfl; replace c0_1 := K0.out.at_ 1 _ rfl; replace c0_2 := K0.out.at_ 2 _ rfl; replace c0_3 := K0.out.at_ 3 _ rfl; replace c1_0 := K1.out.at_ 0 _ rfl; replace c1_1 := K1.out.at_ 1 _ rfl; replace c1_2 := K1.out.at_ 2 _ rfl; replace c1_3 := K1.out.at_ 3 _ rfl; replace c2_0 := K2.out.at_ 0 _ rfl; replace c2_1 := K2.out.at_ 1 _ rfl; replace c2_2 := K2.out.at_ 2 _ rfl; replace c2_3 := K2.out.at_ 3 _ rfl; replace c3_0 := K3.out.at_ 0 _ rfl; replace c3_1 := K3.out.at_ 1 _ rfl; replace c3_2 := K3.out.at_ 2 _ rfl; replace c4_0 := K4.out.at_ 0 _ rfl; replace c4_1 := K4.out.at_ 1 _ rfl; replace c4_2 := K4.out.at_ 2 _ rfl; replace c5_0 := K5.out.at_ 0 _ rfl; replace c5_1 := K5.out.at_ 1 _ rfl; replace c5_2 := K5.out.at_ 2 _ rfl; replace c6_0 := K6.out.at_ 0 _ rfl; replace c6_1 := K6.out.at_ 1 _ rfl; replace c6_2 := K6.out.at_ 2 _ rfl; replace c7_0 := K7.out.at_ 0 _ rfl; replace c7_1 := K7.out.at_ 1 _ rfl; replace c7_2 := K7.out.at_ 2 _ rfl)
    rcases hy with ⟨rfl, rfl, rfl, rfl⟩ | ⟨hp, hd, rfl, rfl⟩ | ⟨hp, hd, rfl, hs, wk1, wk2, t2, t3, t4, qu⟩
    · go_wp2
      go_ret
      exact ⟨rfl, B.out⟩
    · rcases hp with t1 | ⟨t1, t2⟩
      all_goals
        go_wp2_with (
         (first
          | (go_at_call 17; with_reducible refine (T1.out _ (baseI B.out)).mono ?_)
          | fail "arm"); rintro e wx ⟨rfl, q⟩; replace K0 := Lib.hid (K0.out.nearI q); replace K1 := Lib.hid (K1.out.nearI q); replace K2 := Lib.hid (K2.out.nearI q); replace K3 := Lib.hid (K3.out.nearI q); replace K4 := Lib.hid (K4.out.nearI q); replace K5 := Lib.hid (K5.out.nearI q); replace K6 := Lib.hid (K6.out.nearI q); replace K7 := Lib.hid (K7.out.nearI q); replace B := Lib.hid (goI B.out q); clear q; replace c0_0 := K0.out.at_ 0 _ rfl; replace c0_1 := K0.out.at_ 1 _ rfl; replace c0_2 := K0.out.at_ 2 _ rfl; replace c0_3 := K0.out.at_ 3 _ rfl; replace c1_0 := K1.out.at_ 0 _ rfl; replace c1_1 := K1.out.at_ 1 _ rfl; replace c1_2 := K1.out.at_ 2 _ rfl; replace c1_3 := K1.out.at_ 3 _ rfl; replace c2_0 := K2.out.at_ 0 _ rfl; replace c2_1 := K2.out.at_ 1 _ rfl; replace c2_2 := K2.out.at_ 2 _ rfl; replace c2_3 := K2.out.at_ 3 _ rfl; replace c3_0 := K3.out.at_ 0 _ rfl; replace c3_1 := K3.out.at_ 1 _ rfl; replace c3_2 := K3.out.at_ 2 _ rfl; replace c4_0 := K4.out.at_ 0 _ rfl; replace c4_1 := K4.out.at_ 1 _ rfl; replace c4_2 := K4.out.at_ 2 _ rfl; replace c5_0 := K5.out.at_ 0 _ rfl; replace c5_1 := K5.out.at_ 1 _ rfl; replace c5_2 := K5.out.at_ 2 _ rfl; replace c6_0 := K6.out.at_ 0 _ rfl; replace c6_1 := K6.out.at_ 1 _ rfl; replace c6_2 := K6.out.at_ 2 _ rfl; replace c7_0 := K7.out.at_ 0 _ rfl; replace c7_1 := K7.out.at_ 1 _ rfl; replace c7_2 := K7.out.at_ 2 _ rfl)
        go_ret
        exact ⟨rfl, B.out⟩
    · have T2 := Lib.hid t2
      have T3 := Lib.hid t3
      have T4 := Lib.hid t4
      have QU := Lib.hid qu
      clear t2 t3 t4 qu
      rcases hp with t1 | ⟨t1, t2⟩
      all_goals
        go_upto_region 20 with (
         (first
          | (go_at_call 17; with_reducible refine (T1.out _ (baseI B.out)).mono ?_)
          | fail "arm"); rintro e wx ⟨rfl, q⟩; replace K0 := Lib.hid (K0.out.nearI q); replace K1 := Lib.hid (K1.out.nearI q); replace K2 := Lib.hid (K2.out.nearI q); replace K3 := Lib.hid (K3.out.nearI q); replace K4 := Lib.hid (K4.out.nearI q); replace K5 := Lib.hid (K5.out.nearI q); replace K6 := Lib.hid (K6.out.nearI q); replace K7 := Lib.hid (K7.out.nearI q); replace B := Lib.hid (goI B.out q); clear q; replace c0_0 := K0.out.at_ 0 _ rfl; replace c0_1 := K0.out.at_ 1 _ rfl; replace c0_2 := K0.out.at_ 2 _ rfl; replace c0_3 := K0.out.at_ 3 _ rfl; replace c1_0 := K1.out.at_ 0 _ rfl; replace c1_1 := K1.out.at_ 1 _ rfl; replace c1_2 := K1.out.at_ 2 _ rfl; replace c1_3 := K1.out.at_ 3 _ rfl; replace c2_0 := K2.out.at_ 0 _ rfl; replace c2_1 := K2.out.at_ 1 _ rfl; replace c2_2 := K2.out.at_ 2 _ rfl; replace c2_3 := K2.out.at_ 3 _ rfl; replace c3_0 := K3.out.at_ 0 _ rfl; replace c3_1 := K3.out.at_ 1 _ rfl; replace c3_2 := K3.out.at_ 2 _ rfl; replace c4_0 := K4.out.at_ 0 _ rfl; replace c4_1 := K4.out.at_ 1 _ rfl; replace c4_2 := K4.out.at_ 2 _ rfl; replace c5_0 := K5.out.at_ 0 _ rfl; replace c5_1 := K5.out.at_ 1 _ rfl; replace c5_2 := K5.out.at_ 2 _ rfl; replace c6_0 := K6.out.at_ 0 _ rfl; replace c6_1 := K6.out.at_ 1 _ rfl; replace c6_2 := K6.out.at_ 2 _ rfl; replace c7_0 := K7.out.at_ 0 _ rfl; replace c7_1 := K7.out.at_ 1 _ rfl; replace c7_2 := K7.out.at_ 2 _ rfl)
        have n8 := Blk.fresh wx #[.int .i64 (-p2), .int .i64 p1, .int .i64 0] 27
        replace K0 := Lib.hid (K0.out.alloc (Obj.cells #[.int .i64 (-p2), .int .i64 p1, .int .i64 0] 27))
        replace K1 := Lib.hid (K1.out.alloc (Obj.cells #[.int .i64 (-p2), .int .i64 p1, .int .i64 0] 27))
        replace K2 := Lib.hid (K2.out.alloc (Obj.cells #[.int .i64 (-p2), .int .i64 p1, .int .i64 0] 27))
        replace K3 := Lib.hid (K3.out.alloc (Obj.cells #[.int .i64 (-p2), .int .i64 p1, .int .i64 0] 27))
        replace K4 := Lib.hid (K4.out.alloc (Obj.cells #[.int .i64 (-p2), .int .i64 p1, .int .i64 0] 27))
        replace K5 := Lib.hid (K5.out.alloc (Obj.cells #[.int .i64 (-p2), .int .i64 p1, .int .i64 0] 27))
        replace K6 := Lib.hid (K6.out.alloc (Obj.cells #[.int .i64 (-p2), .int .i64 p1, .int .i64 0] 27))
        replace K7 := Lib.hid (K7.out.alloc (Obj.cells #[.int .i64 (-p2), .int .i64 p1, .int .i64 0] 27))
        replace B := Lib.hid (B.out.trans ((below_new wx (Obj.cells #[.int .i64 (-p2), .int .i64 p1, .int .i64 0] 27)).mono B.out.size))
        generalize wx.alloc (Obj.cells #[.int .i64 (-p2), .int .i64 p1, .int .i64 0] 27) = wl6 at *
        generalize wx.heap.size = gl6 at *
        have K8 := Lib.hid n8
        clear n8
        replace c0_0 := K0.out.at_ 0 _ rfl
        replace c0_1 := K0.out.at_ 1 _ rfl
        replace c0_2 := K0.out.at_ 2 _ rfl
        replace c0_3 := K0.out.at_ 3 _ rfl
        replace c1_0 := K1.out.at_ 0 _ rfl
        replace c1_1 := K1.out.at_ 1 _ rfl
        replace c1_2 := K1.out.at_ 2 _ rfl
        replace c1_3 := K1.out.at_ 3 _ rfl
        replace c2_0 := K2.out.at_ 0 _ rfl
        replace c2_1 := K2.out.at_ 1 _ rfl
        replace c2_2 := K2.out.at_ 2 _ rfl
        replace c2_3 := K2.out.at_ 3 _ rfl
        replace c3_0 := K3.out.at_ 0 _ rfl
        replace c3_1 := K3.out.at_ 1 _ rfl
        replace c3_2 := K3.out.at_ 2 _ rfl
        replace c4_0 := K4.out.at_ 0 _ rfl
        replace c4_1 := K4.out.at_ 1 _ rfl
        replace c4_2 := K4.out.at_ 2 _ rfl
        replace c5_0 := K5.out.at_ 0 _ rfl
        replace c5_1 := K5.out.at_ 1 _ rfl
        replace c5_2 := K5.out.at_ 2 _ rfl
        replace c6_0 := K6.out.at_ 0 _ rfl
        replace c6_1 := K6.out.at_ 1 _ rfl
        replace c6_2 := K6.out.at_ 2 _ rfl
        replace c7_0 := K7.out.at_ 0 _ rfl
        replace c7_1 := K7.out.at_ 1 _ rfl
        replace c7_2 := K7.out.at_ 2 _ rfl
        have c8_0 := K8.out.at_ 0 _ rfl
        have c8_1 := K8.out.at_ 1 _ rfl
        have c8_2 := K8.out.at_ 2 _ rfl
        clear c0_0 c0_1 c0_2 c0_3 c1_0 c1_1 c1_2 c1_3 c2_0 c2_1 c2_2 c2_3 c3_0 c3_1 c3_2 c4_0 c4_1 c4_2 c5_0 c5_1 c5_2 c6_0 c6_1 c6_2 c7_0 c7_1 c7_2 c8_0 c8_1 c8_2
        refine wp_region_par (by kernel_rfl) [127, 128, 129, 130, 131, 132, 133, 134, 135, 136, 137, 138, 139, 140, 141, 142, 143, 144, 145, 146, 147, 6] (fun L σ W => Vals [some 127, some 128, some 129, some 130, some 131, some 132, some 133, some 134, some 135, some 136, some 137, some 138, some 139, some 140, some 141, some 142, some 143, some 144, some 145, some 146, some 147, some 6] [(.int .i64 0), (.bool true), (.bool true), (.string R), (.agg #[.int .i64 (-p2), .int .i64 p1, .int .i64 0]), (.agg #[.int .i64 r1, .int .i64 r2, .int .i64 r3]), (.int .i64 f), (.agg #[.int .i64 (-p2), .int .i64 p1, .int .i64 0]), (.agg #[.int .i64 r1, .int .i64 r2, .int .i64 r3]), (.int .i64 f), (.int .i64 (f * f)), (.agg #[.int .i64 (-p2), .int .i64 p1, .int .i64 0]), (.agg #[.int .i64 (-p2), .int .i64 p1, .int .i64 0]), (.int .i64 n), (.agg #[.int .i64 r1, .int .i64 r2, .int .i64 r3]), (.agg #[.int .i64 r1, .int .i64 r2, .int .i64 r3]), (.int .i64 h), (.int .i64 (n * h)), (.string R), (.bool true), (.bool true), (.bool true)] L σ ∧ Blk W (w.heap.size) #[.int .i8 x1, .int .i8 y1, .int .i8 z1, .int .u8 b1] 24 ∧ Blk W (w.heap.size + 1) #[.int .i8 x2, .int .i8 y2, .int .i8 z2, .int .u8 b2] 24 ∧ Blk W (w.heap.size + 2) #[.int .i8 x3, .int .i8 y3, .int .i8 z3, .int .u8 b3] 24 ∧ Blk W (g3_6) #[.int .i64 p1, .int .i64 p2, .int .i64 p3] 27 ∧ Blk W (g3_7) #[.int .i64 q1, .int .i64 q2, .int .i64 q3] 27 ∧ Blk W (g3_8) #[.int .i64 r1, .int .i64 r2, .int .i64 r3] 27 ∧ Blk W (g5_8) #[.string ⟨#[]⟩, .string ⟨#[]⟩, .string ⟨#[]⟩] 34 ∧ Blk W (gl5) #[.int .i64 k1, .int .i64 k2, .int .i64 k3] 27 ∧ Blk W (gl6) #[.int .i64 (-p2), .int .i64 p1, .int .i64 0] 27 ∧ Below w.heap.size w W) (by kernel_rfl) (by kernel_rfl) (by kernel_rfl) ?_ ?_ ?_
        · exact fun σ => ⟨Vals.start, K0.out.below (Below.refl _ _).drew, K1.out.below (Below.refl _ _).drew, K2.out.below (Below.refl _ _).drew, K3.out.below (Below.refl _ _).drew, K4.out.below (Below.refl _ _).drew, K5.out.below (Below.refl _ _).drew, K6.out.below (Below.refl _ _).drew, K7.out.below (Below.refl _ _).drew, K8.out.below (Below.refl _ _).drew, B.out.drew⟩
        · refine ⟨?_, ?_, ?_, ?_, ?_, ?_, ?_, ?_, ?_, ?_, ?_, ?_, ?_, ?_, ?_, ?_, ?_, ?_, ?_, ?_, ?_, ?_, trivial⟩
          · rintro L a W ho ⟨V, jb0, jb1, jb2, jb3, jb4, jb5, jb6, jb7, jb8, bb⟩ hn hd K hK
            clear hd
            refine Wants.free rfl ?_
            have jr15 : a.tmps[(15 : Nat)]?.getD undef = .int .i64 0 := ho.slot 15 rfl
            go_simp
            exact hK.out (.int .i64 0) _ ⟨V.set 0 _ _ rfl rfl rfl, jb0, jb1, jb2, jb3, jb4, jb5, jb6, jb7, jb8, bb⟩
          · rintro L a W ho ⟨V, jb0, jb1, jb2, jb3, jb4, jb5, jb6, jb7, jb8, bb⟩ hn hd K hK
            have jh0 := hd.get 0 rfl
            clear hd
            refine Wants.free rfl ?_
            have jr127 := V.read 0 rfl rfl jh0
            go_simp
            exact hK.out (.bool true) _ ⟨V.set 1 _ _ rfl rfl rfl, jb0, jb1, jb2, jb3, jb4, jb5, jb6, jb7, jb8, bb⟩
          · rintro L a W ho ⟨V, jb0, jb1, jb2, jb3, jb4, jb5, jb6, jb7, jb8, bb⟩ hn hd K hK
            have jh1 := hd.get 1 rfl
            clear hd
            refine Wants.free rfl ?_
            have jr128 := V.read 1 rfl rfl jh1
            go_simp
            exact hK.out (.bool true) _ ⟨V.set 2 _ _ rfl rfl rfl, jb0, jb1, jb2, jb3, jb4, jb5, jb6, jb7, jb8, bb⟩
          · rintro L a W ho ⟨V, jb0, jb1, jb2, jb3, jb4, jb5, jb6, jb7, jb8, bb⟩ hn hd K hK
            have jh2 := hd.get 2 rfl
            clear hd
            refine Wants.pos (s := 129) rfl rfl (V 2 _ _ rfl rfl jh2) ?_
            have jr14 : a.tmps[(14 : Nat)]?.getD undef = .string R := ho.slot 14 rfl
            go_simp
            exact hK.out (.string R) _ ⟨V.set 3 _ _ rfl rfl rfl, jb0, jb1, jb2, jb3, jb4, jb5, jb6, jb7, jb8, bb⟩
          · rintro L a W ho ⟨V, jb0, jb1, jb2, jb3, jb4, jb5, jb6, jb7, jb8, bb⟩ hn hd K hK
            have jh2 := hd.get 2 rfl
            clear hd
            refine Wants.pos (s := 129) rfl rfl (V 2 _ _ rfl rfl jh2) ?_
            have jr17 : a.tmps[(17 : Nat)]?.getD undef = .pointer (some ⟨gl6, 0, none⟩) := ho.slot 17 rfl
            have jc0 := jb8.at_ 0 _ rfl
            have jc1 := jb8.at_ 1 _ rfl
            have jc2 := jb8.at_ 2 _ rfl
            go_simp
            exact hK.out (.agg #[.int .i64 (-p2), .int .i64 p1, .int .i64 0]) _ ⟨V.set 4 _ _ rfl rfl rfl, jb0, jb1, jb2, jb3, jb4, jb5, jb6, jb7, jb8, bb⟩
          · rintro L a W ho ⟨V, jb0, jb1, jb2, jb3, jb4, jb5, jb6, jb7, jb8, bb⟩ hn hd K hK
            have jh2 := hd.get 2 rfl
            clear hd
            refine Wants.pos (s := 129) rfl rfl (V 2 _ _ rfl rfl jh2) ?_
            have jr9 : a.tmps[(9 : Nat)]?.getD undef = .pointer (some ⟨g3_8, 0, none⟩) := ho.slot 9 rfl
            have jc0 := jb5.at_ 0 _ rfl
            have jc1 := jb5.at_ 1 _ rfl
            have jc2 := jb5.at_ 2 _ rfl
            go_simp
            exact hK.out (.agg #[.int .i64 r1, .int .i64 r2, .int .i64 r3]) _ ⟨V.set 5 _ _ rfl rfl rfl, jb0, jb1, jb2, jb3, jb4, jb5, jb6, jb7, jb8, bb⟩
          · rintro L a W ho ⟨V, jb0, jb1, jb2, jb3, jb4, jb5, jb6, jb7, jb8, bb⟩ hn hd K hK
            have jh4 := hd.get 4 rfl
            have jh5 := hd.get 5 rfl
            have jh2 := hd.get 2 rfl
            clear hd
            refine Wants.pos (s := 129) rfl rfl (V 2 _ _ rfl rfl jh2) ?_
            have jr131 := V.read 4 rfl rfl jh4
            have jr132 := V.read 5 rfl rfl jh5
            go_simp
            go_at_call 17
            with_reducible refine (T2.out _ bb).mono ?_
            rintro e wx ⟨rfl, q⟩
            go_simp
            exact hK.out (.int .i64 f) _ ⟨V.set 6 _ _ rfl rfl rfl, jb0.below q, jb1.below q, jb2.below q, jb3.below q, jb4.below q, jb5.below q, jb6.below q, jb7.below q, jb8.below q, bb.trans (q.mono bb.size)⟩
          · rintro L a W ho ⟨V, jb0, jb1, jb2, jb3, jb4, jb5, jb6, jb7, jb8, bb⟩ hn hd K hK
            have jh2 := hd.get 2 rfl
            clear hd
            refine Wants.pos (s := 129) rfl rfl (V 2 _ _ rfl rfl jh2) ?_
            have jr17 : a.tmps[(17 : Nat)]?.getD undef = .pointer (some ⟨gl6, 0, none⟩) := ho.slot 17 rfl
            have jc0 := jb8.at_ 0 _ rfl
            have jc1 := jb8.at_ 1 _ rfl
            have jc2 := jb8.at_ 2 _ rfl
            go_simp
            exact hK.out (.agg #[.int .i64 (-p2), .int .i64 p1, .int .i64 0]) _ ⟨V.set 7 _ _ rfl rfl rfl, jb0, jb1, jb2, jb3, jb4, jb5, jb6, jb7, jb8, bb⟩
          · rintro L a W ho ⟨V, jb0, jb1, jb2, jb3, jb4, jb5, jb6, jb7, jb8, bb⟩ hn hd K hK
            have jh2 := hd.get 2 rfl
            clear hd
            refine Wants.pos (s := 129) rfl rfl (V 2 _ _ rfl rfl jh2) ?_
            have jr9 : a.tmps[(9 : Nat)]?.getD undef = .pointer (some ⟨g3_8, 0, none⟩) := ho.slot 9 rfl
            have jc0 := jb5.at_ 0 _ rfl
            have jc1 := jb5.at_ 1 _ rfl
            have jc2 := jb5.at_ 2 _ rfl
            go_simp
            exact hK.out (.agg #[.int .i64 r1, .int .i64 r2, .int .i64 r3]) _ ⟨V.set 8 _ _ rfl rfl rfl, jb0, jb1, jb2, jb3, jb4, jb5, jb6, jb7, jb8, bb⟩
          · rintro L a W ho ⟨V, jb0, jb1, jb2, jb3, jb4, jb5, jb6, jb7, jb8, bb⟩ hn hd K hK
            have jh7 := hd.get 7 rfl
            have jh8 := hd.get 8 rfl
            have jh2 := hd.get 2 rfl
            clear hd
            refine Wants.pos (s := 129) rfl rfl (V 2 _ _ rfl rfl jh2) ?_
            have jr134 := V.read 7 rfl rfl jh7
            have jr135 := V.read 8 rfl rfl jh8
            go_simp
            go_at_call 17
            with_reducible refine (T2.out _ bb).mono ?_
            rintro e wx ⟨rfl, q⟩
            go_simp
            exact hK.out (.int .i64 f) _ ⟨V.set 9 _ _ rfl rfl rfl, jb0.below q, jb1.below q, jb2.below q, jb3.below q, jb4.below q, jb5.below q, jb6.below q, jb7.below q, jb8.below q, bb.trans (q.mono bb.size)⟩
          · rintro L a W ho ⟨V, jb0, jb1, jb2, jb3, jb4, jb5, jb6, jb7, jb8, bb⟩ hn hd K hK
            have jh6 := hd.get 6 rfl
            have jh9 := hd.get 9 rfl
            have jh2 := hd.get 2 rfl
            clear hd
            refine Wants.pos (s := 129) rfl rfl (V 2 _ _ rfl rfl jh2) ?_
            have jr133 := V.read 6 rfl rfl jh6
            have jr136 := V.read 9 rfl rfl jh9
            go_simp
            exact hK.out (.int .i64 (f * f)) _ ⟨V.set 10 _ _ rfl rfl rfl, jb0, jb1, jb2, jb3, jb4, jb5, jb6, jb7, jb8, bb⟩
          · rintro L a W ho ⟨V, jb0, jb1, jb2, jb3, jb4, jb5, jb6, jb7, jb8, bb⟩ hn hd K hK
            have jh2 := hd.get 2 rfl
            clear hd
            refine Wants.pos (s := 129) rfl rfl (V 2 _ _ rfl rfl jh2) ?_
            have jr17 : a.tmps[(17 : Nat)]?.getD undef = .pointer (some ⟨gl6, 0, none⟩) := ho.slot 17 rfl
            have jc0 := jb8.at_ 0 _ rfl
            have jc1 := jb8.at_ 1 _ rfl
            have jc2 := jb8.at_ 2 _ rfl
            go_simp
            exact hK.out (.agg #[.int .i64 (-p2), .int .i64 p1, .int .i64 0]) _ ⟨V.set 11 _ _ rfl rfl rfl, jb0, jb1, jb2, jb3, jb4, jb5, jb6, jb7, jb8, bb⟩
          · rintro L a W ho ⟨V, jb0, jb1, jb2, jb3, jb4, jb5, jb6, jb7, jb8, bb⟩ hn hd K hK
            have jh2 := hd.get 2 rfl
            clear hd
            refine Wants.pos (s := 129) rfl rfl (V 2 _ _ rfl rfl jh2) ?_
            have jr17 : a.tmps[(17 : Nat)]?.getD undef = .pointer (some ⟨gl6, 0, none⟩) := ho.slot 17 rfl
            have jc0 := jb8.at_ 0 _ rfl
            have jc1 := jb8.at_ 1 _ rfl
            have jc2 := jb8.at_ 2 _ rfl
            go_simp
            exact hK.out (.agg #[.int .i64 (-p2), .int .i64 p1, .int .i64 0]) _ ⟨V.set 12 _ _ rfl rfl rfl, jb0, jb1, jb2, jb3, jb4, jb5, jb6, jb7, jb8, bb⟩
          · rintro L a W ho ⟨V, jb0, jb1, jb2, jb3, jb4, jb5, jb6, jb7, jb8, bb⟩ hn hd K hK
            have jh11 := hd.get 11 rfl
            have jh12 := hd.get 12 rfl
            have jh2 := hd.get 2 rfl
            clear hd
            refine Wants.pos (s := 129) rfl rfl (V 2 _ _ rfl rfl jh2) ?_
            have jr138 := V.read 11 rfl rfl jh11
            have jr139 := V.read 12 rfl rfl jh12
            go_simp
            go_at_call 17
            with_reducible refine (T3.out _ bb).mono ?_
            rintro e wx ⟨rfl, q⟩
            go_simp
            exact hK.out (.int .i64 n) _ ⟨V.set 13 _ _ rfl rfl rfl, jb0.below q, jb1.below q, jb2.below q, jb3.below q, jb4.below q, jb5.below q, jb6.below q, jb7.below q, jb8.below q, bb.trans (q.mono bb.size)⟩
          · rintro L a W ho ⟨V, jb0, jb1, jb2, jb3, jb4, jb5, jb6, jb7, jb8, bb⟩ hn hd K hK
            have jh2 := hd.get 2 rfl
            clear hd
            refine Wants.pos (s := 129) rfl rfl (V 2 _ _ rfl rfl jh2) ?_
            have jr9 : a.tmps[(9 : Nat)]?.getD undef = .pointer (some ⟨g3_8, 0, none⟩) := ho.slot 9 rfl
            have jc0 := jb5.at_ 0 _ rfl
            have jc1 := jb5.at_ 1 _ rfl
            have jc2 := jb5.at_ 2 _ rfl
            go_simp
            exact hK.out (.agg #[.int .i64 r1, .int .i64 r2, .int .i64 r3]) _ ⟨V.set 14 _ _ rfl rfl rfl, jb0, jb1, jb2, jb3, jb4, jb5, jb6, jb7, jb8, bb⟩
          · rintro L a W ho ⟨V, jb0, jb1, jb2, jb3, jb4, jb5, jb6, jb7, jb8, bb⟩ hn hd K hK
            have jh2 := hd.get 2 rfl
            clear hd
            refine Wants.pos (s := 129) rfl rfl (V 2 _ _ rfl rfl jh2) ?_
            have jr9 : a.tmps[(9 : Nat)]?.getD undef = .pointer (some ⟨g3_8, 0, none⟩) := ho.slot 9 rfl
            have jc0 := jb5.at_ 0 _ rfl
            have jc1 := jb5.at_ 1 _ rfl
            have jc2 := jb5.at_ 2 _ rfl
            go_simp
            exact hK.out (.agg #[.int .i64 r1, .int .i64 r2, .int .i64 r3]) _ ⟨V.set 15 _ _ rfl rfl rfl, jb0, jb1, jb2, jb3, jb4, jb5, jb6, jb7, jb8, bb⟩
          · rintro L a W ho ⟨V, jb0, jb1, jb2, jb3, jb4, jb5, jb6, jb7, jb8, bb⟩ hn hd K hK
            have jh14 := hd.get 14 rfl
            have jh15 := hd.get 15 rfl
            have jh2 := hd.get 2 rfl
            clear hd
            refine Wants.pos (s := 129) rfl rfl (V 2 _ _ rfl rfl jh2) ?_
            have jr141 := V.read 14 rfl rfl jh14
            have jr142 := V.read 15 rfl rfl jh15
            go_simp
            go_at_call 17
            with_reducible refine (T4.out _ bb).mono ?_
            rintro e wx ⟨rfl, q⟩
            go_simp
            exact hK.out (.int .i64 h) _ ⟨V.set 16 _ _ rfl rfl rfl, jb0.below q, jb1.below q, jb2.below q, jb3.below q, jb4.below q, jb5.below q, jb6.below q, jb7.below q, jb8.below q, bb.trans (q.mono bb.size)⟩
          · rintro L a W ho ⟨V, jb0, jb1, jb2, jb3, jb4, jb5, jb6, jb7, jb8, bb⟩ hn hd K hK
            have jh13 := hd.get 13 rfl
            have jh16 := hd.get 16 rfl
            have jh2 := hd.get 2 rfl
            clear hd
            refine Wants.pos (s := 129) rfl rfl (V 2 _ _ rfl rfl jh2) ?_
            have jr140 := V.read 13 rfl rfl jh13
            have jr143 := V.read 16 rfl rfl jh16
            go_simp
            exact hK.out (.int .i64 (n * h)) _ ⟨V.set 17 _ _ rfl rfl rfl, jb0, jb1, jb2, jb3, jb4, jb5, jb6, jb7, jb8, bb⟩
          · rintro L a W ho ⟨V, jb0, jb1, jb2, jb3, jb4, jb5, jb6, jb7, jb8, bb⟩ hn hd K hK
            have jh10 := hd.get 10 rfl
            have jh17 := hd.get 17 rfl
            have jh2 := hd.get 2 rfl
            clear hd
            refine Wants.pos (s := 129) rfl rfl (V 2 _ _ rfl rfl jh2) ?_
            have jr137 := V.read 10 rfl rfl jh10
            have jr144 := V.read 17 rfl rfl jh17
            go_simp
            go_at_call 26
            with_reducible refine (QU.out _ bb).mono ?_
            rintro e wx ⟨rfl, q⟩
            go_simp
            exact hK.out (.string R) _ ⟨V.set 18 _ _ rfl rfl rfl, jb0.below q, jb1.below q, jb2.below q, jb3.below q, jb4.below q, jb5.below q, jb6.below q, jb7.below q, jb8.below q, bb.trans (q.mono bb.size)⟩
          · rintro L a W ho ⟨V, jb0, jb1, jb2, jb3, jb4, jb5, jb6, jb7, jb8, bb⟩ hn hd K hK
            have jh3 := hd.get 3 rfl
            have jh18 := hd.get 18 rfl
            have jh2 := hd.get 2 rfl
            clear hd
            refine Wants.pos (s := 129) rfl rfl (V 2 _ _ rfl rfl jh2) ?_
            have jr130 := V.read 3 rfl rfl jh3
            have jr145 := V.read 18 rfl rfl jh18
            go_simp
            exact hK.out (.bool true) _ ⟨V.set 19 _ _ rfl rfl rfl, jb0, jb1, jb2, jb3, jb4, jb5, jb6, jb7, jb8, bb⟩
          · rintro L a W ho ⟨V, jb0, jb1, jb2, jb3, jb4, jb5, jb6, jb7, jb8, bb⟩ hn hd K hK
            have jh2 := hd.get 2 rfl
            have jh19 := hd.get 19 rfl
            clear hd
            refine Wants.free rfl ?_
            have jr129 := V.read 2 rfl rfl jh2
            have jr146 := V.read 19 rfl rfl jh19
            go_simp
            exact hK.out (.bool true) _ ⟨V.set 20 _ _ rfl rfl rfl, jb0, jb1, jb2, jb3, jb4, jb5, jb6, jb7, jb8, bb⟩
          · rintro L a W ho ⟨V, jb0, jb1, jb2, jb3, jb4, jb5, jb6, jb7, jb8, bb⟩ hn hd K hK
            have jh20 := hd.get 20 rfl
            clear hd
            refine Wants.free rfl ?_
            have jr147 := V.read 20 rfl rfl jh20
            go_simp
            exact hK.out (.bool true) _ ⟨V.set 21 _ _ rfl rfl rfl, jb0, jb1, jb2, jb3, jb4, jb5, jb6, jb7, jb8, bb⟩
        rintro L σ W ⟨V, jb0, jb1, jb2, jb3, jb4, jb5, jb6, jb7, jb8, bb⟩ hL
        have jf0 := V 0 _ _ rfl rfl (hL 0 (by decide))
        have jf1 := V 1 _ _ rfl rfl (hL 1 (by decide))
        have jf2 := V 2 _ _ rfl rfl (hL 2 (by decide))
        have jf3 := V 3 _ _ rfl rfl (hL 3 (by decide))
        have jf4 := V 4 _ _ rfl rfl (hL 4 (by decide))
        have jf5 := V 5 _ _ rfl rfl (hL 5 (by decide))
        have jf6 := V 6 _ _ rfl rfl (hL 6 (by decide))
        have jf7 := V 7 _ _ rfl rfl (hL 7 (by decide))
        have jf8 := V 8 _ _ rfl rfl (hL 8 (by decide))
        have jf9 := V 9 _ _ rfl rfl (hL 9 (by decide))
        have jf10 := V 10 _ _ rfl rfl (hL 10 (by decide))
        have jf11 := V 11 _ _ rfl rfl (hL 11 (by decide))
        have jf12 := V 12 _ _ rfl rfl (hL 12 (by decide))
        have jf13 := V 13 _ _ rfl rfl (hL 13 (by decide))
        have jf14 := V 14 _ _ rfl rfl (hL 14 (by decide))
        have jf15 := V 15 _ _ rfl rfl (hL 15 (by decide))
        have jf16 := V 16 _ _ rfl rfl (hL 16 (by decide))
        have jf17 := V 17 _ _ rfl rfl (hL 17 (by decide))
        have jf18 := V 18 _ _ rfl rfl (hL 18 (by decide))
        have jf19 := V 19 _ _ rfl rfl (hL 19 (by decide))
        have jf20 := V 20 _ _ rfl rfl (hL 20 (by decide))
        have jf21 := V 21 _ _ rfl rfl (hL 21 (by decide))
        clear V
        clear hL
        rw [show List.map σ [127, 128, 129, 130, 131, 132, 133, 134, 135, 136, 137, 138, 139, 140, 141, 142, 143, 144, 145, 146, 147, 6] = [σ 127, σ 128, σ 129, σ 130, σ 131, σ 132, σ 133, σ 134, σ 135, σ 136, σ 137, σ 138, σ 139, σ 140, σ 141, σ 142, σ 143, σ 144, σ 145, σ 146, σ 147, σ 6] from rfl, jf0, jf1, jf2, jf3, jf4, jf5, jf6, jf7, jf8, jf9, jf10, jf11, jf12, jf13, jf14, jf15, jf16, jf17, jf18, jf19, jf20, jf21]
        clear jf0 jf1 jf2 jf3 jf4 jf5 jf6 jf7 jf8 jf9 jf10 jf11 jf12 jf13 jf14 jf15 jf16 jf17 jf18 jf19 jf20 jf21
        simp only [putAll, List.map, Act.put, List.setIfInBounds_toArray, List.set_cons_succ, List.set_cons_zero]
        replace K0 := Lib.hid jb0
        replace K1 := Lib.hid jb1
        replace K2 := Lib.hid jb2
        replace K3 := Lib.hid jb3
        replace K4 := Lib.hid jb4
        replace K5 := Lib.hid jb5
        replace K6 := Lib.hid jb6
        replace K7 := Lib.hid jb7
        replace K8 := Lib.hid jb8
        replace B := Lib.hid bb
        clear bb jb0 jb1 jb2 jb3 jb4 jb5 jb6 jb7 jb8
        have c0_0 := K0.out.at_ 0 _ rfl
        have c0_1 := K0.out.at_ 1 _ rfl
        have c0_2 := K0.out.at_ 2 _ rfl
        have c0_3 := K0.out.at_ 3 _ rfl
        have c1_0 := K1.out.at_ 0 _ rfl
        have c1_1 := K1.out.at_ 1 _ rfl
        have c1_2 := K1.out.at_ 2 _ rfl
        have c1_3 := K1.out.at_ 3 _ rfl
        have c2_0 := K2.out.at_ 0 _ rfl
        have c2_1 := K2.out.at_ 1 _ rfl
        have c2_2 := K2.out.at_ 2 _ rfl
        have c2_3 := K2.out.at_ 3 _ rfl
        have c3_0 := K3.out.at_ 0 _ rfl
        have c3_1 := K3.out.at_ 1 _ rfl
        have c3_2 := K3.out.at_ 2 _ rfl
        have c4_0 := K4.out.at_ 0 _ rfl
        have c4_1 := K4.out.at_ 1 _ rfl
        have c4_2 := K4.out.at_ 2 _ rfl
        have c5_0 := K5.out.at_ 0 _ rfl
        have c5_1 := K5.out.at_ 1 _ rfl
        have c5_2 := K5.out.at_ 2 _ rfl
        have c6_0 := K6.out.at_ 0 _ rfl
        have c6_1 := K6.out.at_ 1 _ rfl
        have c6_2 := K6.out.at_ 2 _ rfl
        have c7_0 := K7.out.at_ 0 _ rfl
        have c7_1 := K7.out.at_ 1 _ rfl
        have c7_2 := K7.out.at_ 2 _ rfl
        have c8_0 := K8.out.at_ 0 _ rfl
        have c8_1 := K8.out.at_ 1 _ rfl
        have c8_2 := K8.out.at_ 2 _ rfl
        go_wp2
        go_ret
        exact ⟨rfl, B.out⟩
  · have ZK := Lib.hid zk
    have DK := Lib.hid dk
    have OM := Lib.hid om
    clear zk dk om
    go_upto_region 13 with (
     (first
      | (go_at_call 13; with_reducible refine (ZK.out _ (baseI B.out)).mono ?_)
      | fail "arm"); rintro e wx ⟨rfl, q⟩; replace K0 := Lib.hid (K0.out.nearI q); replace K1 := Lib.hid (K1.out.nearI q); replace K2 := Lib.hid (K2.out.nearI q); replace K3 := Lib.hid (K3.out.nearI q); replace K4 := Lib.hid (K4.out.nearI q); replace K5 := Lib.hid (K5.out.nearI q); replace K6 := Lib.hid (K6.out.nearI q); replace K7 := Lib.hid (K7.out.nearI q); replace B := Lib.hid (goI B.out q); clear q; replace c0_0 := K0.out.at_ 0 _ rfl; replace c0_1 := K0.out.at_ 1 _ rfl; replace c0_2 := K0.out.at_ 2 _ rfl; replace c0_3 := K0.out.at_ 3 _ rfl; replace c1_0 := K1.out.at_ 0 _ rfl; replace c1_1 := K1.out.at_ 1 _ rfl; replace c1_2 := K1.out.at_ 2 _ rfl; replace c1_3 := K1.out.at_ 3 _ rfl; replace c2_0 := K2.out.at_ 0 _ rfl; replace c2_1 := K2.out.at_ 1 _ rfl; replace c2_2 := K2.out.at_ 2 _ rfl; replace c2_3 := K2.out.at_ 3 _ rfl; replace c3_0 := K3.out.at_ 0 _ rfl; replace c3_1 := K3.out.at_ 1 _ rfl; replace c3_2 := K3.out.at_ 2 _ rfl; replace c4_0 := K4.out.at_ 0 _ rfl; replace c4_1 := K4.out.at_ 1 _ rfl; replace c4_2 := K4.out.at_ 2 _ rfl; replace c5_0 := K5.out.at_ 0 _ rfl; replace c5_1 := K5.out.at_ 1 _ rfl; replace c5_2 := K5.out.at_ 2 _ rfl; replace c6_0 := K6.out.at_ 0 _ rfl; replace c6_1 := K6.out.at_ 1 _ rfl; replace c6_2 := K6.out.at_ 2 _ rfl; replace c7_0 := K7.out.at_ 0 _ rfl; replace c7_1 := K7.out.at_ 1 _ rfl; replace c7_2 := K7.out.at_ 2 _ rfl)
    clear c0_0 c0_1 c0_2 c0_3 c1_0 c1_1 c1_2 c1_3 c2_0 c2_1 c2_2 c2_3 c3_0 c3_1 c3_2 c4_0 c4_1 c4_2 c5_0 c5_1 c5_2 c6_0 c6_1 c6_2 c7_0 c7_1 c7_2
    refine wp_region_par (by kernel_rfl) [88, 89, 90, 91, 92, 93, 94, 95, 96] (fun L σ W => Vals [some 88, some 89, some 90, some 91, some 92, some 93, some 94, some 95, some 96] [(.int .i64 0), (.bool false), (.bool false), (.agg #[.string P1, .string P2, .string P3]), (.agg #[.int .i64 k1, .int .i64 k2, .int .i64 k3]), (.agg #[.int .i64 m1, .int .i64 m2, .int .i64 m3]), (.agg #[.string P1, .string P2, .string P3]), (.bool false), (.bool false)] L σ ∧ Blk W (w.heap.size) #[.int .i8 x1, .int .i8 y1, .int .i8 z1, .int .u8 b1] 24 ∧ Blk W (w.heap.size + 1) #[.int .i8 x2, .int .i8 y2, .int .i8 z2, .int .u8 b2] 24 ∧ Blk W (w.heap.size + 2) #[.int .i8 x3, .int .i8 y3, .int .i8 z3, .int .u8 b3] 24 ∧ Blk W (g3_6) #[.int .i64 p1, .int .i64 p2, .int .i64 p3] 27 ∧ Blk W (g3_7) #[.int .i64 q1, .int .i64 q2, .int .i64 q3] 27 ∧ Blk W (g3_8) #[.int .i64 r1, .int .i64 r2, .int .i64 r3] 27 ∧ Blk W (g5_8) #[.string P1, .string P2, .string P3] 34 ∧ Blk W (gl5) #[.int .i64 k1, .int .i64 k2, .int .i64 k3] 27 ∧ Below w.heap.size w W) (by kernel_rfl) (by kernel_rfl) (by kernel_rfl) ?_ ?_ ?_
    · exact fun σ => ⟨Vals.start, K0.out.below (Below.refl _ _).drew, K1.out.below (Below.refl _ _).drew, K2.out.below (Below.refl _ _).drew, K3.out.below (Below.refl _ _).drew, K4.out.below (Below.refl _ _).drew, K5.out.below (Below.refl _ _).drew, K6.out.below (Below.refl _ _).drew, K7.out.below (Below.refl _ _).drew, B.out.drew⟩
    · refine ⟨?_, ?_, ?_, ?_, ?_, ?_, ?_, ?_, ?_, trivial⟩
      · rintro L a W ho ⟨V, jb0, jb1, jb2, jb3, jb4, jb5, jb6, jb7, bb⟩ hn hd K hK
        clear hd
        refine Wants.free rfl ?_
        have jr13 : a.tmps[(13 : Nat)]?.getD undef = .int .i64 0 := ho.slot 13 rfl
        go_simp
        exact hK.out (.int .i64 0) _ ⟨V.set 0 _ _ rfl rfl rfl, jb0, jb1, jb2, jb3, jb4, jb5, jb6, jb7, bb⟩
      · rintro L a W ho ⟨V, jb0, jb1, jb2, jb3, jb4, jb5, jb6, jb7, bb⟩ hn hd K hK
        have jh0 := hd.get 0 rfl
        clear hd
        refine Wants.free rfl ?_
        have jr88 := V.read 0 rfl rfl jh0
        go_simp
        exact hK.out (.bool false) _ ⟨V.set 1 _ _ rfl rfl rfl, jb0, jb1, jb2, jb3, jb4, jb5, jb6, jb7, bb⟩
      · rintro L a W ho ⟨V, jb0, jb1, jb2, jb3, jb4, jb5, jb6, jb7, bb⟩ hn hd K hK
        have jh1 := hd.get 1 rfl
        clear hd
        refine Wants.free rfl ?_
        have jr89 := V.read 1 rfl rfl jh1
        go_simp
        exact hK.out (.bool false) _ ⟨V.set 2 _ _ rfl rfl rfl, jb0, jb1, jb2, jb3, jb4, jb5, jb6, jb7, bb⟩
      · rintro L a W ho ⟨V, jb0, jb1, jb2, jb3, jb4, jb5, jb6, jb7, bb⟩ hn hd K hK
        have jh2 := hd.get 2 rfl
        clear hd
        refine Wants.pos (s := 90) rfl rfl (V 2 _ _ rfl rfl jh2) ?_
        have jr12 : a.tmps[(12 : Nat)]?.getD undef = .pointer (some ⟨g5_8, 0, none⟩) := ho.slot 12 rfl
        have jc0 := jb6.at_ 0 _ rfl
        have jc1 := jb6.at_ 1 _ rfl
        have jc2 := jb6.at_ 2 _ rfl
        go_simp
        exact hK.out (.agg #[.string P1, .string P2, .string P3]) _ ⟨V.set 3 _ _ rfl rfl rfl, jb0, jb1, jb2, jb3, jb4, jb5, jb6, jb7, bb⟩
      · rintro L a W ho ⟨V, jb0, jb1, jb2, jb3, jb4, jb5, jb6, jb7, bb⟩ hn hd K hK
        have jh2 := hd.get 2 rfl
        clear hd
        refine Wants.pos (s := 90) rfl rfl (V 2 _ _ rfl rfl jh2) ?_
        have jr16 : a.tmps[(16 : Nat)]?.getD undef = .pointer (some ⟨gl5, 0, none⟩) := ho.slot 16 rfl
        have jc0 := jb7.at_ 0 _ rfl
        have jc1 := jb7.at_ 1 _ rfl
        have jc2 := jb7.at_ 2 _ rfl
        go_simp
        exact hK.out (.agg #[.int .i64 k1, .int .i64 k2, .int .i64 k3]) _ ⟨V.set 4 _ _ rfl rfl rfl, jb0, jb1, jb2, jb3, jb4, jb5, jb6, jb7, bb⟩
      · rintro L a W ho ⟨V, jb0, jb1, jb2, jb3, jb4, jb5, jb6, jb7, bb⟩ hn hd K hK
        have jh4 := hd.get 4 rfl
        have jh2 := hd.get 2 rfl
        clear hd
        refine Wants.pos (s := 90) rfl rfl (V 2 _ _ rfl rfl jh2) ?_
        have jr92 := V.read 4 rfl rfl jh4
        go_simp
        go_at_call 21
        with_reducible refine (DK.out _ bb).mono ?_
        rintro e wx ⟨rfl, q⟩
        go_simp
        exact hK.out (.agg #[.int .i64 m1, .int .i64 m2, .int .i64 m3]) _ ⟨V.set 5 _ _ rfl rfl rfl, jb0.below q, jb1.below q, jb2.below q, jb3.below q, jb4.below q, jb5.below q, jb6.below q, jb7.below q, bb.trans (q.mono bb.size)⟩
      · rintro L a W ho ⟨V, jb0, jb1, jb2, jb3, jb4, jb5, jb6, jb7, bb⟩ hn hd K hK
        have jh5 := hd.get 5 rfl
        have jh2 := hd.get 2 rfl
        clear hd
        refine Wants.pos (s := 90) rfl rfl (V 2 _ _ rfl rfl jh2) ?_
        have jr93 := V.read 5 rfl rfl jh5
        go_simp
        go_at_call 20
        with_reducible refine (OM.out _ bb).mono ?_
        rintro e wx ⟨rfl, q⟩
        go_simp
        exact hK.out (.agg #[.string P1, .string P2, .string P3]) _ ⟨V.set 6 _ _ rfl rfl rfl, jb0.below q, jb1.below q, jb2.below q, jb3.below q, jb4.below q, jb5.below q, jb6.below q, jb7.below q, bb.trans (q.mono bb.size)⟩
      · rintro L a W ho ⟨V, jb0, jb1, jb2, jb3, jb4, jb5, jb6, jb7, bb⟩ hn hd K hK
        have jh3 := hd.get 3 rfl
        have jh6 := hd.get 6 rfl
        have jh2 := hd.get 2 rfl
        clear hd
        refine Wants.pos (s := 90) rfl rfl (V 2 _ _ rfl rfl jh2) ?_
        have jr91 := V.read 3 rfl rfl jh3
        have jr94 := V.read 6 rfl rfl jh6
        go_simp
        exact hK.out (.bool false) _ ⟨V.set 7 _ _ rfl rfl rfl, jb0, jb1, jb2, jb3, jb4, jb5, jb6, jb7, bb⟩
      · rintro L a W ho ⟨V, jb0, jb1, jb2, jb3, jb4, jb5, jb6, jb7, bb⟩ hn hd K hK
        have jh2 := hd.get 2 rfl
        have jh7 := hd.get 7 rfl
        clear hd
        refine Wants.free rfl ?_
        have jr90 := V.read 2 rfl rfl jh2
        have jr95 := V.read 7 rfl rfl jh7
        go_simp
        exact hK.out (.bool false) _ ⟨V.set 8 _ _ rfl rfl rfl, jb0, jb1, jb2, jb3, jb4, jb5, jb6, jb7, bb⟩
    rintro L σ W ⟨V, jb0, jb1, jb2, jb3, jb4, jb5, jb6, jb7, bb⟩ hL
    have jf0 := V 0 _ _ rfl rfl (hL 0 (by decide))
    have jf1 := V 1 _ _ rfl rfl (hL 1 (by decide))
    have jf2 := V 2 _ _ rfl rfl (hL 2 (by decide))
    have jf3 := V 3 _ _ rfl rfl (hL 3 (by decide))
    have jf4 := V 4 _ _ rfl rfl (hL 4 (by decide))
    have jf5 := V 5 _ _ rfl rfl (hL 5 (by decide))
    have jf6 := V 6 _ _ rfl rfl (hL 6 (by decide))
    have jf7 := V 7 _ _ rfl rfl (hL 7 (by decide))
    have jf8 := V 8 _ _ rfl rfl (hL 8 (by decide))
    clear V
    clear hL
    rw [show List.map σ [88, 89, 90, 91, 92, 93, 94, 95, 96] = [σ 88, σ 89, σ 90, σ 91, σ 92, σ 93, σ 94, σ 95, σ 96] from rfl, jf0, jf1, jf2, jf3, jf4, jf5, jf6, jf7, jf8]
    clear jf0 jf1 jf2 jf3 jf4 jf5 jf6 jf7 jf8
    simp only [putAll, List.map, Act.put, List.setIfInBounds_toArray, List.set_cons_succ, List.set_cons_zero]
    replace K0 := Lib.hid jb0
    replace K1 := Lib.hid jb1
    replace K2 := Lib.hid jb2
    replace K3 := Lib.hid jb3
    replace K4 := Lib.hid jb4
    replace K5 := Lib.hid jb5
    replace K6 := Lib.hid jb6
    replace K7 := Lib.hid jb7
    replace B := Lib.hid bb
    clear bb jb0 jb1 jb2 jb3 jb4 jb5 jb6 jb7
    have c0_0 := K0.out.at_ 0 _ rfl
    have c0_1 := K0.out.at_ 1 _ rfl
    have c0_2 := K0.out.at_ 2 _ rfl
    have c0_3 := K0.out.at_ 3 _ rfl
    have c1_0 := K1.out.at_ 0 _ rfl
    have c1_1 := K1.out.at_ 1 _ rfl
    have c1_2 := K1.out.at_ 2 _ rfl
    have c1_3 := K1.out.at_ 3 _ rfl
    have c2_0 := K2.out.at_ 0 _ rfl
    have c2_1 := K2.out.at_ 1 _ rfl
    have c2_2 := K2.out.at_ 2 _ rfl
    have c2_3 := K2.out.at_ 3 _ rfl
    have c3_0 := K3.out.at_ 0 _ rfl
    have c3_1 := K3.out.at_ 1 _ rfl
    have c3_2 := K3.out.at_ 2 _ rfl
    have c4_0 := K4.out.at_ 0 _ rfl
    have c4_1 := K4.out.at_ 1 _ rfl
    have c4_2 := K4.out.at_ 2 _ rfl
    have c5_0 := K5.out.at_ 0 _ rfl
    have c5_1 := K5.out.at_ 1 _ rfl
    have c5_2 := K5.out.at_ 2 _ rfl
    have c6_0 := K6.out.at_ 0 _ rfl
    have c6_1 := K6.out.at_ 1 _ rfl
    have c6_2 := K6.out.at_ 2 _ rfl
    have c7_0 := K7.out.at_ 0 _ rfl
    have c7_1 := K7.out.at_ 1 _ rfl
    have c7_2 := K7.out.at_ 2 _ rfl
    go_upto_region 15 with (fail)
    rcases hy with ⟨rfl, rfl, rfl, rfl⟩ | ⟨hp, hd, rfl, rfl⟩ | ⟨hp, hd, rfl, hs, wk1, wk2, t2, t3, t4, qu⟩
    · go_wp2
      go_ret
      exact ⟨rfl, B.out⟩
    · rcases hp with t1 | ⟨t1, t2⟩
      all_goals
        go_wp2_with (
         (first
          | (go_at_call 17; with_reducible refine (T1.out _ (baseI B.out)).mono ?_)
          | fail "arm"); rintro e wx ⟨rfl, q⟩; replace K0 := Lib.hid (K0.out.nearI q); replace K1 := Lib.hid (K1.out.nearI q); replace K2 := Lib.hid (K2.out.nearI q); replace K3 := Lib.hid (K3.out.nearI q); replace K4 := Lib.hid (K4.out.nearI q); replace K5 := Lib.hid (K5.out.nearI q); replace K6 := Lib.hid (K6.out.nearI q); replace K7 := Lib.hid (K7.out.nearI q); replace B := Lib.hid (goI B.out q); clear q; replace c0_0 := K0.out.at_ 0 _ rfl; replace c0_1 := K0.out.at_ 1 _ rfl; replace c0_2 := K0.out.at_ 2 _ rfl; replace c0_3 := K0.out.at_ 3 _ rfl; replace c1_0 := K1.out.at_ 0 _ rfl; replace c1_1 := K1.out.at_ 1 _ rfl; replace c1_2 := K1.out.at_ 2 _ rfl; replace c1_3 := K1.out.at_ 3 _ rfl; replace c2_0 := K2.out.at_ 0 _ rfl; replace c2_1 := K2.out.at_ 1 _ rfl; replace c2_2 := K2.out.at_ 2 _ rfl; replace c2_3 := K2.out.at_ 3 _ rfl; replace c3_0 := K3.out.at_ 0 _ rfl; replace c3_1 := K3.out.at_ 1 _ rfl; replace c3_2 := K3.out.at_ 2 _ rfl; replace c4_0 := K4.out.at_ 0 _ rfl; replace c4_1 := K4.out.at_ 1 _ rfl; replace c4_2 := K4.out.at_ 2 _ rfl; replace c5_0 := K5.out.at_ 0 _ rfl; replace c5_1 := K5.out.at_ 1 _ rfl; replace c5_2 := K5.out.at_ 2 _ rfl; replace c6_0 := K6.out.at_ 0 _ rfl; replace c6_1 := K6.out.at_ 1 _ rfl; replace c6_2 := K6.out.at_ 2 _ rfl; replace c7_0 := K7.out.at_ 0 _ rfl; replace c7_1 := K7.out.at_ 1 _ rfl; replace c7_2 := K7.out.at_ 2 _ rfl)
        go_ret
        exact ⟨rfl, B.out⟩
    · have T2 := Lib.hid t2
      have T3 := Lib.hid t3
      have T4 := Lib.hid t4
      have QU := Lib.hid qu
      clear t2 t3 t4 qu
      rcases hp with t1 | ⟨t1, t2⟩
      all_goals
        go_upto_region 20 with (
         (first
          | (go_at_call 17; with_reducible refine (T1.out _ (baseI B.out)).mono ?_)
          | fail "arm"); rintro e wx ⟨rfl, q⟩; replace K0 := Lib.hid (K0.out.nearI q); replace K1 := Lib.hid (K1.out.nearI q); replace K2 := Lib.hid (K2.out.nearI q); replace K3 := Lib.hid (K3.out.nearI q); replace K4 := Lib.hid (K4.out.nearI q); replace K5 := Lib.hid (K5.out.nearI q); replace K6 := Lib.hid (K6.out.nearI q); replace K7 := Lib.hid (K7.out.nearI q); replace B := Lib.hid (goI B.out q); clear q; replace c0_0 := K0.out.at_ 0 _ rfl; replace c0_1 := K0.out.at_ 1 _ rfl; replace c0_2 := K0.out.at_ 2 _ rfl; replace c0_3 := K0.out.at_ 3 _ rfl; replace c1_0 := K1.out.at_ 0 _ rfl; replace c1_1 := K1.out.at_ 1 _ rfl; replace c1_2 := K1.out.at_ 2 _ rfl; replace c1_3 := K1.out.at_ 3 _ rfl; replace c2_0 := K2.out.at_ 0 _ rfl; replace c2_1 := K2.out.at_ 1 _ rfl; replace c2_2 := K2.out.at_ 2 _ rfl; replace c2_3 := K2.out.at_ 3 _ rfl; replace c3_0 := K3.out.at_ 0 _ rfl; replace c3_1 := K3.out.at_ 1 _ rfl; replace c3_2 := K3.out.at_ 2 _ rfl; replace c4_0 := K4.out.at_ 0 _ rfl; replace c4_1 := K4.out.at_ 1 _ rfl; replace c4_2 := K4.out.at_ 2 _ rfl; replace c5_0 := K5.out.at_ 0 _ rfl; replace c5_1 := K5.out.at_ 1 _ rfl; replace c5_2 := K5.out.at_ 2 _ rfl; replace c6_0 := K6.out.at_ 0 _ rfl; replace c6_1 := K6.out.at_ 1 _ rfl; replace c6_2 := K6.out.at_ 2 _ rfl; replace c7_0 := K7.out.at_ 0 _ rfl; replace c7_1 := K7.out.at_ 1 _ rfl; replace c7_2 := K7.out.at_ 2 _ rfl)
        have n8 := Blk.fresh wx #[.int .i64 (-p2), .int .i64 p1, .int .i64 0] 27
        replace K0 := Lib.hid (K0.out.alloc (Obj.cells #[.int .i64 (-p2), .int .i64 p1, .int .i64 0] 27))
        replace K1 := Lib.hid (K1.out.alloc (Obj.cells #[.int .i64 (-p2), .int .i64 p1, .int .i64 0] 27))
        replace K2 := Lib.hid (K2.out.alloc (Obj.cells #[.int .i64 (-p2), .int .i64 p1, .int .i64 0] 27))
        replace K3 := Lib.hid (K3.out.alloc (Obj.cells #[.int .i64 (-p2), .int .i64 p1, .int .i64 0] 27))
        replace K4 := Lib.hid (K4.out.alloc (Obj.cells #[.int .i64 (-p2), .int .i64 p1, .int .i64 0] 27))
        replace K5 := Lib.hid (K5.out.alloc (Obj.cells #[.int .i64 (-p2), .int .i64 p1, .int .i64 0] 27))
        replace K6 := Lib.hid (K6.out.alloc (Obj.cells #[.int .i64 (-p2), .int .i64 p1, .int .i64 0] 27))
        replace K7 := Lib.hid (K7.out.alloc (Obj.cells #[.int .i64 (-p2), .int .i64 p1, .int .i64 0] 27))
        replace B := Lib.hid (B.out.trans ((below_new wx (Obj.cells #[.int .i64 (-p2), .int .i64 p1, .int .i64 0] 27)).mono B.out.size))
        generalize wx.alloc (Obj.cells #[.int .i64 (-p2), .int .i64 p1, .int .i64 0] 27) = wl7 at *
        generalize wx.heap.size = gl7 at *
        have K8 := Lib.hid n8
        clear n8
        replace c0_0 := K0.out.at_ 0 _ rfl
        replace c0_1 := K0.out.at_ 1 _ rfl
        replace c0_2 := K0.out.at_ 2 _ rfl
        replace c0_3 := K0.out.at_ 3 _ rfl
        replace c1_0 := K1.out.at_ 0 _ rfl
        replace c1_1 := K1.out.at_ 1 _ rfl
        replace c1_2 := K1.out.at_ 2 _ rfl
        replace c1_3 := K1.out.at_ 3 _ rfl
        replace c2_0 := K2.out.at_ 0 _ rfl
        replace c2_1 := K2.out.at_ 1 _ rfl
        replace c2_2 := K2.out.at_ 2 _ rfl
        replace c2_3 := K2.out.at_ 3 _ rfl
        replace c3_0 := K3.out.at_ 0 _ rfl
        replace c3_1 := K3.out.at_ 1 _ rfl
        replace c3_2 := K3.out.at_ 2 _ rfl
        replace c4_0 := K4.out.at_ 0 _ rfl
        replace c4_1 := K4.out.at_ 1 _ rfl
        replace c4_2 := K4.out.at_ 2 _ rfl
        replace c5_0 := K5.out.at_ 0 _ rfl
        replace c5_1 := K5.out.at_ 1 _ rfl
        replace c5_2 := K5.out.at_ 2 _ rfl
        replace c6_0 := K6.out.at_ 0 _ rfl
        replace c6_1 := K6.out.at_ 1 _ rfl
        replace c6_2 := K6.out.at_ 2 _ rfl
        replace c7_0 := K7.out.at_ 0 _ rfl
        replace c7_1 := K7.out.at_ 1 _ rfl
        replace c7_2 := K7.out.at_ 2 _ rfl
        have c8_0 := K8.out.at_ 0 _ rfl
        have c8_1 := K8.out.at_ 1 _ rfl
        have c8_2 := K8.out.at_ 2 _ rfl
        clear c0_0 c0_1 c0_2 c0_3 c1_0 c1_1 c1_2 c1_3 c2_0 c2_1 c2_2 c2_3 c3_0 c3_1 c3_2 c4_0 c4_1 c4_2 c5_0 c5_1 c5_2 c6_0 c6_1 c6_2 c7_0 c7_1 c7_2 c8_0 c8_1 c8_2
        refine wp_region_par (by kernel_rfl) [127, 128, 129, 130, 131, 132, 133, 134, 135, 136, 137, 138, 139, 140, 141, 142, 143, 144, 145, 146, 147, 6] (fun L σ W => Vals [some 127, some 128, some 129, some 130, some 131, some 132, some 133, some 134, some 135, some 136, some 137, some 138, some 139, some 140, some 141, some 142, some 143, some 144, some 145, some 146, some 147, some 6] [(.int .i64 0), (.bool true), (.bool true), (.string R), (.agg #[.int .i64 (-p2), .int .i64 p1, .int .i64 0]), (.agg #[.int .i64 r1, .int .i64 r2, .int .i64 r3]), (.int .i64 f), (.agg #[.int .i64 (-p2), .int .i64 p1, .int .i64 0]), (.agg #[.int .i64 r1, .int .i64 r2, .int .i64 r3]), (.int .i64 f), (.int .i64 (f * f)), (.agg #[.int .i64 (-p2), .int .i64 p1, .int .i64 0]), (.agg #[.int .i64 (-p2), .int .i64 p1, .int .i64 0]), (.int .i64 n), (.agg #[.int .i64 r1, .int .i64 r2, .int .i64 r3]), (.agg #[.int .i64 r1, .int .i64 r2, .int .i64 r3]), (.int .i64 h), (.int .i64 (n * h)), (.string R), (.bool true), (.bool true), (.bool true)] L σ ∧ Blk W (w.heap.size) #[.int .i8 x1, .int .i8 y1, .int .i8 z1, .int .u8 b1] 24 ∧ Blk W (w.heap.size + 1) #[.int .i8 x2, .int .i8 y2, .int .i8 z2, .int .u8 b2] 24 ∧ Blk W (w.heap.size + 2) #[.int .i8 x3, .int .i8 y3, .int .i8 z3, .int .u8 b3] 24 ∧ Blk W (g3_6) #[.int .i64 p1, .int .i64 p2, .int .i64 p3] 27 ∧ Blk W (g3_7) #[.int .i64 q1, .int .i64 q2, .int .i64 q3] 27 ∧ Blk W (g3_8) #[.int .i64 r1, .int .i64 r2, .int .i64 r3] 27 ∧ Blk W (g5_8) #[.string P1, .string P2, .string P3] 34 ∧ Blk W (gl5) #[.int .i64 k1, .int .i64 k2, .int .i64 k3] 27 ∧ Blk W (gl7) #[.int .i64 (-p2), .int .i64 p1, .int .i64 0] 27 ∧ Below w.heap.size w W) (by kernel_rfl) (by kernel_rfl) (by kernel_rfl) ?_ ?_ ?_
        · exact fun σ => ⟨Vals.start, K0.out.below (Below.refl _ _).drew, K1.out.below (Below.refl _ _).drew, K2.out.below (Below.refl _ _).drew, K3.out.below (Below.refl _ _).drew, K4.out.below (Below.refl _ _).drew, K5.out.below (Below.refl _ _).drew, K6.out.below (Below.refl _ _).drew, K7.out.below (Below.refl _ _).drew, K8.out.below (Below.refl _ _).drew, B.out.drew⟩
        · refine ⟨?_, ?_, ?_, ?_, ?_, ?_, ?_, ?_, ?_, ?_, ?_, ?_, ?_, ?_, ?_, ?_, ?_, ?_, ?_, ?_, ?_, ?_, trivial⟩
          · rintro L a W ho ⟨V, jb0, jb1, jb2, jb3, jb4, jb5, jb6, jb7, jb8, bb⟩ hn hd K hK
            clear hd
            refine Wants.free rfl ?_
            have jr15 : a.tmps[(15 : Nat)]?.getD undef = .int .i64 0 := ho.slot 15 rfl
            go_simp
            exact hK.out (.int .i64 0) _ ⟨V.set 0 _ _ rfl rfl rfl, jb0, jb1, jb2, jb3, jb4, jb5, jb6, jb7, jb8, bb⟩
          · rintro L a W ho ⟨V, jb0, jb1, jb2, jb3, jb4, jb5, jb6, jb7, jb8, bb⟩ hn hd K hK
            have jh0 := hd.get 0 rfl
            clear hd
            refine Wants.free rfl ?_
            have jr127 := V.read 0 rfl rfl jh0
            go_simp
            exact hK.out (.bool true) _ ⟨V.set 1 _ _ rfl rfl rfl, jb0, jb1, jb2, jb3, jb4, jb5, jb6, jb7, jb8, bb⟩
          · rintro L a W ho ⟨V, jb0, jb1, jb2, jb3, jb4, jb5, jb6, jb7, jb8, bb⟩ hn hd K hK
            have jh1 := hd.get 1 rfl
            clear hd
            refine Wants.free rfl ?_
            have jr128 := V.read 1 rfl rfl jh1
            go_simp
            exact hK.out (.bool true) _ ⟨V.set 2 _ _ rfl rfl rfl, jb0, jb1, jb2, jb3, jb4, jb5, jb6, jb7, jb8, bb⟩
          · rintro L a W ho ⟨V, jb0, jb1, jb2, jb3, jb4, jb5, jb6, jb7, jb8, bb⟩ hn hd K hK
            have jh2 := hd.get 2 rfl
            clear hd
            refine Wants.pos (s := 129) rfl rfl (V 2 _ _ rfl rfl jh2) ?_
            have jr14 : a.tmps[(14 : Nat)]?.getD undef = .string R := ho.slot 14 rfl
            go_simp
            exact hK.out (.string R) _ ⟨V.set 3 _ _ rfl rfl rfl, jb0, jb1, jb2, jb3, jb4, jb5, jb6, jb7, jb8, bb⟩
          · rintro L a W ho ⟨V, jb0, jb1, jb2, jb3, jb4, jb5, jb6, jb7, jb8, bb⟩ hn hd K hK
            have jh2 := hd.get 2 rfl
            clear hd
            refine Wants.pos (s := 129) rfl rfl (V 2 _ _ rfl rfl jh2) ?_
            have jr17 : a.tmps[(17 : Nat)]?.getD undef = .pointer (some ⟨gl7, 0, none⟩) := ho.slot 17 rfl
            have jc0 := jb8.at_ 0 _ rfl
            have jc1 := jb8.at_ 1 _ rfl
            have jc2 := jb8.at_ 2 _ rfl
            go_simp
            exact hK.out (.agg #[.int .i64 (-p2), .int .i64 p1, .int .i64 0]) _ ⟨V.set 4 _ _ rfl rfl rfl, jb0, jb1, jb2, jb3, jb4, jb5, jb6, jb7, jb8, bb⟩
          · rintro L a W ho ⟨V, jb0, jb1, jb2, jb3, jb4, jb5, jb6, jb7, jb8, bb⟩ hn hd K hK
            have jh2 := hd.get 2 rfl
            clear hd
            refine Wants.pos (s := 129) rfl rfl (V 2 _ _ rfl rfl jh2) ?_
            have jr9 : a.tmps[(9 : Nat)]?.getD undef = .pointer (some ⟨g3_8, 0, none⟩) := ho.slot 9 rfl
            have jc0 := jb5.at_ 0 _ rfl
            have jc1 := jb5.at_ 1 _ rfl
            have jc2 := jb5.at_ 2 _ rfl
            go_simp
            exact hK.out (.agg #[.int .i64 r1, .int .i64 r2, .int .i64 r3]) _ ⟨V.set 5 _ _ rfl rfl rfl, jb0, jb1, jb2, jb3, jb4, jb5, jb6, jb7, jb8, bb⟩
          · rintro L a W ho ⟨V, jb0, jb1, jb2, jb3, jb4, jb5, jb6, jb7, jb8, bb⟩ hn hd K hK
            have jh4 := hd.get 4 rfl
            have jh5 := hd.get 5 rfl
            have jh2 := hd.get 2 rfl
            clear hd
            refine Wants.pos (s := 129) rfl rfl (V 2 _ _ rfl rfl jh2) ?_
            have jr131 := V.read 4 rfl rfl jh4
            have jr132 := V.read 5 rfl rfl jh5
            go_simp
            go_at_call 17
            with_reducible refine (T2.out _ bb).mono ?_
            rintro e wx ⟨rfl, q⟩
            go_simp
            exact hK.out (.int .i64 f) _ ⟨V.set 6 _ _ rfl rfl rfl, jb0.below q, jb1.below q, jb2.below q, jb3.below q, jb4.below q, jb5.below q, jb6.below q, jb7.below q, jb8.below q, bb.trans (q.mono bb.size)⟩
          · rintro L a W ho ⟨V, jb0, jb1, jb2, jb3, jb4, jb5, jb6, jb7, jb8, bb⟩ hn hd K hK
            have jh2 := hd.get 2 rfl
            clear hd
            refine Wants.pos (s := 129) rfl rfl (V 2 _ _ rfl rfl jh2) ?_
            have jr17 : a.tmps[(17 : Nat)]?.getD undef = .pointer (some ⟨gl7, 0, none⟩) := ho.slot 17 rfl
            have jc0 := jb8.at_ 0 _ rfl
            have jc1 := jb8.at_ 1 _ rfl
            have jc2 := jb8.at_ 2 _ rfl
            go_simp
            exact hK.out (.agg #[.int .i64 (-p2), .int .i64 p1, .int .i64 0]) _ ⟨V.set 7 _ _ rfl rfl rfl, jb0, jb1, jb2, jb3, jb4, jb5, jb6, jb7, jb8, bb⟩
          · rintro L a W ho ⟨V, jb0, jb1, jb2, jb3, jb4, jb5, jb6, jb7, jb8, bb⟩ hn hd K hK
            have jh2 := hd.get 2 rfl
            clear hd
            refine Wants.pos (s := 129) rfl rfl (V 2 _ _ rfl rfl jh2) ?_
            have jr9 : a.tmps[(9 : Nat)]?.getD undef = .pointer (some ⟨g3_8, 0, none⟩) := ho.slot 9 rfl
            have jc0 := jb5.at_ 0 _ rfl
            have jc1 := jb5.at_ 1 _ rfl
            have jc2 := jb5.at_ 2 _ rfl
            go_simp
            exact hK.out (.agg #[.int .i64 r1, .int .i64 r2, .int .i64 r3]) _ ⟨V.set 8 _ _ rfl rfl rfl, jb0, jb1, jb2, jb3, jb4, jb5, jb6, jb7, jb8, bb⟩
          · rintro L a W ho ⟨V, jb0, jb1, jb2, jb3, jb4, jb5, jb6, jb7, jb8, bb⟩ hn hd K hK
            have jh7 := hd.get 7 rfl
            have jh8 := hd.get 8 rfl
            have jh2 := hd.get 2 rfl
            clear hd
            refine Wants.pos (s := 129) rfl rfl (V 2 _ _ rfl rfl jh2) ?_
            have jr134 := V.read 7 rfl rfl jh7
            have jr135 := V.read 8 rfl rfl jh8
            go_simp
            go_at_call 17
            with_reducible refine (T2.out _ bb).mono ?_
            rintro e wx ⟨rfl, q⟩
            go_simp
            exact hK.out (.int .i64 f) _ ⟨V.set 9 _ _ rfl rfl rfl, jb0.below q, jb1.below q, jb2.below q, jb3.below q, jb4.below q, jb5.below q, jb6.below q, jb7.below q, jb8.below q, bb.trans (q.mono bb.size)⟩
          · rintro L a W ho ⟨V, jb0, jb1, jb2, jb3, jb4, jb5, jb6, jb7, jb8, bb⟩ hn hd K hK
            have jh6 := hd.get 6 rfl
            have jh9 := hd.get 9 rfl
            have jh2 := hd.get 2 rfl
            clear hd
            refine Wants.pos (s := 129) rfl rfl (V 2 _ _ rfl rfl jh2) ?_
            have jr133 := V.read 6 rfl rfl jh6
            have jr136 := V.read 9 rfl rfl jh9
            go_simp
            exact hK.out (.int .i64 (f * f)) _ ⟨V.set 10 _ _ rfl rfl rfl, jb0, jb1, jb2, jb3, jb4, jb5, jb6, jb7, jb8, bb⟩
          · rintro L a W ho ⟨V, jb0, jb1, jb2, jb3, jb4, jb5, jb6, jb7, jb8, bb⟩ hn hd K hK
            have jh2 := hd.get 2 rfl
            clear hd
            refine Wants.pos (s := 129) rfl rfl (V 2 _ _ rfl rfl jh2) ?_
            have jr17 : a.tmps[(17 : Nat)]?.getD undef = .pointer (some ⟨gl7, 0, none⟩) := ho.slot 17 rfl
            have jc0 := jb8.at_ 0 _ rfl
            have jc1 := jb8.at_ 1 _ rfl
            have jc2 := jb8.at_ 2 _ rfl
            go_simp
            exact hK.out (.agg #[.int .i64 (-p2), .int .i64 p1, .int .i64 0]) _ ⟨V.set 11 _ _ rfl rfl rfl, jb0, jb1, jb2, jb3, jb4, jb5, jb6, jb7, jb8, bb⟩
          · rintro L a W ho ⟨V, jb0, jb1, jb2, jb3, jb4, jb5, jb6, jb7, jb8, bb⟩ hn hd K hK
            have jh2 := hd.get 2 rfl
            clear hd
            refine Wants.pos (s := 129) rfl rfl (V 2 _ _ rfl rfl jh2) ?_
            have jr17 : a.tmps[(17 : Nat)]?.getD undef = .pointer (some ⟨gl7, 0, none⟩) := ho.slot 17 rfl
            have jc0 := jb8.at_ 0 _ rfl
            have jc1 := jb8.at_ 1 _ rfl
            have jc2 := jb8.at_ 2 _ rfl
            go_simp
            exact hK.out (.agg #[.int .i64 (-p2), .int .i64 p1, .int .i64 0]) _ ⟨V.set 12 _ _ rfl rfl rfl, jb0, jb1, jb2, jb3, jb4, jb5, jb6, jb7, jb8, bb⟩
          · rintro L a W ho ⟨V, jb0, jb1, jb2, jb3, jb4, jb5, jb6, jb7, jb8, bb⟩ hn hd K hK
            have jh11 := hd.get 11 rfl
            have jh12 := hd.get 12 rfl
            have jh2 := hd.get 2 rfl
            clear hd
            refine Wants.pos (s := 129) rfl rfl (V 2 _ _ rfl rfl jh2) ?_
            have jr138 := V.read 11 rfl rfl jh11
            have jr139 := V.read 12 rfl rfl jh12
            go_simp
            go_at_call 17
            with_reducible refine (T3.out _ bb).mono ?_
            rintro e wx ⟨rfl, q⟩
            go_simp
            exact hK.out (.int .i64 n) _ ⟨V.set 13 _ _ rfl rfl rfl, jb0.below q, jb1.below q, jb2.below q, jb3.below q, jb4.below q, jb5.below q, jb6.below q, jb7.below q, jb8.below q, bb.trans (q.mono bb.size)⟩
          · rintro L a W ho ⟨V, jb0, jb1, jb2, jb3, jb4, jb5, jb6, jb7, jb8, bb⟩ hn hd K hK
            have jh2 := hd.get 2 rfl
            clear hd
            refine Wants.pos (s := 129) rfl rfl (V 2 _ _ rfl rfl jh2) ?_
            have jr9 : a.tmps[(9 : Nat)]?.getD undef = .pointer (some ⟨g3_8, 0, none⟩) := ho.slot 9 rfl
            have jc0 := jb5.at_ 0 _ rfl
            have jc1 := jb5.at_ 1 _ rfl
            have jc2 := jb5.at_ 2 _ rfl
            go_simp
            exact hK.out (.agg #[.int .i64 r1, .int .i64 r2, .int .i64 r3]) _ ⟨V.set 14 _ _ rfl rfl rfl, jb0, jb1, jb2, jb3, jb4, jb5, jb6, jb7, jb8, bb⟩
          · rintro L a W ho ⟨V, jb0, jb1, jb2, jb3, jb4, jb5, jb6, jb7, jb8, bb⟩ hn hd K hK
            have jh2 := hd.get 2 rfl
            clear hd
            refine Wants.pos (s := 129) rfl rfl (V 2 _ _ rfl rfl jh2) ?_
            have jr9 : a.tmps[(9 : Nat)]?.getD undef = .pointer (some ⟨g3_8, 0, none⟩) := ho.slot 9 rfl
            have jc0 := jb5.at_ 0 _ rfl
            have jc1 := jb5.at_ 1 _ rfl
            have jc2 := jb5.at_ 2 _ rfl
            go_simp
            exact hK.out (.agg #[.int .i64 r1, .int .i64 r2, .int .i64 r3]) _ ⟨V.set 15 _ _ rfl rfl rfl, jb0, jb1, jb2, jb3, jb4, jb5, jb6, jb7, jb8, bb⟩
          · rintro L a W ho ⟨V, jb0, jb1, jb2, jb3, jb4, jb5, jb6, jb7, jb8, bb⟩ hn hd K hK
            have jh14 := hd.get 14 rfl
            have jh15 := hd.get 15 rfl
            have jh2 := hd.get 2 rfl
            clear hd
            refine Wants.pos (s := 129) rfl rfl (V 2 _ _ rfl rfl jh2) ?_
            have jr141 := V.read 14 rfl rfl jh14
            have jr142 := V.read 15 rfl rfl jh15
            go_simp
            go_at_call 17
            with_reducible refine (T4.out _ bb).mono ?_
            rintro e wx ⟨rfl, q⟩
            go_simp
            exact hK.out (.int .i64 h) _ ⟨V.set 16 _ _ rfl rfl rfl, jb0.below q, jb1.below q, jb2.below q, jb3.below q, jb4.below q, jb5.below q, jb6.below q, jb7.below q, jb8.below q, bb.trans (q.mono bb.size)⟩
          · rintro L a W ho ⟨V, jb0, jb1, jb2, jb3, jb4, jb5, jb6, jb7, jb8, bb⟩ hn hd K hK
            have jh13 := hd.get 13 rfl
            have jh16 := hd.get 16 rfl
            have jh2 := hd.get 2 rfl
            clear hd
            refine Wants.pos (s := 129) rfl rfl (V 2 _ _ rfl rfl jh2) ?_
            have jr140 := V.read 13 rfl rfl jh13
            have jr143 := V.read 16 rfl rfl jh16
            go_simp
            exact hK.out (.int .i64 (n * h)) _ ⟨V.set 17 _ _ rfl rfl rfl, jb0, jb1, jb2, jb3, jb4, jb5, jb6, jb7, jb8, bb⟩
          · rintro L a W ho ⟨V, jb0, jb1, jb2, jb3, jb4, jb5, jb6, jb7, jb8, bb⟩ hn hd K hK
            have jh10 := hd.get 10 rfl
            have jh17 := hd.get 17 rfl
            have jh2 := hd.get 2 rfl
            clear hd
            refine Wants.pos (s := 129) rfl rfl (V 2 _ _ rfl rfl jh2) ?_
            have jr137 := V.read 10 rfl rfl jh10
            have jr144 := V.read 17 rfl rfl jh17
            go_simp
            go_at_call 26
            with_reducible refine (QU.out _ bb).mono ?_
            rintro e wx ⟨rfl, q⟩
            go_simp
            exact hK.out (.string R) _ ⟨V.set 18 _ _ rfl rfl rfl, jb0.below q, jb1.below q, jb2.below q, jb3.below q, jb4.below q, jb5.below q, jb6.below q, jb7.below q, jb8.below q, bb.trans (q.mono bb.size)⟩
          · rintro L a W ho ⟨V, jb0, jb1, jb2, jb3, jb4, jb5, jb6, jb7, jb8, bb⟩ hn hd K hK
            have jh3 := hd.get 3 rfl
            have jh18 := hd.get 18 rfl
            have jh2 := hd.get 2 rfl
            clear hd
            refine Wants.pos (s := 129) rfl rfl (V 2 _ _ rfl rfl jh2) ?_
            have jr130 := V.read 3 rfl rfl jh3
            have jr145 := V.read 18 rfl rfl jh18
            go_simp
            exact hK.out (.bool true) _ ⟨V.set 19 _ _ rfl rfl rfl, jb0, jb1, jb2, jb3, jb4, jb5, jb6, jb7, jb8, bb⟩
          · rintro L a W ho ⟨V, jb0, jb1, jb2, jb3, jb4, jb5, jb6, jb7, jb8, bb⟩ hn hd K hK
            have jh2 := hd.get 2 rfl
            have jh19 := hd.get 19 rfl
            clear hd
            refine Wants.free rfl ?_
            have jr129 := V.read 2 rfl rfl jh2
            have jr146 := V.read 19 rfl rfl jh19
            go_simp
            exact hK.out (.bool true) _ ⟨V.set 20 _ _ rfl rfl rfl, jb0, jb1, jb2, jb3, jb4, jb5, jb6, jb7, jb8, bb⟩
          · rintro L a W ho ⟨V, jb0, jb1, jb2, jb3, jb4, jb5, jb6, jb7, jb8, bb⟩ hn hd K hK
            have jh20 := hd.get 20 rfl
            clear hd
            refine Wants.free rfl ?_
            have jr147 := V.read 20 rfl rfl jh20
            go_simp
            exact hK.out (.bool true) _ ⟨V.set 21 _ _ rfl rfl rfl, jb0, jb1, jb2, jb3, jb4, jb5, jb6, jb7, jb8, bb⟩
        rintro L σ W ⟨V, jb0, jb1, jb2, jb3, jb4, jb5, jb6, jb7, jb8, bb⟩ hL
        have jf0 := V 0 _ _ rfl rfl (hL 0 (by decide))
        have jf1 := V 1 _ _ rfl rfl (hL 1 (by decide))
        have jf2 := V 2 _ _ rfl rfl (hL 2 (by decide))
        have jf3 := V 3 _ _ rfl rfl (hL 3 (by decide))
        have jf4 := V 4 _ _ rfl rfl (hL 4 (by decide))
        have jf5 := V 5 _ _ rfl rfl (hL 5 (by decide))
        have jf6 := V 6 _ _ rfl rfl (hL 6 (by decide))
        have jf7 := V 7 _ _ rfl rfl (hL 7 (by decide))
        have jf8 := V 8 _ _ rfl rfl (hL 8 (by decide))
        have jf9 := V 9 _ _ rfl rfl (hL 9 (by decide))
        have jf10 := V 10 _ _ rfl rfl (hL 10 (by decide))
        have jf11 := V 11 _ _ rfl rfl (hL 11 (by decide))
        have jf12 := V 12 _ _ rfl rfl (hL 12 (by decide))
        have jf13 := V 13 _ _ rfl rfl (hL 13 (by decide))
        have jf14 := V 14 _ _ rfl rfl (hL 14 (by decide))
        have jf15 := V 15 _ _ rfl rfl (hL 15 (by decide))
        have jf16 := V 16 _ _ rfl rfl (hL 16 (by decide))
        have jf17 := V 17 _ _ rfl rfl (hL 17 (by decide))
        have jf18 := V 18 _ _ rfl rfl (hL 18 (by decide))
        have jf19 := V 19 _ _ rfl rfl (hL 19 (by decide))
        have jf20 := V 20 _ _ rfl rfl (hL 20 (by decide))
        have jf21 := V 21 _ _ rfl rfl (hL 21 (by decide))
        clear V
        clear hL
        rw [show List.map σ [127, 128, 129, 130, 131, 132, 133, 134, 135, 136, 137, 138, 139, 140, 141, 142, 143, 144, 145, 146, 147, 6] = [σ 127, σ 128, σ 129, σ 130, σ 131, σ 132, σ 133, σ 134, σ 135, σ 136, σ 137, σ 138, σ 139, σ 140, σ 141, σ 142, σ 143, σ 144, σ 145, σ 146, σ 147, σ 6] from rfl, jf0, jf1, jf2, jf3, jf4, jf5, jf6, jf7, jf8, jf9, jf10, jf11, jf12, jf13, jf14, jf15, jf16, jf17, jf18, jf19, jf20, jf21]
        clear jf0 jf1 jf2 jf3 jf4 jf5 jf6 jf7 jf8 jf9 jf10 jf11 jf12 jf13 jf14 jf15 jf16 jf17 jf18 jf19 jf20 jf21
        simp only [putAll, List.map, Act.put, List.setIfInBounds_toArray, List.set_cons_succ, List.set_cons_zero]
        replace K0 := Lib.hid jb0
        replace K1 := Lib.hid jb1
        replace K2 := Lib.hid jb2
        replace K3 := Lib.hid jb3
        replace K4 := Lib.hid jb4
        replace K5 := Lib.hid jb5
        replace K6 := Lib.hid jb6
        replace K7 := Lib.hid jb7
        replace K8 := Lib.hid jb8
        replace B := Lib.hid bb
        clear bb jb0 jb1 jb2 jb3 jb4 jb5 jb6 jb7 jb8
        have c0_0 := K0.out.at_ 0 _ rfl
        have c0_1 := K0.out.at_ 1 _ rfl
        have c0_2 := K0.out.at_ 2 _ rfl
        have c0_3 := K0.out.at_ 3 _ rfl
        have c1_0 := K1.out.at_ 0 _ rfl
        have c1_1 := K1.out.at_ 1 _ rfl
        have c1_2 := K1.out.at_ 2 _ rfl
        have c1_3 := K1.out.at_ 3 _ rfl
        have c2_0 := K2.out.at_ 0 _ rfl
        have c2_1 := K2.out.at_ 1 _ rfl
        have c2_2 := K2.out.at_ 2 _ rfl
        have c2_3 := K2.out.at_ 3 _ rfl
        have c3_0 := K3.out.at_ 0 _ rfl
        have c3_1 := K3.out.at_ 1 _ rfl
        have c3_2 := K3.out.at_ 2 _ rfl
        have c4_0 := K4.out.at_ 0 _ rfl
        have c4_1 := K4.out.at_ 1 _ rfl
        have c4_2 := K4.out.at_ 2 _ rfl
        have c5_0 := K5.out.at_ 0 _ rfl
        have c5_1 := K5.out.at_ 1 _ rfl
        have c5_2 := K5.out.at_ 2 _ rfl
        have c6_0 := K6.out.at_ 0 _ rfl
        have c6_1 := K6.out.at_ 1 _ rfl
        have c6_2 := K6.out.at_ 2 _ rfl
        have c7_0 := K7.out.at_ 0 _ rfl
        have c7_1 := K7.out.at_ 1 _ rfl
        have c7_2 := K7.out.at_ 2 _ rfl
        have c8_0 := K8.out.at_ 0 _ rfl
        have c8_1 := K8.out.at_ 1 _ rfl
        have c8_2 := K8.out.at_ 2 _ rfl
        go_wp2
        go_ret
        exact ⟨rfl, B.out⟩

end Go.Proofs.YtajkeoapfkkjbaaGreatDoor
