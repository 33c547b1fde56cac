/- The walk of LineationForms, over texts and ints. -/
import Derived.Test.YtajkeoapfkkjbaaGreatDoorGLinM
import Derived.Test.YtajkeoapfkkjbaaGreatDoorShelf
import Derived.Test.YtajkeoapfkkjbaaGreatDoorPar
import Derived.Deep.RegionHeld3
import Derived.Laws.ResultCell
import Derived.Deep.Cut
import Derived.Deep.CutRange
import Derived.Deep.DeepCutAuto
import Derived.Outline
namespace Go.Proofs.YtajkeoapfkkjbaaGreatDoor
set_option linter.all false
open Go.RowKit

set_option maxRecDepth 100000 in
set_option maxHeartbeats 4000000 in
theorem forms_z1 (x1 y1 z1 b1 x2 y2 z2 b2 p1 p2 p3 : Int) (w : World)
    (kn : ∀ W, Below w.heap.size w W → Calls Tryz.prog 12 #[] W fun e w' => e = .returned (.bool true) ∧ Below W.heap.size W w')
    (i1 : ∀ W, Below w.heap.size w W → Calls Tryz.prog 14 #[.agg #[.int .i8 x1, .int .i8 y1, .int .i8 z1, .int .u8 b1]] W fun e w' => e = .returned (.agg #[.int .i64 p1, .int .i64 p2, .int .i64 p3]) ∧ Below W.heap.size W w')
    (s1 : ∀ W, Below w.heap.size w W → Calls Tryz.prog 13 #[.agg #[.int .i64 p1, .int .i64 p2, .int .i64 p3]] W fun e w' => e = .returned (.bool true) ∧ Below W.heap.size W w') :
    Calls Tryz.prog 4 #[.agg #[.int .i8 x1, .int .i8 y1, .int .i8 z1, .int .u8 b1], .agg #[.int .i8 x2, .int .i8 y2, .int .i8 z2, .int .u8 b2]] w fun e w' => e = .returned (.bool true) ∧ Below w.heap.size w w' := by
  have KN := Lib.hid kn
  have I1 := Lib.hid i1
  have S1 := Lib.hid s1
  clear kn i1 s1
  have k0 := Blk.fresh w #[.int .i8 x1, .int .i8 y1, .int .i8 z1, .int .u8 b1] 24
  replace k0 := k0.alloc (Obj.cells #[.int .i8 x2, .int .i8 y2, .int .i8 z2, .int .u8 b2] 24)
  have k1 := Blk.fresh (w.alloc (Obj.cells #[.int .i8 x1, .int .i8 y1, .int .i8 z1, .int .u8 b1] 24)) #[.int .i8 x2, .int .i8 y2, .int .i8 z2, .int .u8 b2] 24
  rw [show (w.alloc (Obj.cells #[.int .i8 x1, .int .i8 y1, .int .i8 z1, .int .u8 b1] 24)).heap.size = w.heap.size + 1 from World.size_alloc ..] at k1
  have jb0 : Below w.heap.size w ((w.alloc (Obj.cells #[.int .i8 x1, .int .i8 y1, .int .i8 z1, .int .u8 b1] 24)).alloc (Obj.cells #[.int .i8 x2, .int .i8 y2, .int .i8 z2, .int .u8 b2] 24)) := (((Below.refl _ _).alloc (Nat.le_refl _) _).alloc (by simp; try omega) _)
  have K0 := Lib.hid k0
  have K1 := Lib.hid k1
  have B := Lib.hid jb0
  clear jb0 k0 k1
  go_enter Tryz.func4, Tryz.ntmps4
  go_upto_region 1 with (fail)
  generalize ((w.alloc (Obj.cells #[.int .i8 x1, .int .i8 y1, .int .i8 z1, .int .u8 b1] 24)).alloc (Obj.cells #[.int .i8 x2, .int .i8 y2, .int .i8 z2, .int .u8 b2] 24)) = W0 at *
  have c0_0 := K0.out.at_ 0 _ rfl
  have c0_1 := K0.out.at_ 1 _ rfl
  have c0_2 := K0.out.at_ 2 _ rfl
  have c0_3 := K0.out.at_ 3 _ rfl
  have c1_0 := K1.out.at_ 0 _ rfl
  have c1_1 := K1.out.at_ 1 _ rfl
  have c1_2 := K1.out.at_ 2 _ rfl
  have c1_3 := K1.out.at_ 3 _ rfl
  go_wp2_with (
   (first
    | (go_at_call 12; with_reducible refine (KN.out _ (baseI B.out)).mono ?_)
    | (go_at_call 14; with_reducible refine (I1.out _ (baseI B.out)).mono ?_)
    | (go_at_call 13; with_reducible refine (S1.out _ (baseI B.out)).mono ?_)
    | fail "arm"); rintro e wx ⟨rfl, q⟩; replace K0 := Lib.hid (K0.out.nearI q); replace K1 := Lib.hid (K1.out.nearI q); replace B := Lib.hid (goI B.out q); clear q; replace c0_0 := K0.out.at_ 0 _ rfl; replace c0_1 := K0.out.at_ 1 _ rfl; replace c0_2 := K0.out.at_ 2 _ rfl; replace c0_3 := K0.out.at_ 3 _ rfl; replace c1_0 := K1.out.at_ 0 _ rfl; replace c1_1 := K1.out.at_ 1 _ rfl; replace c1_2 := K1.out.at_ 2 _ rfl; replace c1_3 := K1.out.at_ 3 _ rfl)
  go_ret
  exact ⟨rfl, B.out⟩

set_option maxRecDepth 100000 in
set_option maxHeartbeats 4000000 in
theorem forms_z2 (x1 y1 z1 b1 x2 y2 z2 b2 p1 p2 p3 q1 q2 q3 : Int) (w : World)
    (kn : ∀ W, Below w.heap.size w W → Calls Tryz.prog 12 #[] W fun e w' => e = .returned (.bool true) ∧ Below W.heap.size W w')
    (i1 : ∀ W, Below w.heap.size w W → Calls Tryz.prog 14 #[.agg #[.int .i8 x1, .int .i8 y1, .int .i8 z1, .int .u8 b1]] W fun e w' => e = .returned (.agg #[.int .i64 p1, .int .i64 p2, .int .i64 p3]) ∧ Below W.heap.size W w')
    (s1 : ∀ W, Below w.heap.size w W → Calls Tryz.prog 13 #[.agg #[.int .i64 p1, .int .i64 p2, .int .i64 p3]] W fun e w' => e = .returned (.bool false) ∧ Below W.heap.size W w')
    (i2 : ∀ W, Below w.heap.size w W → Calls Tryz.prog 14 #[.agg #[.int .i8 x2, .int .i8 y2, .int .i8 z2, .int .u8 b2]] W fun e w' => e = .returned (.agg #[.int .i64 q1, .int .i64 q2, .int .i64 q3]) ∧ Below W.heap.size W w')
    (s2 : ∀ W, Below w.heap.size w W → Calls Tryz.prog 13 #[.agg #[.int .i64 q1, .int .i64 q2, .int .i64 q3]] W fun e w' => e = .returned (.bool true) ∧ Below W.heap.size W w') :
    Calls Tryz.prog 4 #[.agg #[.int .i8 x1, .int .i8 y1, .int .i8 z1, .int .u8 b1], .agg #[.int .i8 x2, .int .i8 y2, .int .i8 z2, .int .u8 b2]] w fun e w' => e = .returned (.bool true) ∧ Below w.heap.size w w' := by
  have KN := Lib.hid kn
  have I1 := Lib.hid i1
  have S1 := Lib.hid s1
  have I2 := Lib.hid i2
  have S2 := Lib.hid s2
  clear kn i1 s1 i2 s2
  have k0 := Blk.fresh w #[.int .i8 x1, .int .i8 y1, .int .i8 z1, .int .u8 b1] 24
  replace k0 := k0.alloc (Obj.cells #[.int .i8 x2, .int .i8 y2, .int .i8 z2, .int .u8 b2] 24)
  have k1 := Blk.fresh (w.alloc (Obj.cells #[.int .i8 x1, .int .i8 y1, .int .i8 z1, .int .u8 b1] 24)) #[.int .i8 x2, .int .i8 y2, .int .i8 z2, .int .u8 b2] 24
  rw [show (w.alloc (Obj.cells #[.int .i8 x1, .int .i8 y1, .int .i8 z1, .int .u8 b1] 24)).heap.size = w.heap.size + 1 from World.size_alloc ..] at k1
  have jb0 : Below w.heap.size w ((w.alloc (Obj.cells #[.int .i8 x1, .int .i8 y1, .int .i8 z1, .int .u8 b1] 24)).alloc (Obj.cells #[.int .i8 x2, .int .i8 y2, .int .i8 z2, .int .u8 b2] 24)) := (((Below.refl _ _).alloc (Nat.le_refl _) _).alloc (by simp; try omega) _)
  have K0 := Lib.hid k0
  have K1 := Lib.hid k1
  have B := Lib.hid jb0
  clear jb0 k0 k1
  go_enter Tryz.func4, Tryz.ntmps4
  go_upto_region 1 with (fail)
  generalize ((w.alloc (Obj.cells #[.int .i8 x1, .int .i8 y1, .int .i8 z1, .int .u8 b1] 24)).alloc (Obj.cells #[.int .i8 x2, .int .i8 y2, .int .i8 z2, .int .u8 b2] 24)) = W0 at *
  have c0_0 := K0.out.at_ 0 _ rfl
  have c0_1 := K0.out.at_ 1 _ rfl
  have c0_2 := K0.out.at_ 2 _ rfl
  have c0_3 := K0.out.at_ 3 _ rfl
  have c1_0 := K1.out.at_ 0 _ rfl
  have c1_1 := K1.out.at_ 1 _ rfl
  have c1_2 := K1.out.at_ 2 _ rfl
  have c1_3 := K1.out.at_ 3 _ rfl
  go_wp2_with (
   (first
    | (go_at_call 12; with_reducible refine (KN.out _ (baseI B.out)).mono ?_)
    | (go_at_call 14; with_reducible refine (I1.out _ (baseI B.out)).mono ?_)
    | (go_at_call 13; with_reducible refine (S1.out _ (baseI B.out)).mono ?_)
    | (go_at_call 14; with_reducible refine (I2.out _ (baseI B.out)).mono ?_)
    | (go_at_call 13; with_reducible refine (S2.out _ (baseI B.out)).mono ?_)
    | fail "arm"); rintro e wx ⟨rfl, q⟩; replace K0 := Lib.hid (K0.out.nearI q); replace K1 := Lib.hid (K1.out.nearI q); replace B := Lib.hid (goI B.out q); clear q; replace c0_0 := K0.out.at_ 0 _ rfl; replace c0_1 := K0.out.at_ 1 _ rfl; replace c0_2 := K0.out.at_ 2 _ rfl; replace c0_3 := K0.out.at_ 3 _ rfl; replace c1_0 := K1.out.at_ 0 _ rfl; replace c1_1 := K1.out.at_ 1 _ rfl; replace c1_2 := K1.out.at_ 2 _ rfl; replace c1_3 := K1.out.at_ 3 _ rfl)
  go_ret
  exact ⟨rfl, B.out⟩

set_option maxRecDepth 100000 in
set_option maxHeartbeats 4000000 in
theorem forms_ok (x1 y1 z1 b1 x2 y2 z2 b2 p1 p2 p3 q1 q2 q3 u1 u2 u3 v1 v2 v3 : Int) (A1 A2 A3 C1 C2 C3 P1 P2 P3 : ByteArray) (r : Bool) (w : World)
    (hr : (u1 == v1 && (u2 == v2 && u3 == v3)) = r)
    (kn : ∀ W, Below w.heap.size w W → Calls Tryz.prog 12 #[] W fun e w' => e = .returned (.bool true) ∧ Below W.heap.size W w')
    (i1 : ∀ W, Below w.heap.size w W → Calls Tryz.prog 14 #[.agg #[.int .i8 x1, .int .i8 y1, .int .i8 z1, .int .u8 b1]] W fun e w' => e = .returned (.agg #[.int .i64 p1, .int .i64 p2, .int .i64 p3]) ∧ Below W.heap.size W w')
    (s1 : ∀ W, Below w.heap.size w W → Calls Tryz.prog 13 #[.agg #[.int .i64 p1, .int .i64 p2, .int .i64 p3]] W fun e w' => e = .returned (.bool false) ∧ Below W.heap.size W w')
    (i2 : ∀ W, Below w.heap.size w W → Calls Tryz.prog 14 #[.agg #[.int .i8 x2, .int .i8 y2, .int .i8 z2, .int .u8 b2]] W fun e w' => e = .returned (.agg #[.int .i64 q1, .int .i64 q2, .int .i64 q3]) ∧ Below W.heap.size W w')
    (s2 : ∀ W, Below w.heap.size w W → Calls Tryz.prog 13 #[.agg #[.int .i64 q1, .int .i64 q2, .int .i64 q3]] W fun e w' => e = .returned (.bool false) ∧ Below W.heap.size W w')
    (m1 : ∀ W, Below w.heap.size w W → Calls Tryz.prog 16 #[.agg #[.int .i8 x1, .int .i8 y1, .int .i8 z1, .int .u8 b1]] W fun e w' => e = .returned (.agg #[.string A1, .string A2, .string A3]) ∧ Below W.heap.size W w')
    (m2 : ∀ W, Below w.heap.size w W → Calls Tryz.prog 16 #[.agg #[.int .i8 x2, .int .i8 y2, .int .i8 z2, .int .u8 b2]] W fun e w' => e = .returned (.agg #[.string C1, .string C2, .string C3]) ∧ Below W.heap.size W w')
    (o1 : ∀ W, Below w.heap.size w W → Calls Tryz.prog 18 #[.agg #[.string A1, .string A2, .string A3]] W fun e w' => e = .returned (.tuple #[.agg #[.string P1, .string P2, .string P3], .int .i64 0]) ∧ Below W.heap.size W w')
    (o2 : ∀ W, Below w.heap.size w W → Calls Tryz.prog 19 #[.agg #[.string A1, .string A2, .string A3], .agg #[.string C1, .string C2, .string C3]] W fun e w' => e = .returned (.tuple #[.bool r, .int .i64 0]) ∧ Below W.heap.size W w')
    (d1 : ∀ W, Below w.heap.size w W → Calls Tryz.prog 21 #[.agg #[.int .i64 p1, .int .i64 p2, .int .i64 p3]] W fun e w' => e = .returned (.agg #[.int .i64 u1, .int .i64 u2, .int .i64 u3]) ∧ Below W.heap.size W w')
    (d2 : ∀ W, Below w.heap.size w W → Calls Tryz.prog 21 #[.agg #[.int .i64 q1, .int .i64 q2, .int .i64 q3]] W fun e w' => e = .returned (.agg #[.int .i64 v1, .int .i64 v2, .int .i64 v3]) ∧ Below W.heap.size W w')
    (oo : ∀ W, Below w.heap.size w W → Calls Tryz.prog 20 #[.agg #[.int .i64 u1, .int .i64 u2, .int .i64 u3]] W fun e w' => e = .returned (.agg #[.string P1, .string P2, .string P3]) ∧ Below W.heap.size W w') :
    Calls Tryz.prog 4 #[.agg #[.int .i8 x1, .int .i8 y1, .int .i8 z1, .int .u8 b1], .agg #[.int .i8 x2, .int .i8 y2, .int .i8 z2, .int .u8 b2]] w fun e w' => e = .returned (.bool true) ∧ Below w.heap.size w w' := by
  have KN := Lib.hid kn
  have I1 := Lib.hid i1
  have S1 := Lib.hid s1
  have I2 := Lib.hid i2
  have S2 := Lib.hid s2
  have M1 := Lib.hid m1
  have M2 := Lib.hid m2
  have O1 := Lib.hid o1
  have O2 := Lib.hid o2
  have D1 := Lib.hid d1
  have D2 := Lib.hid d2
  have OO := Lib.hid oo
  clear kn i1 s1 i2 s2 m1 m2 o1 o2 d1 d2 oo
  have eq := fun W => eqI3 u1 u2 u3 v1 v2 v3 W
  rw [hr] at eq
  clear hr
  have k0 := Blk.fresh w #[.int .i8 x1, .int .i8 y1, .int .i8 z1, .int .u8 b1] 24
  replace k0 := k0.alloc (Obj.cells #[.int .i8 x2, .int .i8 y2, .int .i8 z2, .int .u8 b2] 24)
  have k1 := Blk.fresh (w.alloc (Obj.cells #[.int .i8 x1, .int .i8 y1, .int .i8 z1, .int .u8 b1] 24)) #[.int .i8 x2, .int .i8 y2, .int .i8 z2, .int .u8 b2] 24
  rw [show (w.alloc (Obj.cells #[.int .i8 x1, .int .i8 y1, .int .i8 z1, .int .u8 b1] 24)).heap.size = w.heap.size + 1 from World.size_alloc ..] at k1
  have jb0 : Below w.heap.size w ((w.alloc (Obj.cells #[.int .i8 x1, .int .i8 y1, .int .i8 z1, .int .u8 b1] 24)).alloc (Obj.cells #[.int .i8 x2, .int .i8 y2, .int .i8 z2, .int .u8 b2] 24)) := (((Below.refl _ _).alloc (Nat.le_refl _) _).alloc (by simp; try omega) _)
  have K0 := Lib.hid k0
  have K1 := Lib.hid k1
  have B := Lib.hid jb0
  clear jb0 k0 k1
  go_enter Tryz.func4, Tryz.ntmps4
  go_upto_region 1 with (fail)
  generalize ((w.alloc (Obj.cells #[.int .i8 x1, .int .i8 y1, .int .i8 z1, .int .u8 b1] 24)).alloc (Obj.cells #[.int .i8 x2, .int .i8 y2, .int .i8 z2, .int .u8 b2] 24)) = W0 at *
  have c0_0 := K0.out.at_ 0 _ rfl
  have c0_1 := K0.out.at_ 1 _ rfl
  have c0_2 := K0.out.at_ 2 _ rfl
  have c0_3 := K0.out.at_ 3 _ rfl
  have c1_0 := K1.out.at_ 0 _ rfl
  have c1_1 := K1.out.at_ 1 _ rfl
  have c1_2 := K1.out.at_ 2 _ rfl
  have c1_3 := K1.out.at_ 3 _ rfl
  go_upto_region 4 with (
   (first
    | (go_at_call 12; with_reducible refine (KN.out _ (baseI B.out)).mono ?_)
    | (go_at_call 14; with_reducible refine (I1.out _ (baseI B.out)).mono ?_)
    | (go_at_call 13; with_reducible refine (S1.out _ (baseI B.out)).mono ?_)
    | (go_at_call 14; with_reducible refine (I2.out _ (baseI B.out)).mono ?_)
    | (go_at_call 13; with_reducible refine (S2.out _ (baseI B.out)).mono ?_)
    | (go_at_call 16; with_reducible refine (M1.out _ (baseI B.out)).mono ?_)
    | (go_at_call 18; with_reducible refine (O1.out _ (baseI B.out)).mono ?_)
    | fail "arm"); rintro e wx ⟨rfl, q⟩; replace K0 := Lib.hid (K0.out.nearI q); replace K1 := Lib.hid (K1.out.nearI q); replace B := Lib.hid (goI B.out q); clear q; replace c0_0 := K0.out.at_ 0 _ rfl; replace c0_1 := K0.out.at_ 1 _ rfl; replace c0_2 := K0.out.at_ 2 _ rfl; replace c0_3 := K0.out.at_ 3 _ rfl; replace c1_0 := K1.out.at_ 0 _ rfl; replace c1_1 := K1.out.at_ 1 _ rfl; replace c1_2 := K1.out.at_ 2 _ rfl; replace c1_3 := K1.out.at_ 3 _ rfl)
  have n2 := Blk.fresh wx #[.string P1, .string P2, .string P3] 34
  replace K0 := Lib.hid (K0.out.alloc (Obj.cells #[.string P1, .string P2, .string P3] 34))
  replace K1 := Lib.hid (K1.out.alloc (Obj.cells #[.string P1, .string P2, .string P3] 34))
  replace B := Lib.hid (B.out.trans ((below_new wx (Obj.cells #[.string P1, .string P2, .string P3] 34)).mono B.out.size))
  generalize wx.alloc (Obj.cells #[.string P1, .string P2, .string P3] 34) = wl1 at *
  generalize wx.heap.size = gl1 at *
  have K2 := Lib.hid n2
  clear n2
  replace c0_0 := K0.out.at_ 0 _ rfl
  replace c0_1 := K0.out.at_ 1 _ rfl
  replace c0_2 := K0.out.at_ 2 _ rfl
  replace c0_3 := K0.out.at_ 3 _ rfl
  replace c1_0 := K1.out.at_ 0 _ rfl
  replace c1_1 := K1.out.at_ 1 _ rfl
  replace c1_2 := K1.out.at_ 2 _ rfl
  replace c1_3 := K1.out.at_ 3 _ rfl
  have c2_0 := K2.out.at_ 0 _ rfl
  have c2_1 := K2.out.at_ 1 _ rfl
  have c2_2 := K2.out.at_ 2 _ rfl
  clear c0_0 c0_1 c0_2 c0_3 c1_0 c1_1 c1_2 c1_3 c2_0 c2_1 c2_2
  refine wp_region_par (by kernel_rfl) [29, 30, 31, 32, 33, 28, 34, 35, 7, 8] (fun L σ W => Vals [some 29, some 30, some 31, some 32, some 33, some 28, some 34, some 35, some 7, some 8] [(.agg #[.int .i8 x1, .int .i8 y1, .int .i8 z1, .int .u8 b1]), (.agg #[.string A1, .string A2, .string A3]), (.agg #[.int .i8 x2, .int .i8 y2, .int .i8 z2, .int .u8 b2]), (.agg #[.string C1, .string C2, .string C3]), (.tuple #[.bool r, .int .i64 0]), (.tuple #[.bool r, .int .i64 0]), (.bool r), (.int .i64 0), (.bool r), (.int .i64 0)] L σ ∧ Blk W (w.heap.size) #[.int .i8 x1, .int .i8 y1, .int .i8 z1, .int .u8 b1] 24 ∧ Blk W (w.heap.size + 1) #[.int .i8 x2, .int .i8 y2, .int .i8 z2, .int .u8 b2] 24 ∧ Blk W (gl1) #[.string P1, .string P2, .string P3] 34 ∧ Below w.heap.size w W) (by kernel_rfl) (by kernel_rfl) (by kernel_rfl) ?_ ?_ ?_
  · exact fun σ => ⟨Vals.start, K0.out.below (Below.refl _ _).drew, K1.out.below (Below.refl _ _).drew, K2.out.below (Below.refl _ _).drew, B.out.drew⟩
  · refine ⟨?_, ?_, ?_, ?_, ?_, ?_, ?_, ?_, ?_, ?_, trivial⟩
    · rintro L a W ho ⟨V, jb0, jb1, jb2, bb⟩ hn hd K hK
      clear hd
      refine Wants.free rfl ?_
      have jr2 : a.tmps[(2 : Nat)]?.getD undef = .pointer (some ⟨w.heap.size, 0, none⟩) := ho.slot 2 rfl
      have jc0 := jb0.at_ 0 _ rfl
      have jc1 := jb0.at_ 1 _ rfl
      have jc2 := jb0.at_ 2 _ rfl
      have jc3 := jb0.at_ 3 _ rfl
      go_simp
      exact hK.out (.agg #[.int .i8 x1, .int .i8 y1, .int .i8 z1, .int .u8 b1]) _ ⟨V.set 0 _ _ rfl rfl rfl, jb0, jb1, jb2, bb⟩
    · rintro L a W ho ⟨V, jb0, jb1, jb2, bb⟩ hn hd K hK
      have jh0 := hd.get 0 rfl
      clear hd
      refine Wants.free rfl ?_
      have jr29 := V.read 0 rfl rfl jh0
      go_simp
      go_at_call 16
      with_reducible refine (M1.out _ bb).mono ?_
      rintro e wx ⟨rfl, q⟩
      go_simp
      exact hK.out (.agg #[.string A1, .string A2, .string A3]) _ ⟨V.set 1 _ _ rfl rfl rfl, jb0.below q, jb1.below q, jb2.below q, bb.trans (q.mono bb.size)⟩
    · rintro L a W ho ⟨V, jb0, jb1, jb2, bb⟩ hn hd K hK
      clear hd
      refine Wants.free rfl ?_
      have jr3 : a.tmps[(3 : Nat)]?.getD undef = .pointer (some ⟨w.heap.size + 1, 0, none⟩) := ho.slot 3 rfl
      have jc0 := jb1.at_ 0 _ rfl
      have jc1 := jb1.at_ 1 _ rfl
      have jc2 := jb1.at_ 2 _ rfl
      have jc3 := jb1.at_ 3 _ rfl
      go_simp
      exact hK.out (.agg #[.int .i8 x2, .int .i8 y2, .int .i8 z2, .int .u8 b2]) _ ⟨V.set 2 _ _ rfl rfl rfl, jb0, jb1, jb2, bb⟩
    · rintro L a W ho ⟨V, jb0, jb1, jb2, bb⟩ hn hd K hK
      have jh2 := hd.get 2 rfl
      clear hd
      refine Wants.free rfl ?_
      have jr31 := V.read 2 rfl rfl jh2
      go_simp
      go_at_call 16
      with_reducible refine (M2.out _ bb).mono ?_
      rintro e wx ⟨rfl, q⟩
      go_simp
      exact hK.out (.agg #[.string C1, .string C2, .string C3]) _ ⟨V.set 3 _ _ rfl rfl rfl, jb0.below q, jb1.below q, jb2.below q, bb.trans (q.mono bb.size)⟩
    · rintro L a W ho ⟨V, jb0, jb1, jb2, bb⟩ hn hd K hK
      have jh1 := hd.get 1 rfl
      have jh3 := hd.get 3 rfl
      clear hd
      refine Wants.free rfl ?_
      have jr30 := V.read 1 rfl rfl jh1
      have jr32 := V.read 3 rfl rfl jh3
      go_simp
      go_at_call 19
      with_reducible refine (O2.out _ bb).mono ?_
      rintro e wx ⟨rfl, q⟩
      go_simp
      exact hK.out (.tuple #[.bool r, .int .i64 0]) _ ⟨V.set 4 _ _ rfl rfl rfl, jb0.below q, jb1.below q, jb2.below q, bb.trans (q.mono bb.size)⟩
    · rintro L a W ho ⟨V, jb0, jb1, jb2, bb⟩ hn hd K hK
      have jh4 := hd.get 4 rfl
      clear hd
      refine Wants.free rfl ?_
      have jr33 := V.read 4 rfl rfl jh4
      go_simp
      exact hK.out (.tuple #[.bool r, .int .i64 0]) _ ⟨V.set 5 _ _ rfl rfl rfl, jb0, jb1, jb2, bb⟩
    · rintro L a W ho ⟨V, jb0, jb1, jb2, bb⟩ hn hd K hK
      have jh5 := hd.get 5 rfl
      clear hd
      refine Wants.free rfl ?_
      have jr28 := V.read 5 rfl rfl jh5
      go_simp
      exact hK.out (.bool r) _ ⟨V.set 6 _ _ rfl rfl rfl, jb0, jb1, jb2, bb⟩
    · rintro L a W ho ⟨V, jb0, jb1, jb2, bb⟩ hn hd K hK
      have jh5 := hd.get 5 rfl
      clear hd
      refine Wants.free rfl ?_
      have jr28 := V.read 5 rfl rfl jh5
      go_simp
      exact hK.out (.int .i64 0) _ ⟨V.set 7 _ _ rfl rfl rfl, jb0, jb1, jb2, bb⟩
    · rintro L a W ho ⟨V, jb0, jb1, jb2, bb⟩ hn hd K hK
      have jh6 := hd.get 6 rfl
      clear hd
      refine Wants.free rfl ?_
      have jr34 := V.read 6 rfl rfl jh6
      go_simp
      exact hK.out (.bool r) _ ⟨V.set 8 _ _ rfl rfl rfl, jb0, jb1, jb2, bb⟩
    · rintro L a W ho ⟨V, jb0, jb1, jb2, bb⟩ hn hd K hK
      have jh7 := hd.get 7 rfl
      clear hd
      refine Wants.free rfl ?_
      have jr35 := V.read 7 rfl rfl jh7
      go_simp
      exact hK.out (.int .i64 0) _ ⟨V.set 9 _ _ rfl rfl rfl, jb0, jb1, jb2, bb⟩
  rintro L σ W ⟨V, jb0, jb1, jb2, bb⟩ hL
  have jf0 := V 0 _ _ rfl rfl (hL 0 (by decide))
  have jf1 := V 1 _ _ rfl rfl (hL 1 (by decide))
  have jf2 := V 2 _ _ rfl rfl (hL 2 (by decide))
  have jf3 := V 3 _ _ rfl rfl (hL 3 (by decide))
  have jf4 := V 4 _ _ rfl rfl (hL 4 (by decide))
  have jf5 := V 5 _ _ rfl rfl (hL 5 (by decide))
  have jf6 := V 6 _ _ rfl rfl (hL 6 (by decide))
  have jf7 := V 7 _ _ rfl rfl (hL 7 (by decide))
  have jf8 := V 8 _ _ rfl rfl (hL 8 (by decide))
  have jf9 := V 9 _ _ rfl rfl (hL 9 (by decide))
  clear V
  clear hL
  rw [show List.map σ [29, 30, 31, 32, 33, 28, 34, 35, 7, 8] = [σ 29, σ 30, σ 31, σ 32, σ 33, σ 28, σ 34, σ 35, σ 7, σ 8] from rfl, jf0, jf1, jf2, jf3, jf4, jf5, jf6, jf7, jf8, jf9]
  clear jf0 jf1 jf2 jf3 jf4 jf5 jf6 jf7 jf8 jf9
  simp only [putAll, List.map, Act.put, List.setIfInBounds_toArray, List.set_cons_succ, List.set_cons_zero]
  replace K0 := Lib.hid jb0
  replace K1 := Lib.hid jb1
  replace K2 := Lib.hid jb2
  replace B := Lib.hid bb
  clear bb jb0 jb1 jb2
  have c0_0 := K0.out.at_ 0 _ rfl
  have c0_1 := K0.out.at_ 1 _ rfl
  have c0_2 := K0.out.at_ 2 _ rfl
  have c0_3 := K0.out.at_ 3 _ rfl
  have c1_0 := K1.out.at_ 0 _ rfl
  have c1_1 := K1.out.at_ 1 _ rfl
  have c1_2 := K1.out.at_ 2 _ rfl
  have c1_3 := K1.out.at_ 3 _ rfl
  have c2_0 := K2.out.at_ 0 _ rfl
  have c2_1 := K2.out.at_ 1 _ rfl
  have c2_2 := K2.out.at_ 2 _ rfl
  go_upto_region 5 with (fail)
  clear c0_0 c0_1 c0_2 c0_3 c1_0 c1_1 c1_2 c1_3 c2_0 c2_1 c2_2
  refine wp_region_par (by kernel_rfl) [36, 37, 38, 39, 40, 41, 42, 43, 44, 45, 46, 47, 48, 49, 50, 51, 52, 53, 54, 55, 56, 57, 58, 59, 60, 4] (fun L σ W => Vals [some 36, some 37, some 38, some 39, some 40, some 41, some 42, some 43, some 44, some 45, some 46, some 47, some 48, some 49, some 50, some 51, some 52, some 53, some 54, some 55, some 56, some 57, some 58, some 59, some 60, some 4] [(.int .i64 0), (.bool true), (.bool true), (.agg #[.string P1, .string P2, .string P3]), (.agg #[.int .i8 x1, .int .i8 y1, .int .i8 z1, .int .u8 b1]), (.agg #[.int .i64 p1, .int .i64 p2, .int .i64 p3]), (.agg #[.int .i64 u1, .int .i64 u2, .int .i64 u3]), (.agg #[.string P1, .string P2, .string P3]), (.bool true), (.bool true), (.bool true), (.int .i64 0), (.bool true), (.bool true), (.bool true), (.bool r), (.agg #[.int .i8 x1, .int .i8 y1, .int .i8 z1, .int .u8 b1]), (.agg #[.int .i64 p1, .int .i64 p2, .int .i64 p3]), (.agg #[.int .i64 u1, .int .i64 u2, .int .i64 u3]), (.agg #[.int .i8 x2, .int .i8 y2, .int .i8 z2, .int .u8 b2]), (.agg #[.int .i64 q1, .int .i64 q2, .int .i64 q3]), (.agg #[.int .i64 v1, .int .i64 v2, .int .i64 v3]), (.bool r), (.bool true), (.bool true), (.bool true)] L σ ∧ Blk W (w.heap.size) #[.int .i8 x1, .int .i8 y1, .int .i8 z1, .int .u8 b1] 24 ∧ Blk W (w.heap.size + 1) #[.int .i8 x2, .int .i8 y2, .int .i8 z2, .int .u8 b2] 24 ∧ Blk W (gl1) #[.string P1, .string P2, .string P3] 34 ∧ Below w.heap.size w W) (by kernel_rfl) (by kernel_rfl) (by kernel_rfl) ?_ ?_ ?_
  · exact fun σ => ⟨Vals.start, K0.out.below (Below.refl _ _).drew, K1.out.below (Below.refl _ _).drew, K2.out.below (Below.refl _ _).drew, B.out.drew⟩
  · refine ⟨?_, ?_, ?_, ?_, ?_, ?_, ?_, ?_, ?_, ?_, ?_, ?_, ?_, ?_, ?_, ?_, ?_, ?_, ?_, ?_, ?_, ?_, ?_, ?_, ?_, ?_, trivial⟩
    · rintro L a W ho ⟨V, jb0, jb1, jb2, bb⟩ hn hd K hK
      clear hd
      refine Wants.free rfl ?_
      have jr6 : a.tmps[(6 : Nat)]?.getD undef = .int .i64 0 := ho.slot 6 rfl
      go_simp
      exact hK.out (.int .i64 0) _ ⟨V.set 0 _ _ rfl rfl rfl, jb0, jb1, jb2, bb⟩
    · rintro L a W ho ⟨V, jb0, jb1, jb2, bb⟩ hn hd K hK
      have jh0 := hd.get 0 rfl
      clear hd
      refine Wants.free rfl ?_
      have jr36 := V.read 0 rfl rfl jh0
      go_simp
      exact hK.out (.bool true) _ ⟨V.set 1 _ _ rfl rfl rfl, jb0, jb1, jb2, bb⟩
    · rintro L a W ho ⟨V, jb0, jb1, jb2, bb⟩ hn hd K hK
      have jh1 := hd.get 1 rfl
      clear hd
      refine Wants.free rfl ?_
      have jr37 := V.read 1 rfl rfl jh1
      go_simp
      exact hK.out (.bool true) _ ⟨V.set 2 _ _ rfl rfl rfl, jb0, jb1, jb2, bb⟩
    · rintro L a W ho ⟨V, jb0, jb1, jb2, bb⟩ hn hd K hK
      have jh2 := hd.get 2 rfl
      clear hd
      refine Wants.pos (s := 38) rfl rfl (V 2 _ _ rfl rfl jh2) ?_
      have jr5 : a.tmps[(5 : Nat)]?.getD undef = .pointer (some ⟨gl1, 0, none⟩) := ho.slot 5 rfl
      have jc0 := jb2.at_ 0 _ rfl
      have jc1 := jb2.at_ 1 _ rfl
      have jc2 := jb2.at_ 2 _ rfl
      go_simp
      exact hK.out (.agg #[.string P1, .string P2, .string P3]) _ ⟨V.set 3 _ _ rfl rfl rfl, jb0, jb1, jb2, bb⟩
    · rintro L a W ho ⟨V, jb0, jb1, jb2, bb⟩ hn hd K hK
      have jh2 := hd.get 2 rfl
      clear hd
      refine Wants.pos (s := 38) rfl rfl (V 2 _ _ rfl rfl jh2) ?_
      have jr2 : a.tmps[(2 : Nat)]?.getD undef = .pointer (some ⟨w.heap.size, 0, none⟩) := ho.slot 2 rfl
      have jc0 := jb0.at_ 0 _ rfl
      have jc1 := jb0.at_ 1 _ rfl
      have jc2 := jb0.at_ 2 _ rfl
      have jc3 := jb0.at_ 3 _ rfl
      go_simp
      exact hK.out (.agg #[.int .i8 x1, .int .i8 y1, .int .i8 z1, .int .u8 b1]) _ ⟨V.set 4 _ _ rfl rfl rfl, jb0, jb1, jb2, bb⟩
    · rintro L a W ho ⟨V, jb0, jb1, jb2, bb⟩ hn hd K hK
      have jh4 := hd.get 4 rfl
      have jh2 := hd.get 2 rfl
      clear hd
      refine Wants.pos (s := 38) rfl rfl (V 2 _ _ rfl rfl jh2) ?_
      have jr40 := V.read 4 rfl rfl jh4
      go_simp
      go_at_call 14
      with_reducible refine (I1.out _ bb).mono ?_
      rintro e wx ⟨rfl, q⟩
      go_simp
      exact hK.out (.agg #[.int .i64 p1, .int .i64 p2, .int .i64 p3]) _ ⟨V.set 5 _ _ rfl rfl rfl, jb0.below q, jb1.below q, jb2.below q, bb.trans (q.mono bb.size)⟩
    · rintro L a W ho ⟨V, jb0, jb1, jb2, bb⟩ hn hd K hK
      have jh5 := hd.get 5 rfl
      have jh2 := hd.get 2 rfl
      clear hd
      refine Wants.pos (s := 38) rfl rfl (V 2 _ _ rfl rfl jh2) ?_
      have jr41 := V.read 5 rfl rfl jh5
      go_simp
      go_at_call 21
      with_reducible refine (D1.out _ bb).mono ?_
      rintro e wx ⟨rfl, q⟩
      go_simp
      exact hK.out (.agg #[.int .i64 u1, .int .i64 u2, .int .i64 u3]) _ ⟨V.set 6 _ _ rfl rfl rfl, jb0.below q, jb1.below q, jb2.below q, bb.trans (q.mono bb.size)⟩
    · rintro L a W ho ⟨V, jb0, jb1, jb2, bb⟩ hn hd K hK
      have jh6 := hd.get 6 rfl
      have jh2 := hd.get 2 rfl
      clear hd
      refine Wants.pos (s := 38) rfl rfl (V 2 _ _ rfl rfl jh2) ?_
      have jr42 := V.read 6 rfl rfl jh6
      go_simp
      go_at_call 20
      with_reducible refine (OO.out _ bb).mono ?_
      rintro e wx ⟨rfl, q⟩
      go_simp
      exact hK.out (.agg #[.string P1, .string P2, .string P3]) _ ⟨V.set 7 _ _ rfl rfl rfl, jb0.below q, jb1.below q, jb2.below q, bb.trans (q.mono bb.size)⟩
    · rintro L a W ho ⟨V, jb0, jb1, jb2, bb⟩ hn hd K hK
      have jh3 := hd.get 3 rfl
      have jh7 := hd.get 7 rfl
      have jh2 := hd.get 2 rfl
      clear hd
      refine Wants.pos (s := 38) rfl rfl (V 2 _ _ rfl rfl jh2) ?_
      have jr39 := V.read 3 rfl rfl jh3
      have jr43 := V.read 7 rfl rfl jh7
      go_simp
      exact hK.out (.bool true) _ ⟨V.set 8 _ _ rfl rfl rfl, jb0, jb1, jb2, bb⟩
    · rintro L a W ho ⟨V, jb0, jb1, jb2, bb⟩ hn hd K hK
      have jh2 := hd.get 2 rfl
      have jh8 := hd.get 8 rfl
      clear hd
      refine Wants.free rfl ?_
      have jr38 := V.read 2 rfl rfl jh2
      have jr44 := V.read 8 rfl rfl jh8
      go_simp
      exact hK.out (.bool true) _ ⟨V.set 9 _ _ rfl rfl rfl, jb0, jb1, jb2, bb⟩
    · rintro L a W ho ⟨V, jb0, jb1, jb2, bb⟩ hn hd K hK
      have jh9 := hd.get 9 rfl
      clear hd
      refine Wants.free rfl ?_
      have jr45 := V.read 9 rfl rfl jh9
      go_simp
      exact hK.out (.bool true) _ ⟨V.set 10 _ _ rfl rfl rfl, jb0, jb1, jb2, bb⟩
    · rintro L a W ho ⟨V, jb0, jb1, jb2, bb⟩ hn hd K hK
      have jh10 := hd.get 10 rfl
      clear hd
      refine Wants.pos (s := 46) rfl rfl (V 10 _ _ rfl rfl jh10) ?_
      have jr8 : a.tmps[(8 : Nat)]?.getD undef = .int .i64 0 := ho.slot 8 rfl
      go_simp
      exact hK.out (.int .i64 0) _ ⟨V.set 11 _ _ rfl rfl rfl, jb0, jb1, jb2, bb⟩
    · rintro L a W ho ⟨V, jb0, jb1, jb2, bb⟩ hn hd K hK
      have jh11 := hd.get 11 rfl
      have jh10 := hd.get 10 rfl
      clear hd
      refine Wants.pos (s := 46) rfl rfl (V 10 _ _ rfl rfl jh10) ?_
      have jr47 := V.read 11 rfl rfl jh11
      go_simp
      exact hK.out (.bool true) _ ⟨V.set 12 _ _ rfl rfl rfl, jb0, jb1, jb2, bb⟩
    · rintro L a W ho ⟨V, jb0, jb1, jb2, bb⟩ hn hd K hK
      have jh10 := hd.get 10 rfl
      have jh12 := hd.get 12 rfl
      clear hd
      refine Wants.free rfl ?_
      have jr46 := V.read 10 rfl rfl jh10
      have jr48 := V.read 12 rfl rfl jh12
      go_simp
      exact hK.out (.bool true) _ ⟨V.set 13 _ _ rfl rfl rfl, jb0, jb1, jb2, bb⟩
    · rintro L a W ho ⟨V, jb0, jb1, jb2, bb⟩ hn hd K hK
      have jh13 := hd.get 13 rfl
      clear hd
      refine Wants.free rfl ?_
      have jr49 := V.read 13 rfl rfl jh13
      go_simp
      exact hK.out (.bool true) _ ⟨V.set 14 _ _ rfl rfl rfl, jb0, jb1, jb2, bb⟩
    · rintro L a W ho ⟨V, jb0, jb1, jb2, bb⟩ hn hd K hK
      have jh14 := hd.get 14 rfl
      clear hd
      refine Wants.pos (s := 50) rfl rfl (V 14 _ _ rfl rfl jh14) ?_
      have jr7 : a.tmps[(7 : Nat)]?.getD undef = .bool r := ho.slot 7 rfl
      go_simp
      exact hK.out (.bool r) _ ⟨V.set 15 _ _ rfl rfl rfl, jb0, jb1, jb2, bb⟩
    · rintro L a W ho ⟨V, jb0, jb1, jb2, bb⟩ hn hd K hK
      have jh14 := hd.get 14 rfl
      clear hd
      refine Wants.pos (s := 50) rfl rfl (V 14 _ _ rfl rfl jh14) ?_
      have jr2 : a.tmps[(2 : Nat)]?.getD undef = .pointer (some ⟨w.heap.size, 0, none⟩) := ho.slot 2 rfl
      have jc0 := jb0.at_ 0 _ rfl
      have jc1 := jb0.at_ 1 _ rfl
      have jc2 := jb0.at_ 2 _ rfl
      have jc3 := jb0.at_ 3 _ rfl
      go_simp
      exact hK.out (.agg #[.int .i8 x1, .int .i8 y1, .int .i8 z1, .int .u8 b1]) _ ⟨V.set 16 _ _ rfl rfl rfl, jb0, jb1, jb2, bb⟩
    · rintro L a W ho ⟨V, jb0, jb1, jb2, bb⟩ hn hd K hK
      have jh16 := hd.get 16 rfl
      have jh14 := hd.get 14 rfl
      clear hd
      refine Wants.pos (s := 50) rfl rfl (V 14 _ _ rfl rfl jh14) ?_
      have jr52 := V.read 16 rfl rfl jh16
      go_simp
      go_at_call 14
      with_reducible refine (I1.out _ bb).mono ?_
      rintro e wx ⟨rfl, q⟩
      go_simp
      exact hK.out (.agg #[.int .i64 p1, .int .i64 p2, .int .i64 p3]) _ ⟨V.set 17 _ _ rfl rfl rfl, jb0.below q, jb1.below q, jb2.below q, bb.trans (q.mono bb.size)⟩
    · rintro L a W ho ⟨V, jb0, jb1, jb2, bb⟩ hn hd K hK
      have jh17 := hd.get 17 rfl
      have jh14 := hd.get 14 rfl
      clear hd
      refine Wants.pos (s := 50) rfl rfl (V 14 _ _ rfl rfl jh14) ?_
      have jr53 := V.read 17 rfl rfl jh17
      go_simp
      go_at_call 21
      with_reducible refine (D1.out _ bb).mono ?_
      rintro e wx ⟨rfl, q⟩
      go_simp
      exact hK.out (.agg #[.int .i64 u1, .int .i64 u2, .int .i64 u3]) _ ⟨V.set 18 _ _ rfl rfl rfl, jb0.below q, jb1.below q, jb2.below q, bb.trans (q.mono bb.size)⟩
    · rintro L a W ho ⟨V, jb0, jb1, jb2, bb⟩ hn hd K hK
      have jh14 := hd.get 14 rfl
      clear hd
      refine Wants.pos (s := 50) rfl rfl (V 14 _ _ rfl rfl jh14) ?_
      have jr3 : a.tmps[(3 : Nat)]?.getD undef = .pointer (some ⟨w.heap.size + 1, 0, none⟩) := ho.slot 3 rfl
      have jc0 := jb1.at_ 0 _ rfl
      have jc1 := jb1.at_ 1 _ rfl
      have jc2 := jb1.at_ 2 _ rfl
      have jc3 := jb1.at_ 3 _ rfl
      go_simp
      exact hK.out (.agg #[.int .i8 x2, .int .i8 y2, .int .i8 z2, .int .u8 b2]) _ ⟨V.set 19 _ _ rfl rfl rfl, jb0, jb1, jb2, bb⟩
    · rintro L a W ho ⟨V, jb0, jb1, jb2, bb⟩ hn hd K hK
      have jh19 := hd.get 19 rfl
      have jh14 := hd.get 14 rfl
      clear hd
      refine Wants.pos (s := 50) rfl rfl (V 14 _ _ rfl rfl jh14) ?_
      have jr55 := V.read 19 rfl rfl jh19
      go_simp
      go_at_call 14
      with_reducible refine (I2.out _ bb).mono ?_
      rintro e wx ⟨rfl, q⟩
      go_simp
      exact hK.out (.agg #[.int .i64 q1, .int .i64 q2, .int .i64 q3]) _ ⟨V.set 20 _ _ rfl rfl rfl, jb0.below q, jb1.below q, jb2.below q, bb.trans (q.mono bb.size)⟩
    · rintro L a W ho ⟨V, jb0, jb1, jb2, bb⟩ hn hd K hK
      have jh20 := hd.get 20 rfl
      have jh14 := hd.get 14 rfl
      clear hd
      refine Wants.pos (s := 50) rfl rfl (V 14 _ _ rfl rfl jh14) ?_
      have jr56 := V.read 20 rfl rfl jh20
      go_simp
      go_at_call 21
      with_reducible refine (D2.out _ bb).mono ?_
      rintro e wx ⟨rfl, q⟩
      go_simp
      exact hK.out (.agg #[.int .i64 v1, .int .i64 v2, .int .i64 v3]) _ ⟨V.set 21 _ _ rfl rfl rfl, jb0.below q, jb1.below q, jb2.below q, bb.trans (q.mono bb.size)⟩
    · rintro L a W ho ⟨V, jb0, jb1, jb2, bb⟩ hn hd K hK
      have jh18 := hd.get 18 rfl
      have jh21 := hd.get 21 rfl
      have jh14 := hd.get 14 rfl
      clear hd
      refine Wants.pos (s := 50) rfl rfl (V 14 _ _ rfl rfl jh14) ?_
      have jr54 := V.read 18 rfl rfl jh18
      have jr57 := V.read 21 rfl rfl jh21
      go_simp
      exact hK.out (.bool r) _ ⟨V.set 22 _ _ rfl rfl rfl, jb0, jb1, jb2, bb⟩
    · rintro L a W ho ⟨V, jb0, jb1, jb2, bb⟩ hn hd K hK
      have jh15 := hd.get 15 rfl
      have jh22 := hd.get 22 rfl
      have jh14 := hd.get 14 rfl
      clear hd
      refine Wants.pos (s := 50) rfl rfl (V 14 _ _ rfl rfl jh14) ?_
      have jr51 := V.read 15 rfl rfl jh15
      have jr58 := V.read 22 rfl rfl jh22
      go_simp
      exact hK.out (.bool true) _ ⟨V.set 23 _ _ rfl rfl rfl, jb0, jb1, jb2, bb⟩
    · rintro L a W ho ⟨V, jb0, jb1, jb2, bb⟩ hn hd K hK
      have jh14 := hd.get 14 rfl
      have jh23 := hd.get 23 rfl
      clear hd
      refine Wants.free rfl ?_
      have jr50 := V.read 14 rfl rfl jh14
      have jr59 := V.read 23 rfl rfl jh23
      go_simp
      exact hK.out (.bool true) _ ⟨V.set 24 _ _ rfl rfl rfl, jb0, jb1, jb2, bb⟩
    · rintro L a W ho ⟨V, jb0, jb1, jb2, bb⟩ hn hd K hK
      have jh24 := hd.get 24 rfl
      clear hd
      refine Wants.free rfl ?_
      have jr60 := V.read 24 rfl rfl jh24
      go_simp
      exact hK.out (.bool true) _ ⟨V.set 25 _ _ rfl rfl rfl, jb0, jb1, jb2, bb⟩
  rintro L σ W ⟨V, jb0, jb1, jb2, bb⟩ hL
  have jf0 := V 0 _ _ rfl rfl (hL 0 (by decide))
  have jf1 := V 1 _ _ rfl rfl (hL 1 (by decide))
  have jf2 := V 2 _ _ rfl rfl (hL 2 (by decide))
  have jf3 := V 3 _ _ rfl rfl (hL 3 (by decide))
  have jf4 := V 4 _ _ rfl rfl (hL 4 (by decide))
  have jf5 := V 5 _ _ rfl rfl (hL 5 (by decide))
  have jf6 := V 6 _ _ rfl rfl (hL 6 (by decide))
  have jf7 := V 7 _ _ rfl rfl (hL 7 (by decide))
  have jf8 := V 8 _ _ rfl rfl (hL 8 (by decide))
  have jf9 := V 9 _ _ rfl rfl (hL 9 (by decide))
  have jf10 := V 10 _ _ rfl rfl (hL 10 (by decide))
  have jf11 := V 11 _ _ rfl rfl (hL 11 (by decide))
  have jf12 := V 12 _ _ rfl rfl (hL 12 (by decide))
  have jf13 := V 13 _ _ rfl rfl (hL 13 (by decide))
  have jf14 := V 14 _ _ rfl rfl (hL 14 (by decide))
  have jf15 := V 15 _ _ rfl rfl (hL 15 (by decide))
  have jf16 := V 16 _ _ rfl rfl (hL 16 (by decide))
  have jf17 := V 17 _ _ rfl rfl (hL 17 (by decide))
  have jf18 := V 18 _ _ rfl rfl (hL 18 (by decide))
  have jf19 := V 19 _ _ rfl rfl (hL 19 (by decide))
  have jf20 := V 20 _ _ rfl rfl (hL 20 (by decide))
  have jf21 := V 21 _ _ rfl rfl (hL 21 (by decide))
  have jf22 := V 22 _ _ rfl rfl (hL 22 (by decide))
  have jf23 := V 23 _ _ rfl rfl (hL 23 (by decide))
  have jf24 := V 24 _ _ rfl rfl (hL 24 (by decide))
  have jf25 := V 25 _ _ rfl rfl (hL 25 (by decide))
  clear V
  clear hL
  rw [show List.map σ [36, 37, 38, 39, 40, 41, 42, 43, 44, 45, 46, 47, 48, 49, 50, 51, 52, 53, 54, 55, 56, 57, 58, 59, 60, 4] = [σ 36, σ 37, σ 38, σ 39, σ 40, σ 41, σ 42, σ 43, σ 44, σ 45, σ 46, σ 47, σ 48, σ 49, σ 50, σ 51, σ 52, σ 53, σ 54, σ 55, σ 56, σ 57, σ 58, σ 59, σ 60, σ 4] from rfl, jf0, jf1, jf2, jf3, jf4, jf5, jf6, jf7, jf8, jf9, jf10, jf11, jf12, jf13, jf14, jf15, jf16, jf17, jf18, jf19, jf20, jf21, jf22, jf23, jf24, jf25]
  clear jf0 jf1 jf2 jf3 jf4 jf5 jf6 jf7 jf8 jf9 jf10 jf11 jf12 jf13 jf14 jf15 jf16 jf17 jf18 jf19 jf20 jf21 jf22 jf23 jf24 jf25
  simp only [putAll, List.map, Act.put, List.setIfInBounds_toArray, List.set_cons_succ, List.set_cons_zero]
  replace K0 := Lib.hid jb0
  replace K1 := Lib.hid jb1
  replace K2 := Lib.hid jb2
  replace B := Lib.hid bb
  clear bb jb0 jb1 jb2
  have c0_0 := K0.out.at_ 0 _ rfl
  have c0_1 := K0.out.at_ 1 _ rfl
  have c0_2 := K0.out.at_ 2 _ rfl
  have c0_3 := K0.out.at_ 3 _ rfl
  have c1_0 := K1.out.at_ 0 _ rfl
  have c1_1 := K1.out.at_ 1 _ rfl
  have c1_2 := K1.out.at_ 2 _ rfl
  have c1_3 := K1.out.at_ 3 _ rfl
  have c2_0 := K2.out.at_ 0 _ rfl
  have c2_1 := K2.out.at_ 1 _ rfl
  have c2_2 := K2.out.at_ 2 _ rfl
  go_wp2
  go_ret
  exact ⟨rfl, B.out⟩

end Go.Proofs.YtajkeoapfkkjbaaGreatDoor
