/- The walk of LineationLimbs, over texts and ints. -/
import Derived.Test.YtajkeoapfkkjbaaGreatDoorShelf
import Derived.Test.YtajkeoapfkkjbaaGreatDoorPar
import Derived.Deep.RegionHeld3
import Derived.Laws.ResultCell
import Derived.Deep.Cut
import Derived.Deep.CutRange
import Derived.Deep.DeepCutAuto
import Derived.Outline
namespace Go.Proofs.YtajkeoapfkkjbaaGreatDoor
set_option linter.all false
open Go.RowKit

set_option maxRecDepth 100000 in
set_option maxHeartbeats 4000000 in
theorem limbs_z1 (x1 y1 z1 b1 x2 y2 z2 b2 p1 p2 p3 : Int) (w : World)
    (kn : ∀ W, Below w.heap.size w W → Calls Tryz.prog 12 #[] W fun e w' => e = .returned (.bool true) ∧ Below W.heap.size W w')
    (i1 : ∀ W, Below w.heap.size w W → Calls Tryz.prog 14 #[.agg #[.int .i8 x1, .int .i8 y1, .int .i8 z1, .int .u8 b1]] W fun e w' => e = .returned (.agg #[.int .i64 p1, .int .i64 p2, .int .i64 p3]) ∧ Below W.heap.size W w')
    (s1 : ∀ W, Below w.heap.size w W → Calls Tryz.prog 13 #[.agg #[.int .i64 p1, .int .i64 p2, .int .i64 p3]] W fun e w' => e = .returned (.bool true) ∧ Below W.heap.size W w') :
    Calls Tryz.prog 7 #[.agg #[.int .i8 x1, .int .i8 y1, .int .i8 z1, .int .u8 b1], .agg #[.int .i8 x2, .int .i8 y2, .int .i8 z2, .int .u8 b2]] w fun e w' => e = .returned (.bool true) ∧ Below w.heap.size w w' := by
  have KN := Lib.hid kn
  have I1 := Lib.hid i1
  have S1 := Lib.hid s1
  clear kn i1 s1
  have k0 := Blk.fresh w #[.int .i8 x1, .int .i8 y1, .int .i8 z1, .int .u8 b1] 24
  replace k0 := k0.alloc (Obj.cells #[.int .i8 x2, .int .i8 y2, .int .i8 z2, .int .u8 b2] 24)
  have k1 := Blk.fresh (w.alloc (Obj.cells #[.int .i8 x1, .int .i8 y1, .int .i8 z1, .int .u8 b1] 24)) #[.int .i8 x2, .int .i8 y2, .int .i8 z2, .int .u8 b2] 24
  rw [show (w.alloc (Obj.cells #[.int .i8 x1, .int .i8 y1, .int .i8 z1, .int .u8 b1] 24)).heap.size = w.heap.size + 1 from World.size_alloc ..] at k1
  have jb0 : Below w.heap.size w ((w.alloc (Obj.cells #[.int .i8 x1, .int .i8 y1, .int .i8 z1, .int .u8 b1] 24)).alloc (Obj.cells #[.int .i8 x2, .int .i8 y2, .int .i8 z2, .int .u8 b2] 24)) := (((Below.refl _ _).alloc (Nat.le_refl _) _).alloc (by simp; try omega) _)
  have K0 := Lib.hid k0
  have K1 := Lib.hid k1
  have B := Lib.hid jb0
  clear jb0 k0 k1
  go_enter Tryz.func7, Tryz.ntmps7
  go_upto_region 1 with (fail)
  generalize ((w.alloc (Obj.cells #[.int .i8 x1, .int .i8 y1, .int .i8 z1, .int .u8 b1] 24)).alloc (Obj.cells #[.int .i8 x2, .int .i8 y2, .int .i8 z2, .int .u8 b2] 24)) = W0 at *
  have c0_0 := K0.out.at_ 0 _ rfl
  have c0_1 := K0.out.at_ 1 _ rfl
  have c0_2 := K0.out.at_ 2 _ rfl
  have c0_3 := K0.out.at_ 3 _ rfl
  have c1_0 := K1.out.at_ 0 _ rfl
  have c1_1 := K1.out.at_ 1 _ rfl
  have c1_2 := K1.out.at_ 2 _ rfl
  have c1_3 := K1.out.at_ 3 _ rfl
  go_wp2_with (
   (first
    | (go_at_call 12; with_reducible refine (KN.out _ (baseI B.out)).mono ?_)
    | (go_at_call 14; with_reducible refine (I1.out _ (baseI B.out)).mono ?_)
    | (go_at_call 13; with_reducible refine (S1.out _ (baseI B.out)).mono ?_)
    | fail "arm"); rintro e wx ⟨rfl, q⟩; replace K0 := Lib.hid (K0.out.nearI q); replace K1 := Lib.hid (K1.out.nearI q); replace B := Lib.hid (goI B.out q); clear q; replace c0_0 := K0.out.at_ 0 _ rfl; replace c0_1 := K0.out.at_ 1 _ rfl; replace c0_2 := K0.out.at_ 2 _ rfl; replace c0_3 := K0.out.at_ 3 _ rfl; replace c1_0 := K1.out.at_ 0 _ rfl; replace c1_1 := K1.out.at_ 1 _ rfl; replace c1_2 := K1.out.at_ 2 _ rfl; replace c1_3 := K1.out.at_ 3 _ rfl)
  go_ret
  exact ⟨rfl, B.out⟩

set_option maxRecDepth 100000 in
set_option maxHeartbeats 4000000 in
theorem limbs_z2 (x1 y1 z1 b1 x2 y2 z2 b2 p1 p2 p3 q1 q2 q3 : Int) (w : World)
    (kn : ∀ W, Below w.heap.size w W → Calls Tryz.prog 12 #[] W fun e w' => e = .returned (.bool true) ∧ Below W.heap.size W w')
    (i1 : ∀ W, Below w.heap.size w W → Calls Tryz.prog 14 #[.agg #[.int .i8 x1, .int .i8 y1, .int .i8 z1, .int .u8 b1]] W fun e w' => e = .returned (.agg #[.int .i64 p1, .int .i64 p2, .int .i64 p3]) ∧ Below W.heap.size W w')
    (s1 : ∀ W, Below w.heap.size w W → Calls Tryz.prog 13 #[.agg #[.int .i64 p1, .int .i64 p2, .int .i64 p3]] W fun e w' => e = .returned (.bool false) ∧ Below W.heap.size W w')
    (i2 : ∀ W, Below w.heap.size w W → Calls Tryz.prog 14 #[.agg #[.int .i8 x2, .int .i8 y2, .int .i8 z2, .int .u8 b2]] W fun e w' => e = .returned (.agg #[.int .i64 q1, .int .i64 q2, .int .i64 q3]) ∧ Below W.heap.size W w')
    (s2 : ∀ W, Below w.heap.size w W → Calls Tryz.prog 13 #[.agg #[.int .i64 q1, .int .i64 q2, .int .i64 q3]] W fun e w' => e = .returned (.bool true) ∧ Below W.heap.size W w') :
    Calls Tryz.prog 7 #[.agg #[.int .i8 x1, .int .i8 y1, .int .i8 z1, .int .u8 b1], .agg #[.int .i8 x2, .int .i8 y2, .int .i8 z2, .int .u8 b2]] w fun e w' => e = .returned (.bool true) ∧ Below w.heap.size w w' := by
  have KN := Lib.hid kn
  have I1 := Lib.hid i1
  have S1 := Lib.hid s1
  have I2 := Lib.hid i2
  have S2 := Lib.hid s2
  clear kn i1 s1 i2 s2
  have k0 := Blk.fresh w #[.int .i8 x1, .int .i8 y1, .int .i8 z1, .int .u8 b1] 24
  replace k0 := k0.alloc (Obj.cells #[.int .i8 x2, .int .i8 y2, .int .i8 z2, .int .u8 b2] 24)
  have k1 := Blk.fresh (w.alloc (Obj.cells #[.int .i8 x1, .int .i8 y1, .int .i8 z1, .int .u8 b1] 24)) #[.int .i8 x2, .int .i8 y2, .int .i8 z2, .int .u8 b2] 24
  rw [show (w.alloc (Obj.cells #[.int .i8 x1, .int .i8 y1, .int .i8 z1, .int .u8 b1] 24)).heap.size = w.heap.size + 1 from World.size_alloc ..] at k1
  have jb0 : Below w.heap.size w ((w.alloc (Obj.cells #[.int .i8 x1, .int .i8 y1, .int .i8 z1, .int .u8 b1] 24)).alloc (Obj.cells #[.int .i8 x2, .int .i8 y2, .int .i8 z2, .int .u8 b2] 24)) := (((Below.refl _ _).alloc (Nat.le_refl _) _).alloc (by simp; try omega) _)
  have K0 := Lib.hid k0
  have K1 := Lib.hid k1
  have B := Lib.hid jb0
  clear jb0 k0 k1
  go_enter Tryz.func7, Tryz.ntmps7
  go_upto_region 1 with (fail)
  generalize ((w.alloc (Obj.cells #[.int .i8 x1, .int .i8 y1, .int .i8 z1, .int .u8 b1] 24)).alloc (Obj.cells #[.int .i8 x2, .int .i8 y2, .int .i8 z2, .int .u8 b2] 24)) = W0 at *
  have c0_0 := K0.out.at_ 0 _ rfl
  have c0_1 := K0.out.at_ 1 _ rfl
  have c0_2 := K0.out.at_ 2 _ rfl
  have c0_3 := K0.out.at_ 3 _ rfl
  have c1_0 := K1.out.at_ 0 _ rfl
  have c1_1 := K1.out.at_ 1 _ rfl
  have c1_2 := K1.out.at_ 2 _ rfl
  have c1_3 := K1.out.at_ 3 _ rfl
  go_wp2_with (
   (first
    | (go_at_call 12; with_reducible refine (KN.out _ (baseI B.out)).mono ?_)
    | (go_at_call 14; with_reducible refine (I1.out _ (baseI B.out)).mono ?_)
    | (go_at_call 13; with_reducible refine (S1.out _ (baseI B.out)).mono ?_)
    | (go_at_call 14; with_reducible refine (I2.out _ (baseI B.out)).mono ?_)
    | (go_at_call 13; with_reducible refine (S2.out _ (baseI B.out)).mono ?_)
    | fail "arm"); rintro e wx ⟨rfl, q⟩; replace K0 := Lib.hid (K0.out.nearI q); replace K1 := Lib.hid (K1.out.nearI q); replace B := Lib.hid (goI B.out q); clear q; replace c0_0 := K0.out.at_ 0 _ rfl; replace c0_1 := K0.out.at_ 1 _ rfl; replace c0_2 := K0.out.at_ 2 _ rfl; replace c0_3 := K0.out.at_ 3 _ rfl; replace c1_0 := K1.out.at_ 0 _ rfl; replace c1_1 := K1.out.at_ 1 _ rfl; replace c1_2 := K1.out.at_ 2 _ rfl; replace c1_3 := K1.out.at_ 3 _ rfl)
  go_ret
  exact ⟨rfl, B.out⟩

set_option maxRecDepth 100000 in
set_option maxHeartbeats 20000000 in
theorem limbs_dep (x1 y1 z1 b1 x2 y2 z2 b2 p1 p2 p3 q1 q2 q3 c t : Int) (A1 A2 A3 C1 C2 C3 E1 E2 E3 F1 F2 F3 : ByteArray) (w : World)
    (hc : ((c == 1) = false ∧ (c == 5) = false) ∨ ((c == 1) = true ∧ (t != 4) = false ∧ (c == 5) = false) ∨ ((c == 1) = true ∧ (t != 4) = true ∧ (t != 5) = false ∧ (c == 5) = false) ∨ ((c == 1) = false ∧ (c == 5) = true ∧ (t != 1) = false))
    (kn : ∀ W, Below w.heap.size w W → Calls Tryz.prog 12 #[] W fun e w' => e = .returned (.bool true) ∧ Below W.heap.size W w')
    (i1 : ∀ W, Below w.heap.size w W → Calls Tryz.prog 14 #[.agg #[.int .i8 x1, .int .i8 y1, .int .i8 z1, .int .u8 b1]] W fun e w' => e = .returned (.agg #[.int .i64 p1, .int .i64 p2, .int .i64 p3]) ∧ Below W.heap.size W w')
    (s1 : ∀ W, Below w.heap.size w W → Calls Tryz.prog 13 #[.agg #[.int .i64 p1, .int .i64 p2, .int .i64 p3]] W fun e w' => e = .returned (.bool false) ∧ Below W.heap.size W w')
    (i2 : ∀ W, Below w.heap.size w W → Calls Tryz.prog 14 #[.agg #[.int .i8 x2, .int .i8 y2, .int .i8 z2, .int .u8 b2]] W fun e w' => e = .returned (.agg #[.int .i64 q1, .int .i64 q2, .int .i64 q3]) ∧ Below W.heap.size W w')
    (s2 : ∀ W, Below w.heap.size w W → Calls Tryz.prog 13 #[.agg #[.int .i64 q1, .int .i64 q2, .int .i64 q3]] W fun e w' => e = .returned (.bool false) ∧ Below W.heap.size W w')
    (m1 : ∀ W, Below w.heap.size w W → Calls Tryz.prog 16 #[.agg #[.int .i8 x1, .int .i8 y1, .int .i8 z1, .int .u8 b1]] W fun e w' => e = .returned (.agg #[.string A1, .string A2, .string A3]) ∧ Below W.heap.size W w')
    (m2 : ∀ W, Below w.heap.size w W → Calls Tryz.prog 16 #[.agg #[.int .i8 x2, .int .i8 y2, .int .i8 z2, .int .u8 b2]] W fun e w' => e = .returned (.agg #[.string C1, .string C2, .string C3]) ∧ Below W.heap.size W w')
    (n1 : ∀ W, Below w.heap.size w W → Calls Tryz.prog 30 #[.string A1] W fun e w' => e = .returned (.string E1) ∧ Below W.heap.size W w')
    (n2 : ∀ W, Below w.heap.size w W → Calls Tryz.prog 30 #[.string A2] W fun e w' => e = .returned (.string E2) ∧ Below W.heap.size W w')
    (n3 : ∀ W, Below w.heap.size w W → Calls Tryz.prog 30 #[.string A3] W fun e w' => e = .returned (.string E3) ∧ Below W.heap.size W w')
    (n4 : ∀ W, Below w.heap.size w W → Calls Tryz.prog 30 #[.string C1] W fun e w' => e = .returned (.string F1) ∧ Below W.heap.size W w')
    (n5 : ∀ W, Below w.heap.size w W → Calls Tryz.prog 30 #[.string C2] W fun e w' => e = .returned (.string F2) ∧ Below W.heap.size W w')
    (n6 : ∀ W, Below w.heap.size w W → Calls Tryz.prog 30 #[.string C3] W fun e w' => e = .returned (.string F3) ∧ Below W.heap.size W w')
    (o1 : ∀ W, Below w.heap.size w W → Calls Tryz.prog 15 #[.agg #[.string A1, .string A2, .string A3], .agg #[.string C1, .string C2, .string C3]] W fun e w' => e = .returned (.tuple #[.int .i64 c, .int .i64 0]) ∧ Below W.heap.size W w')
    (o2 : ∀ W, Below w.heap.size w W → Calls Tryz.prog 15 #[.agg #[.string C1, .string C2, .string C3], .agg #[.string A1, .string A2, .string A3]] W fun e w' => e = .returned (.tuple #[.int .i64 c, .int .i64 0]) ∧ Below W.heap.size W w')
    (o3 : ∀ W, Below w.heap.size w W → Calls Tryz.prog 15 #[.agg #[.string E1, .string E2, .string E3], .agg #[.string F1, .string F2, .string F3]] W fun e w' => e = .returned (.tuple #[.int .i64 c, .int .i64 0]) ∧ Below W.heap.size W w')
    (o4 : ∀ W, Below w.heap.size w W → Calls Tryz.prog 15 #[.agg #[.string A1, .string A2, .string A3], .agg #[.string F1, .string F2, .string F3]] W fun e w' => e = .returned (.tuple #[.int .i64 t, .int .i64 0]) ∧ Below W.heap.size W w')
    (o5 : ∀ W, Below w.heap.size w W → Calls Tryz.prog 27 #[.agg #[.string A1, .string A2, .string A3], .agg #[.string E1, .string E2, .string E3]] W fun e w' => e = .returned (.tuple #[.string ⟨#[49]⟩, .int .i64 0]) ∧ Below W.heap.size W w')
    (o6 : ∀ W, Below w.heap.size w W → Calls Tryz.prog 23 #[.agg #[.string A1, .string A2, .string A3], .agg #[.string C1, .string C2, .string C3]] W fun e w' => e = .returned (.tuple #[.agg #[.string ⟨#[]⟩, .string ⟨#[]⟩, .string ⟨#[]⟩], .int .i64 18]) ∧ Below W.heap.size W w')
    (o7 : ∀ W, Below w.heap.size w W → Calls Tryz.prog 19 #[.agg #[.string A1, .string A2, .string A3], .agg #[.string C1, .string C2, .string C3]] W fun e w' => e = .returned (.tuple #[.bool true, .int .i64 0]) ∧ Below W.heap.size W w') :
    Calls Tryz.prog 7 #[.agg #[.int .i8 x1, .int .i8 y1, .int .i8 z1, .int .u8 b1], .agg #[.int .i8 x2, .int .i8 y2, .int .i8 z2, .int .u8 b2]] w fun e w' => e = .returned (.bool true) ∧ Below w.heap.size w w' := by
  have KN := Lib.hid kn
  have I1 := Lib.hid i1
  have S1 := Lib.hid s1
  have I2 := Lib.hid i2
  have S2 := Lib.hid s2
  have M1 := Lib.hid m1
  have M2 := Lib.hid m2
  have N1 := Lib.hid n1
  have N2 := Lib.hid n2
  have N3 := Lib.hid n3
  have N4 := Lib.hid n4
  have N5 := Lib.hid n5
  have N6 := Lib.hid n6
  have O1 := Lib.hid o1
  have O2 := Lib.hid o2
  have O3 := Lib.hid o3
  have O4 := Lib.hid o4
  have O5 := Lib.hid o5
  have O6 := Lib.hid o6
  have O7 := Lib.hid o7
  clear kn i1 s1 i2 s2 m1 m2 n1 n2 n3 n4 n5 n6 o1 o2 o3 o4 o5 o6 o7
  have k0 := Blk.fresh w #[.int .i8 x1, .int .i8 y1, .int .i8 z1, .int .u8 b1] 24
  replace k0 := k0.alloc (Obj.cells #[.int .i8 x2, .int .i8 y2, .int .i8 z2, .int .u8 b2] 24)
  have k1 := Blk.fresh (w.alloc (Obj.cells #[.int .i8 x1, .int .i8 y1, .int .i8 z1, .int .u8 b1] 24)) #[.int .i8 x2, .int .i8 y2, .int .i8 z2, .int .u8 b2] 24
  rw [show (w.alloc (Obj.cells #[.int .i8 x1, .int .i8 y1, .int .i8 z1, .int .u8 b1] 24)).heap.size = w.heap.size + 1 from World.size_alloc ..] at k1
  have jb0 : Below w.heap.size w ((w.alloc (Obj.cells #[.int .i8 x1, .int .i8 y1, .int .i8 z1, .int .u8 b1] 24)).alloc (Obj.cells #[.int .i8 x2, .int .i8 y2, .int .i8 z2, .int .u8 b2] 24)) := (((Below.refl _ _).alloc (Nat.le_refl _) _).alloc (by simp; try omega) _)
  have K0 := Lib.hid k0
  have K1 := Lib.hid k1
  have B := Lib.hid jb0
  clear jb0 k0 k1
  go_enter Tryz.func7, Tryz.ntmps7
  go_upto_region 1 with (fail)
  generalize ((w.alloc (Obj.cells #[.int .i8 x1, .int .i8 y1, .int .i8 z1, .int .u8 b1] 24)).alloc (Obj.cells #[.int .i8 x2, .int .i8 y2, .int .i8 z2, .int .u8 b2] 24)) = W0 at *
  have c0_0 := K0.out.at_ 0 _ rfl
  have c0_1 := K0.out.at_ 1 _ rfl
  have c0_2 := K0.out.at_ 2 _ rfl
  have c0_3 := K0.out.at_ 3 _ rfl
  have c1_0 := K1.out.at_ 0 _ rfl
  have c1_1 := K1.out.at_ 1 _ rfl
  have c1_2 := K1.out.at_ 2 _ rfl
  have c1_3 := K1.out.at_ 3 _ rfl
  go_upto_region 3 with (
   (first
    | (go_at_call 12; with_reducible refine (KN.out _ (baseI B.out)).mono ?_)
    | (go_at_call 14; with_reducible refine (I1.out _ (baseI B.out)).mono ?_)
    | (go_at_call 13; with_reducible refine (S1.out _ (baseI B.out)).mono ?_)
    | (go_at_call 14; with_reducible refine (I2.out _ (baseI B.out)).mono ?_)
    | (go_at_call 13; with_reducible refine (S2.out _ (baseI B.out)).mono ?_)
    | fail "arm"); rintro e wx ⟨rfl, q⟩; replace K0 := Lib.hid (K0.out.nearI q); replace K1 := Lib.hid (K1.out.nearI q); replace B := Lib.hid (goI B.out q); clear q; replace c0_0 := K0.out.at_ 0 _ rfl; replace c0_1 := K0.out.at_ 1 _ rfl; replace c0_2 := K0.out.at_ 2 _ rfl; replace c0_3 := K0.out.at_ 3 _ rfl; replace c1_0 := K1.out.at_ 0 _ rfl; replace c1_1 := K1.out.at_ 1 _ rfl; replace c1_2 := K1.out.at_ 2 _ rfl; replace c1_3 := K1.out.at_ 3 _ rfl)
  clear c0_0 c0_1 c0_2 c0_3 c1_0 c1_1 c1_2 c1_3
  refine wp_region_par (by kernel_rfl) [37, 38, 39, 40, 5, 6] (fun L σ W => Vals [some 37, some 38, some 39, some 40, none, none, none, none] [(.agg #[.int .i8 x1, .int .i8 y1, .int .i8 z1, .int .u8 b1]), (.agg #[.string A1, .string A2, .string A3]), (.agg #[.int .i8 x2, .int .i8 y2, .int .i8 z2, .int .u8 b2]), (.agg #[.string C1, .string C2, .string C3]), undef, undef, undef, undef] L σ ∧ (L 4 → ∃ (g : Nat) (jy0 jy1 jy2 : Value), σ 5 = .pointer (some ⟨g, 0, none⟩) ∧ w.heap.size ≤ g ∧ Blk W g #[jy0, jy1, jy2] 34 ∧ (L 6 → #[jy0, jy1, jy2] = #[.string A1, .string A2, .string A3]) ∧ w.heap.size ≠ g ∧ w.heap.size + 1 ≠ g) ∧ (L 5 → ∃ (g : Nat) (jy0 jy1 jy2 : Value), σ 6 = .pointer (some ⟨g, 0, none⟩) ∧ w.heap.size ≤ g ∧ Blk W g #[jy0, jy1, jy2] 34 ∧ (L 7 → #[jy0, jy1, jy2] = #[.string C1, .string C2, .string C3]) ∧ w.heap.size ≠ g ∧ w.heap.size + 1 ≠ g) ∧ (L 6 → L 4) ∧ (L 7 → L 5) ∧ (L 4 → L 5 → σ 5 ≠ σ 6) ∧ Blk W (w.heap.size) #[.int .i8 x1, .int .i8 y1, .int .i8 z1, .int .u8 b1] 24 ∧ Blk W (w.heap.size + 1) #[.int .i8 x2, .int .i8 y2, .int .i8 z2, .int .u8 b2] 24 ∧ Below w.heap.size w W) (by kernel_rfl) (by kernel_rfl) (by kernel_rfl) ?_ ?_ ?_
  · exact fun σ => ⟨Vals.start, fun h => h.elim, fun h => h.elim, fun h => h.elim, fun h => h.elim, fun h => h.elim, K0.out.below (Below.refl _ _).drew, K1.out.below (Below.refl _ _).drew, B.out.drew⟩
  · refine ⟨?_, ?_, ?_, ?_, ?_, ?_, ?_, ?_, trivial⟩
    · rintro L a W ho ⟨V, jf4, jf5, js6, js7, jn4_5, jb0, jb1, bb⟩ hn hd K hK
      clear hd
      refine Wants.free rfl ?_
      have jr2 : a.tmps[(2 : Nat)]?.getD undef = .pointer (some ⟨w.heap.size, 0, none⟩) := ho.slot 2 rfl
      have jc0 := jb0.at_ 0 _ rfl
      have jc1 := jb0.at_ 1 _ rfl
      have jc2 := jb0.at_ 2 _ rfl
      have jc3 := jb0.at_ 3 _ rfl
      go_simp
      exact hK.out (.agg #[.int .i8 x1, .int .i8 y1, .int .i8 z1, .int .u8 b1]) _ ⟨V.set 0 _ _ rfl rfl rfl, fun h => (by obtain ⟨jg, ju0, ju1, ju2, je1, je2, je3, je4, jne0, jne1⟩ := old jf4 rfl h; exact ⟨jg, _, _, _, je1, je2, je3, fun h => je4 (h.resolve_right (by decide)), jne0, jne1⟩), fun h => (by obtain ⟨jg, ju0, ju1, ju2, je1, je2, je3, je4, jne0, jne1⟩ := old jf5 rfl h; exact ⟨jg, _, _, _, je1, je2, je3, fun h => je4 (h.resolve_right (by decide)), jne0, jne1⟩), fun h => .inl (old js6 rfl h), fun h => .inl (old js7 rfl h), fun h h2 => jn4_5 (h.resolve_right (by decide)) (h2.resolve_right (by decide)), jb0, jb1, bb⟩
    · rintro L a W ho ⟨V, jf4, jf5, js6, js7, jn4_5, jb0, jb1, bb⟩ hn hd K hK
      have jh0 := hd.get 0 rfl
      clear hd
      refine Wants.free rfl ?_
      have jr37 := V.read 0 rfl rfl jh0
      go_simp
      go_at_call 16
      with_reducible refine (M1.out _ bb).mono ?_
      rintro e wx ⟨rfl, q⟩
      go_simp
      exact hK.out (.agg #[.string A1, .string A2, .string A3]) _ ⟨V.set 1 _ _ rfl rfl rfl, fun h => (by obtain ⟨jg, ju0, ju1, ju2, je1, je2, je3, je4, jne0, jne1⟩ := old jf4 rfl h; exact ⟨jg, _, _, _, je1, je2, je3.below q, fun h => je4 (h.resolve_right (by decide)), jne0, jne1⟩), fun h => (by obtain ⟨jg, ju0, ju1, ju2, je1, je2, je3, je4, jne0, jne1⟩ := old jf5 rfl h; exact ⟨jg, _, _, _, je1, je2, je3.below q, fun h => je4 (h.resolve_right (by decide)), jne0, jne1⟩), fun h => .inl (old js6 rfl h), fun h => .inl (old js7 rfl h), fun h h2 => jn4_5 (h.resolve_right (by decide)) (h2.resolve_right (by decide)), jb0.below q, jb1.below q, bb.trans (q.mono bb.size)⟩
    · rintro L a W ho ⟨V, jf4, jf5, js6, js7, jn4_5, jb0, jb1, bb⟩ hn hd K hK
      clear hd
      refine Wants.free rfl ?_
      have jr3 : a.tmps[(3 : Nat)]?.getD undef = .pointer (some ⟨w.heap.size + 1, 0, none⟩) := ho.slot 3 rfl
      have jc0 := jb1.at_ 0 _ rfl
      have jc1 := jb1.at_ 1 _ rfl
      have jc2 := jb1.at_ 2 _ rfl
      have jc3 := jb1.at_ 3 _ rfl
      go_simp
      exact hK.out (.agg #[.int .i8 x2, .int .i8 y2, .int .i8 z2, .int .u8 b2]) _ ⟨V.set 2 _ _ rfl rfl rfl, fun h => (by obtain ⟨jg, ju0, ju1, ju2, je1, je2, je3, je4, jne0, jne1⟩ := old jf4 rfl h; exact ⟨jg, _, _, _, je1, je2, je3, fun h => je4 (h.resolve_right (by decide)), jne0, jne1⟩), fun h => (by obtain ⟨jg, ju0, ju1, ju2, je1, je2, je3, je4, jne0, jne1⟩ := old jf5 rfl h; exact ⟨jg, _, _, _, je1, je2, je3, fun h => je4 (h.resolve_right (by decide)), jne0, jne1⟩), fun h => .inl (old js6 rfl h), fun h => .inl (old js7 rfl h), fun h h2 => jn4_5 (h.resolve_right (by decide)) (h2.resolve_right (by decide)), jb0, jb1, bb⟩
    · rintro L a W ho ⟨V, jf4, jf5, js6, js7, jn4_5, jb0, jb1, bb⟩ hn hd K hK
      have jh2 := hd.get 2 rfl
      clear hd
      refine Wants.free rfl ?_
      have jr39 := V.read 2 rfl rfl jh2
      go_simp
      go_at_call 16
      with_reducible refine (M2.out _ bb).mono ?_
      rintro e wx ⟨rfl, q⟩
      go_simp
      exact hK.out (.agg #[.string C1, .string C2, .string C3]) _ ⟨V.set 3 _ _ rfl rfl rfl, fun h => (by obtain ⟨jg, ju0, ju1, ju2, je1, je2, je3, je4, jne0, jne1⟩ := old jf4 rfl h; exact ⟨jg, _, _, _, je1, je2, je3.below q, fun h => je4 (h.resolve_right (by decide)), jne0, jne1⟩), fun h => (by obtain ⟨jg, ju0, ju1, ju2, je1, je2, je3, je4, jne0, jne1⟩ := old jf5 rfl h; exact ⟨jg, _, _, _, je1, je2, je3.below q, fun h => je4 (h.resolve_right (by decide)), jne0, jne1⟩), fun h => .inl (old js6 rfl h), fun h => .inl (old js7 rfl h), fun h h2 => jn4_5 (h.resolve_right (by decide)) (h2.resolve_right (by decide)), jb0.below q, jb1.below q, bb.trans (q.mono bb.size)⟩
    · rintro L a W ho ⟨V, jf4, jf5, js6, js7, jn4_5, jb0, jb1, bb⟩ hn hd K hK
      clear hd
      refine Wants.free rfl ?_
      go_simp
      exact hK.out (.pointer (some ⟨W.heap.size, 0, none⟩)) _ ⟨V.apart 4 _ _ rfl rfl, fun _ => ⟨W.heap.size, .string ⟨#[]⟩, .string ⟨#[]⟩, .string ⟨#[]⟩, rfl, bb.size, Blk.fresh W #[.string ⟨#[]⟩, .string ⟨#[]⟩, .string ⟨#[]⟩] 34, fun h => absurd (old js6 rfl h) hn, (Nat.ne_of_lt jb0.lt), (Nat.ne_of_lt jb1.lt)⟩, fun h => (by obtain ⟨jg, ju0, ju1, ju2, je1, je2, je3, je4, jne0, jne1⟩ := old jf5 rfl h; exact ⟨jg, _, _, _, je1, je2, je3.alloc (Obj.cells #[.string ⟨#[]⟩, .string ⟨#[]⟩, .string ⟨#[]⟩] 34), fun h => je4 (h.resolve_right (by decide)), jne0, jne1⟩), fun h => .inl (old js6 rfl h), fun h => .inl (old js7 rfl h), fun h h2 => (by obtain ⟨jg, ju0, ju1, ju2, je1, je2, je3, je4, jne0, jne1⟩ := jf5 (h2.resolve_right (by decide)); have jhlt := je3.lt; show (Value.pointer (some ⟨W.heap.size, 0, none⟩)) ≠ slotOf a 6; rw [je1]; intro e; injection e with e; injection e with e; injection e with e; omega), jb0.alloc (Obj.cells #[.string ⟨#[]⟩, .string ⟨#[]⟩, .string ⟨#[]⟩] 34), jb1.alloc (Obj.cells #[.string ⟨#[]⟩, .string ⟨#[]⟩, .string ⟨#[]⟩] 34), bb.trans ((below_new W (Obj.cells #[.string ⟨#[]⟩, .string ⟨#[]⟩, .string ⟨#[]⟩] 34)).mono bb.size)⟩
    · rintro L a W ho ⟨V, jf4, jf5, js6, js7, jn4_5, jb0, jb1, bb⟩ hn hd K hK
      clear hd
      refine Wants.free rfl ?_
      go_simp
      exact hK.out (.pointer (some ⟨W.heap.size, 0, none⟩)) _ ⟨V.apart 5 _ _ rfl rfl, fun h => (by obtain ⟨jg, ju0, ju1, ju2, je1, je2, je3, je4, jne0, jne1⟩ := old jf4 rfl h; exact ⟨jg, _, _, _, je1, je2, je3.alloc (Obj.cells #[.string ⟨#[]⟩, .string ⟨#[]⟩, .string ⟨#[]⟩] 34), fun h => je4 (h.resolve_right (by decide)), jne0, jne1⟩), fun _ => ⟨W.heap.size, .string ⟨#[]⟩, .string ⟨#[]⟩, .string ⟨#[]⟩, rfl, bb.size, Blk.fresh W #[.string ⟨#[]⟩, .string ⟨#[]⟩, .string ⟨#[]⟩] 34, fun h => absurd (old js7 rfl h) hn, (Nat.ne_of_lt jb0.lt), (Nat.ne_of_lt jb1.lt)⟩, fun h => .inl (old js6 rfl h), fun h => .inl (old js7 rfl h), fun h h2 => (by obtain ⟨jg, ju0, ju1, ju2, je1, je2, je3, je4, jne0, jne1⟩ := jf4 (h.resolve_right (by decide)); have jhlt := je3.lt; show slotOf a 5 ≠ (Value.pointer (some ⟨W.heap.size, 0, none⟩)); rw [je1]; intro e; injection e with e; injection e with e; injection e with e; omega), jb0.alloc (Obj.cells #[.string ⟨#[]⟩, .string ⟨#[]⟩, .string ⟨#[]⟩] 34), jb1.alloc (Obj.cells #[.string ⟨#[]⟩, .string ⟨#[]⟩, .string ⟨#[]⟩] 34), bb.trans ((below_new W (Obj.cells #[.string ⟨#[]⟩, .string ⟨#[]⟩, .string ⟨#[]⟩] 34)).mono bb.size)⟩
    · rintro L a W ho ⟨V, jf4, jf5, js6, js7, jn4_5, jb0, jb1, bb⟩ hn hd K hK
      have jh4 := hd.get 4 rfl
      have jh1 := hd.get 1 rfl
      clear hd
      refine Wants.free rfl ?_
      have jr38 := V.read 1 rfl rfl jh1
      obtain ⟨jg, jy0, jy1, jy2, je1, je2, je3, je4, jne0, jne1⟩ := jf4 jh4
      have jr5 : a.tmps[(5 : Nat)]?.getD undef = .pointer (some ⟨jg, 0, none⟩) := je1
      have jc0 := je3.at_ 0 _ rfl
      have jz0 := je3.free 0
      have jc1 := je3.at_ 1 _ rfl
      have jz1 := je3.free 1
      have jc2 := je3.at_ 2 _ rfl
      have jz2 := je3.free 2
      go_simp
      exact hK.out (undef) _ ⟨V.same 6 _ rfl, fun _ => ⟨jg, .string A1, .string A2, .string A3, je1, je2, je3.set3 (.string A1) (.string A2) (.string A3), fun _ => rfl, jne0, jne1⟩, fun h => (by have jhne := jn4_5 jh4 (h.resolve_right (by decide)); obtain ⟨jg2, ju0, ju1, ju2, jt1, jq2, jq3, je4, jnq0, jnq1⟩ := old jf5 rfl h; exact ⟨jg2, _, _, _, jt1, jq2, jq3.else3 (fun e => jhne (by rw [jt1, je1, e])) (.string A1) (.string A2) (.string A3), fun h => je4 (h.resolve_right (by decide)), jnq0, jnq1⟩), fun _ => .inl jh4, fun h => .inl (old js7 rfl h), fun h h2 => jn4_5 (h.resolve_right (by decide)) (h2.resolve_right (by decide)), jb0.else3 jne0 (.string A1) (.string A2) (.string A3), jb1.else3 jne1 (.string A1) (.string A2) (.string A3), bb.trans (below_else3 W w.heap.size jg je2 (.string A1) (.string A2) (.string A3))⟩
    · rintro L a W ho ⟨V, jf4, jf5, js6, js7, jn4_5, jb0, jb1, bb⟩ hn hd K hK
      have jh5 := hd.get 5 rfl
      have jh3 := hd.get 3 rfl
      clear hd
      refine Wants.free rfl ?_
      have jr40 := V.read 3 rfl rfl jh3
      obtain ⟨jg, jy0, jy1, jy2, je1, je2, je3, je4, jne0, jne1⟩ := jf5 jh5
      have jr6 : a.tmps[(6 : Nat)]?.getD undef = .pointer (some ⟨jg, 0, none⟩) := je1
      have jc0 := je3.at_ 0 _ rfl
      have jz0 := je3.free 0
      have jc1 := je3.at_ 1 _ rfl
      have jz1 := je3.free 1
      have jc2 := je3.at_ 2 _ rfl
      have jz2 := je3.free 2
      go_simp
      exact hK.out (undef) _ ⟨V.same 7 _ rfl, fun h => (by have jhne := jn4_5 (h.resolve_right (by decide)) jh5; obtain ⟨jg2, ju0, ju1, ju2, jt1, jq2, jq3, je4, jnq0, jnq1⟩ := old jf4 rfl h; exact ⟨jg2, _, _, _, jt1, jq2, jq3.else3 (fun e => jhne (by rw [jt1, je1, e])) (.string C1) (.string C2) (.string C3), fun h => je4 (h.resolve_right (by decide)), jnq0, jnq1⟩), fun _ => ⟨jg, .string C1, .string C2, .string C3, je1, je2, je3.set3 (.string C1) (.string C2) (.string C3), fun _ => rfl, jne0, jne1⟩, fun h => .inl (old js6 rfl h), fun _ => .inl jh5, fun h h2 => jn4_5 (h.resolve_right (by decide)) (h2.resolve_right (by decide)), jb0.else3 jne0 (.string C1) (.string C2) (.string C3), jb1.else3 jne1 (.string C1) (.string C2) (.string C3), bb.trans (below_else3 W w.heap.size jg je2 (.string C1) (.string C2) (.string C3))⟩
  rintro L σ W ⟨V, jf4, jf5, js6, js7, jn4_5, jb0, jb1, bb⟩ hL
  have jf0 := V 0 _ _ rfl rfl (hL 0 (by decide))
  have jf1 := V 1 _ _ rfl rfl (hL 1 (by decide))
  have jf2 := V 2 _ _ rfl rfl (hL 2 (by decide))
  have jf3 := V 3 _ _ rfl rfl (hL 3 (by decide))
  clear V
  replace jn4_5 := jn4_5 (hL 4 (by decide)) (hL 5 (by decide))
  obtain ⟨g3_4, jy4_0, jy4_1, jy4_2, jf4, jl4, jv4, je4, jne4_0, jne4_1⟩ := jf4 (hL 4 (by decide))
  rw [je4 (hL 6 (by decide))] at jv4
  clear je4 jne4_0 jne4_1
  obtain ⟨g3_5, jy5_0, jy5_1, jy5_2, jf5, jl5, jv5, je5, jne5_0, jne5_1⟩ := jf5 (hL 5 (by decide))
  rw [je5 (hL 7 (by decide))] at jv5
  clear je5 jne5_0 jne5_1
  clear jn4_5
  clear hL js6 js7
  rw [show List.map σ [37, 38, 39, 40, 5, 6] = [σ 37, σ 38, σ 39, σ 40, σ 5, σ 6] from rfl, jf0, jf1, jf2, jf3, jf4, jf5]
  clear jf0 jf1 jf2 jf3 jf4 jf5
  simp only [putAll, List.map, Act.put, List.setIfInBounds_toArray, List.set_cons_succ, List.set_cons_zero]
  replace K0 := Lib.hid jb0
  replace K1 := Lib.hid jb1
  have K2 := Lib.hid jv4
  have K3 := Lib.hid jv5
  replace B := Lib.hid bb
  clear bb jb0 jb1 jv4 jl4 jv5 jl5
  have c0_0 := K0.out.at_ 0 _ rfl
  have c0_1 := K0.out.at_ 1 _ rfl
  have c0_2 := K0.out.at_ 2 _ rfl
  have c0_3 := K0.out.at_ 3 _ rfl
  have c1_0 := K1.out.at_ 0 _ rfl
  have c1_1 := K1.out.at_ 1 _ rfl
  have c1_2 := K1.out.at_ 2 _ rfl
  have c1_3 := K1.out.at_ 3 _ rfl
  have c2_0 := K2.out.at_ 0 _ rfl
  have c2_1 := K2.out.at_ 1 _ rfl
  have c2_2 := K2.out.at_ 2 _ rfl
  have c3_0 := K3.out.at_ 0 _ rfl
  have c3_1 := K3.out.at_ 1 _ rfl
  have c3_2 := K3.out.at_ 2 _ rfl
  go_upto_region 4 with (fail)
  clear c0_0 c0_1 c0_2 c0_3 c1_0 c1_1 c1_2 c1_3 c2_0 c2_1 c2_2 c3_0 c3_1 c3_2
  refine wp_region_par (by kernel_rfl) [41, 42, 43, 44, 45, 46, 47, 48, 49, 50, 7] (fun L σ W => Vals [some 41, some 42, some 43, some 44, some 45, some 46, some 47, some 48, some 49, some 50, none, none] [(.pointer (some ⟨g3_5, 0, none⟩)), (.string C1), (.string F1), (.pointer (some ⟨g3_5, 1, none⟩)), (.string C2), (.string F2), (.pointer (some ⟨g3_5, 2, none⟩)), (.string C3), (.string F3), (.agg #[.string F1, .string F2, .string F3]), undef, undef] L σ ∧ (L 10 → ∃ (g : Nat) (jy0 jy1 jy2 : Value), σ 7 = .pointer (some ⟨g, 0, none⟩) ∧ w.heap.size ≤ g ∧ Blk W g #[jy0, jy1, jy2] 34 ∧ (L 11 → #[jy0, jy1, jy2] = #[.string F1, .string F2, .string F3]) ∧ w.heap.size ≠ g ∧ w.heap.size + 1 ≠ g ∧ g3_4 ≠ g ∧ g3_5 ≠ g) ∧ (L 11 → L 10) ∧ Blk W (w.heap.size) #[.int .i8 x1, .int .i8 y1, .int .i8 z1, .int .u8 b1] 24 ∧ Blk W (w.heap.size + 1) #[.int .i8 x2, .int .i8 y2, .int .i8 z2, .int .u8 b2] 24 ∧ Blk W (g3_4) #[.string A1, .string A2, .string A3] 34 ∧ Blk W (g3_5) #[.string C1, .string C2, .string C3] 34 ∧ Below w.heap.size w W) (by kernel_rfl) (by kernel_rfl) (by kernel_rfl) ?_ ?_ ?_
  · exact fun σ => ⟨Vals.start, fun h => h.elim, fun h => h.elim, K0.out.below (Below.refl _ _).drew, K1.out.below (Below.refl _ _).drew, K2.out.below (Below.refl _ _).drew, K3.out.below (Below.refl _ _).drew, B.out.drew⟩
  · refine ⟨?_, ?_, ?_, ?_, ?_, ?_, ?_, ?_, ?_, ?_, ?_, ?_, trivial⟩
    · rintro L a W ho ⟨V, jf10, js11, jb0, jb1, jb2, jb3, bb⟩ hn hd K hK
      clear hd
      refine Wants.free rfl ?_
      have jr6 : a.tmps[(6 : Nat)]?.getD undef = .pointer (some ⟨g3_5, 0, none⟩) := ho.slot 6 rfl
      go_simp
      exact hK.out (.pointer (some ⟨g3_5, 0, none⟩)) _ ⟨V.set 0 _ _ rfl rfl rfl, fun h => (by obtain ⟨jg, ju0, ju1, ju2, je1, je2, je3, je4, jne0, jne1, jne2, jne3⟩ := old jf10 rfl h; exact ⟨jg, _, _, _, je1, je2, je3, fun h => je4 (h.resolve_right (by decide)), jne0, jne1, jne2, jne3⟩), fun h => .inl (old js11 rfl h), jb0, jb1, jb2, jb3, bb⟩
    · rintro L a W ho ⟨V, jf10, js11, jb0, jb1, jb2, jb3, bb⟩ hn hd K hK
      have jh0 := hd.get 0 rfl
      clear hd
      refine Wants.free rfl ?_
      have jr41 := V.read 0 rfl rfl jh0
      have jc0 := jb3.at_ 0 _ rfl
      go_simp
      exact hK.out (.string C1) _ ⟨V.set 1 _ _ rfl rfl rfl, fun h => (by obtain ⟨jg, ju0, ju1, ju2, je1, je2, je3, je4, jne0, jne1, jne2, jne3⟩ := old jf10 rfl h; exact ⟨jg, _, _, _, je1, je2, je3, fun h => je4 (h.resolve_right (by decide)), jne0, jne1, jne2, jne3⟩), fun h => .inl (old js11 rfl h), jb0, jb1, jb2, jb3, bb⟩
    · rintro L a W ho ⟨V, jf10, js11, jb0, jb1, jb2, jb3, bb⟩ hn hd K hK
      have jh1 := hd.get 1 rfl
      clear hd
      refine Wants.free rfl ?_
      have jr42 := V.read 1 rfl rfl jh1
      go_simp
      go_at_call 30
      with_reducible refine (N4.out _ bb).mono ?_
      rintro e wx ⟨rfl, q⟩
      go_simp
      exact hK.out (.string F1) _ ⟨V.set 2 _ _ rfl rfl rfl, fun h => (by obtain ⟨jg, ju0, ju1, ju2, je1, je2, je3, je4, jne0, jne1, jne2, jne3⟩ := old jf10 rfl h; exact ⟨jg, _, _, _, je1, je2, je3.below q, fun h => je4 (h.resolve_right (by decide)), jne0, jne1, jne2, jne3⟩), fun h => .inl (old js11 rfl h), jb0.below q, jb1.below q, jb2.below q, jb3.below q, bb.trans (q.mono bb.size)⟩
    · rintro L a W ho ⟨V, jf10, js11, jb0, jb1, jb2, jb3, bb⟩ hn hd K hK
      clear hd
      refine Wants.free rfl ?_
      have jr6 : a.tmps[(6 : Nat)]?.getD undef = .pointer (some ⟨g3_5, 0, none⟩) := ho.slot 6 rfl
      go_simp
      exact hK.out (.pointer (some ⟨g3_5, 1, none⟩)) _ ⟨V.set 3 _ _ rfl rfl rfl, fun h => (by obtain ⟨jg, ju0, ju1, ju2, je1, je2, je3, je4, jne0, jne1, jne2, jne3⟩ := old jf10 rfl h; exact ⟨jg, _, _, _, je1, je2, je3, fun h => je4 (h.resolve_right (by decide)), jne0, jne1, jne2, jne3⟩), fun h => .inl (old js11 rfl h), jb0, jb1, jb2, jb3, bb⟩
    · rintro L a W ho ⟨V, jf10, js11, jb0, jb1, jb2, jb3, bb⟩ hn hd K hK
      have jh3 := hd.get 3 rfl
      clear hd
      refine Wants.free rfl ?_
      have jr44 := V.read 3 rfl rfl jh3
      have jc1 := jb3.at_ 1 _ rfl
      go_simp
      exact hK.out (.string C2) _ ⟨V.set 4 _ _ rfl rfl rfl, fun h => (by obtain ⟨jg, ju0, ju1, ju2, je1, je2, je3, je4, jne0, jne1, jne2, jne3⟩ := old jf10 rfl h; exact ⟨jg, _, _, _, je1, je2, je3, fun h => je4 (h.resolve_right (by decide)), jne0, jne1, jne2, jne3⟩), fun h => .inl (old js11 rfl h), jb0, jb1, jb2, jb3, bb⟩
    · rintro L a W ho ⟨V, jf10, js11, jb0, jb1, jb2, jb3, bb⟩ hn hd K hK
      have jh4 := hd.get 4 rfl
      clear hd
      refine Wants.free rfl ?_
      have jr45 := V.read 4 rfl rfl jh4
      go_simp
      go_at_call 30
      with_reducible refine (N5.out _ bb).mono ?_
      rintro e wx ⟨rfl, q⟩
      go_simp
      exact hK.out (.string F2) _ ⟨V.set 5 _ _ rfl rfl rfl, fun h => (by obtain ⟨jg, ju0, ju1, ju2, je1, je2, je3, je4, jne0, jne1, jne2, jne3⟩ := old jf10 rfl h; exact ⟨jg, _, _, _, je1, je2, je3.below q, fun h => je4 (h.resolve_right (by decide)), jne0, jne1, jne2, jne3⟩), fun h => .inl (old js11 rfl h), jb0.below q, jb1.below q, jb2.below q, jb3.below q, bb.trans (q.mono bb.size)⟩
    · rintro L a W ho ⟨V, jf10, js11, jb0, jb1, jb2, jb3, bb⟩ hn hd K hK
      clear hd
      refine Wants.free rfl ?_
      have jr6 : a.tmps[(6 : Nat)]?.getD undef = .pointer (some ⟨g3_5, 0, none⟩) := ho.slot 6 rfl
      go_simp
      exact hK.out (.pointer (some ⟨g3_5, 2, none⟩)) _ ⟨V.set 6 _ _ rfl rfl rfl, fun h => (by obtain ⟨jg, ju0, ju1, ju2, je1, je2, je3, je4, jne0, jne1, jne2, jne3⟩ := old jf10 rfl h; exact ⟨jg, _, _, _, je1, je2, je3, fun h => je4 (h.resolve_right (by decide)), jne0, jne1, jne2, jne3⟩), fun h => .inl (old js11 rfl h), jb0, jb1, jb2, jb3, bb⟩
    · rintro L a W ho ⟨V, jf10, js11, jb0, jb1, jb2, jb3, bb⟩ hn hd K hK
      have jh6 := hd.get 6 rfl
      clear hd
      refine Wants.free rfl ?_
      have jr47 := V.read 6 rfl rfl jh6
      have jc2 := jb3.at_ 2 _ rfl
      go_simp
      exact hK.out (.string C3) _ ⟨V.set 7 _ _ rfl rfl rfl, fun h => (by obtain ⟨jg, ju0, ju1, ju2, je1, je2, je3, je4, jne0, jne1, jne2, jne3⟩ := old jf10 rfl h; exact ⟨jg, _, _, _, je1, je2, je3, fun h => je4 (h.resolve_right (by decide)), jne0, jne1, jne2, jne3⟩), fun h => .inl (old js11 rfl h), jb0, jb1, jb2, jb3, bb⟩
    · rintro L a W ho ⟨V, jf10, js11, jb0, jb1, jb2, jb3, bb⟩ hn hd K hK
      have jh7 := hd.get 7 rfl
      clear hd
      refine Wants.free rfl ?_
      have jr48 := V.read 7 rfl rfl jh7
      go_simp
      go_at_call 30
      with_reducible refine (N6.out _ bb).mono ?_
      rintro e wx ⟨rfl, q⟩
      go_simp
      exact hK.out (.string F3) _ ⟨V.set 8 _ _ rfl rfl rfl, fun h => (by obtain ⟨jg, ju0, ju1, ju2, je1, je2, je3, je4, jne0, jne1, jne2, jne3⟩ := old jf10 rfl h; exact ⟨jg, _, _, _, je1, je2, je3.below q, fun h => je4 (h.resolve_right (by decide)), jne0, jne1, jne2, jne3⟩), fun h => .inl (old js11 rfl h), jb0.below q, jb1.below q, jb2.below q, jb3.below q, bb.trans (q.mono bb.size)⟩
    · rintro L a W ho ⟨V, jf10, js11, jb0, jb1, jb2, jb3, bb⟩ hn hd K hK
      have jh2 := hd.get 2 rfl
      have jh5 := hd.get 5 rfl
      have jh8 := hd.get 8 rfl
      clear hd
      refine Wants.free rfl ?_
      have jr43 := V.read 2 rfl rfl jh2
      have jr46 := V.read 5 rfl rfl jh5
      have jr49 := V.read 8 rfl rfl jh8
      go_simp
      exact hK.out (.agg #[.string F1, .string F2, .string F3]) _ ⟨V.set 9 _ _ rfl rfl rfl, fun h => (by obtain ⟨jg, ju0, ju1, ju2, je1, je2, je3, je4, jne0, jne1, jne2, jne3⟩ := old jf10 rfl h; exact ⟨jg, _, _, _, je1, je2, je3, fun h => je4 (h.resolve_right (by decide)), jne0, jne1, jne2, jne3⟩), fun h => .inl (old js11 rfl h), jb0, jb1, jb2, jb3, bb⟩
    · rintro L a W ho ⟨V, jf10, js11, jb0, jb1, jb2, jb3, bb⟩ hn hd K hK
      clear hd
      refine Wants.free rfl ?_
      go_simp
      exact hK.out (.pointer (some ⟨W.heap.size, 0, none⟩)) _ ⟨V.apart 10 _ _ rfl rfl, fun _ => ⟨W.heap.size, .string ⟨#[]⟩, .string ⟨#[]⟩, .string ⟨#[]⟩, rfl, bb.size, Blk.fresh W #[.string ⟨#[]⟩, .string ⟨#[]⟩, .string ⟨#[]⟩] 34, fun h => absurd (old js11 rfl h) hn, (Nat.ne_of_lt jb0.lt), (Nat.ne_of_lt jb1.lt), (Nat.ne_of_lt jb2.lt), (Nat.ne_of_lt jb3.lt)⟩, fun h => .inl (old js11 rfl h), jb0.alloc (Obj.cells #[.string ⟨#[]⟩, .string ⟨#[]⟩, .string ⟨#[]⟩] 34), jb1.alloc (Obj.cells #[.string ⟨#[]⟩, .string ⟨#[]⟩, .string ⟨#[]⟩] 34), jb2.alloc (Obj.cells #[.string ⟨#[]⟩, .string ⟨#[]⟩, .string ⟨#[]⟩] 34), jb3.alloc (Obj.cells #[.string ⟨#[]⟩, .string ⟨#[]⟩, .string ⟨#[]⟩] 34), bb.trans ((below_new W (Obj.cells #[.string ⟨#[]⟩, .string ⟨#[]⟩, .string ⟨#[]⟩] 34)).mono bb.size)⟩
    · rintro L a W ho ⟨V, jf10, js11, jb0, jb1, jb2, jb3, bb⟩ hn hd K hK
      have jh10 := hd.get 10 rfl
      have jh9 := hd.get 9 rfl
      clear hd
      refine Wants.free rfl ?_
      have jr50 := V.read 9 rfl rfl jh9
      obtain ⟨jg, jy0, jy1, jy2, je1, je2, je3, je4, jne0, jne1, jne2, jne3⟩ := jf10 jh10
      have jr7 : a.tmps[(7 : Nat)]?.getD undef = .pointer (some ⟨jg, 0, none⟩) := je1
      have jc0 := je3.at_ 0 _ rfl
      have jz0 := je3.free 0
      have jc1 := je3.at_ 1 _ rfl
      have jz1 := je3.free 1
      have jc2 := je3.at_ 2 _ rfl
      have jz2 := je3.free 2
      go_simp
      exact hK.out (undef) _ ⟨V.same 11 _ rfl, fun _ => ⟨jg, .string F1, .string F2, .string F3, je1, je2, je3.set3 (.string F1) (.string F2) (.string F3), fun _ => rfl, jne0, jne1, jne2, jne3⟩, fun _ => .inl jh10, jb0.else3 jne0 (.string F1) (.string F2) (.string F3), jb1.else3 jne1 (.string F1) (.string F2) (.string F3), jb2.else3 jne2 (.string F1) (.string F2) (.string F3), jb3.else3 jne3 (.string F1) (.string F2) (.string F3), bb.trans (below_else3 W w.heap.size jg je2 (.string F1) (.string F2) (.string F3))⟩
  rintro L σ W ⟨V, jf10, js11, jb0, jb1, jb2, jb3, bb⟩ hL
  have jf0 := V 0 _ _ rfl rfl (hL 0 (by decide))
  have jf1 := V 1 _ _ rfl rfl (hL 1 (by decide))
  have jf2 := V 2 _ _ rfl rfl (hL 2 (by decide))
  have jf3 := V 3 _ _ rfl rfl (hL 3 (by decide))
  have jf4 := V 4 _ _ rfl rfl (hL 4 (by decide))
  have jf5 := V 5 _ _ rfl rfl (hL 5 (by decide))
  have jf6 := V 6 _ _ rfl rfl (hL 6 (by decide))
  have jf7 := V 7 _ _ rfl rfl (hL 7 (by decide))
  have jf8 := V 8 _ _ rfl rfl (hL 8 (by decide))
  have jf9 := V 9 _ _ rfl rfl (hL 9 (by decide))
  clear V
  obtain ⟨g4_10, jy10_0, jy10_1, jy10_2, jf10, jl10, jv10, je10, jne10_0, jne10_1, jne10_2, jne10_3⟩ := jf10 (hL 10 (by decide))
  rw [je10 (hL 11 (by decide))] at jv10
  clear je10 jne10_0 jne10_1 jne10_2 jne10_3
  clear hL js11
  rw [show List.map σ [41, 42, 43, 44, 45, 46, 47, 48, 49, 50, 7] = [σ 41, σ 42, σ 43, σ 44, σ 45, σ 46, σ 47, σ 48, σ 49, σ 50, σ 7] from rfl, jf0, jf1, jf2, jf3, jf4, jf5, jf6, jf7, jf8, jf9, jf10]
  clear jf0 jf1 jf2 jf3 jf4 jf5 jf6 jf7 jf8 jf9 jf10
  simp only [putAll, List.map, Act.put, List.setIfInBounds_toArray, List.set_cons_succ, List.set_cons_zero]
  replace K0 := Lib.hid jb0
  replace K1 := Lib.hid jb1
  replace K2 := Lib.hid jb2
  replace K3 := Lib.hid jb3
  have K4 := Lib.hid jv10
  replace B := Lib.hid bb
  clear bb jb0 jb1 jb2 jb3 jv10 jl10
  have c0_0 := K0.out.at_ 0 _ rfl
  have c0_1 := K0.out.at_ 1 _ rfl
  have c0_2 := K0.out.at_ 2 _ rfl
  have c0_3 := K0.out.at_ 3 _ rfl
  have c1_0 := K1.out.at_ 0 _ rfl
  have c1_1 := K1.out.at_ 1 _ rfl
  have c1_2 := K1.out.at_ 2 _ rfl
  have c1_3 := K1.out.at_ 3 _ rfl
  have c2_0 := K2.out.at_ 0 _ rfl
  have c2_1 := K2.out.at_ 1 _ rfl
  have c2_2 := K2.out.at_ 2 _ rfl
  have c3_0 := K3.out.at_ 0 _ rfl
  have c3_1 := K3.out.at_ 1 _ rfl
  have c3_2 := K3.out.at_ 2 _ rfl
  have c4_0 := K4.out.at_ 0 _ rfl
  have c4_1 := K4.out.at_ 1 _ rfl
  have c4_2 := K4.out.at_ 2 _ rfl
  go_upto_region 5 with (fail)
  clear c0_0 c0_1 c0_2 c0_3 c1_0 c1_1 c1_2 c1_3 c2_0 c2_1 c2_2 c3_0 c3_1 c3_2 c4_0 c4_1 c4_2
  refine wp_region_par (by kernel_rfl) [51, 52, 53, 54, 55, 56, 57, 58, 59, 60, 8] (fun L σ W => Vals [some 51, some 52, some 53, some 54, some 55, some 56, some 57, some 58, some 59, some 60, none, none] [(.pointer (some ⟨g3_4, 0, none⟩)), (.string A1), (.string E1), (.pointer (some ⟨g3_4, 1, none⟩)), (.string A2), (.string E2), (.pointer (some ⟨g3_4, 2, none⟩)), (.string A3), (.string E3), (.agg #[.string E1, .string E2, .string E3]), undef, undef] L σ ∧ (L 10 → ∃ (g : Nat) (jy0 jy1 jy2 : Value), σ 8 = .pointer (some ⟨g, 0, none⟩) ∧ w.heap.size ≤ g ∧ Blk W g #[jy0, jy1, jy2] 34 ∧ (L 11 → #[jy0, jy1, jy2] = #[.string E1, .string E2, .string E3]) ∧ w.heap.size ≠ g ∧ w.heap.size + 1 ≠ g ∧ g3_4 ≠ g ∧ g3_5 ≠ g ∧ g4_10 ≠ g) ∧ (L 11 → L 10) ∧ Blk W (w.heap.size) #[.int .i8 x1, .int .i8 y1, .int .i8 z1, .int .u8 b1] 24 ∧ Blk W (w.heap.size + 1) #[.int .i8 x2, .int .i8 y2, .int .i8 z2, .int .u8 b2] 24 ∧ Blk W (g3_4) #[.string A1, .string A2, .string A3] 34 ∧ Blk W (g3_5) #[.string C1, .string C2, .string C3] 34 ∧ Blk W (g4_10) #[.string F1, .string F2, .string F3] 34 ∧ Below w.heap.size w W) (by kernel_rfl) (by kernel_rfl) (by kernel_rfl) ?_ ?_ ?_
  · exact fun σ => ⟨Vals.start, fun h => h.elim, fun h => h.elim, K0.out.below (Below.refl _ _).drew, K1.out.below (Below.refl _ _).drew, K2.out.below (Below.refl _ _).drew, K3.out.below (Below.refl _ _).drew, K4.out.below (Below.refl _ _).drew, B.out.drew⟩
  · refine ⟨?_, ?_, ?_, ?_, ?_, ?_, ?_, ?_, ?_, ?_, ?_, ?_, trivial⟩
    · rintro L a W ho ⟨V, jf10, js11, jb0, jb1, jb2, jb3, jb4, bb⟩ hn hd K hK
      clear hd
      refine Wants.free rfl ?_
      have jr5 : a.tmps[(5 : Nat)]?.getD undef = .pointer (some ⟨g3_4, 0, none⟩) := ho.slot 5 rfl
      go_simp
      exact hK.out (.pointer (some ⟨g3_4, 0, none⟩)) _ ⟨V.set 0 _ _ rfl rfl rfl, fun h => (by obtain ⟨jg, ju0, ju1, ju2, je1, je2, je3, je4, jne0, jne1, jne2, jne3, jne4⟩ := old jf10 rfl h; exact ⟨jg, _, _, _, je1, je2, je3, fun h => je4 (h.resolve_right (by decide)), jne0, jne1, jne2, jne3, jne4⟩), fun h => .inl (old js11 rfl h), jb0, jb1, jb2, jb3, jb4, bb⟩
    · rintro L a W ho ⟨V, jf10, js11, jb0, jb1, jb2, jb3, jb4, bb⟩ hn hd K hK
      have jh0 := hd.get 0 rfl
      clear hd
      refine Wants.free rfl ?_
      have jr51 := V.read 0 rfl rfl jh0
      have jc0 := jb2.at_ 0 _ rfl
      go_simp
      exact hK.out (.string A1) _ ⟨V.set 1 _ _ rfl rfl rfl, fun h => (by obtain ⟨jg, ju0, ju1, ju2, je1, je2, je3, je4, jne0, jne1, jne2, jne3, jne4⟩ := old jf10 rfl h; exact ⟨jg, _, _, _, je1, je2, je3, fun h => je4 (h.resolve_right (by decide)), jne0, jne1, jne2, jne3, jne4⟩), fun h => .inl (old js11 rfl h), jb0, jb1, jb2, jb3, jb4, bb⟩
    · rintro L a W ho ⟨V, jf10, js11, jb0, jb1, jb2, jb3, jb4, bb⟩ hn hd K hK
      have jh1 := hd.get 1 rfl
      clear hd
      refine Wants.free rfl ?_
      have jr52 := V.read 1 rfl rfl jh1
      go_simp
      go_at_call 30
      with_reducible refine (N1.out _ bb).mono ?_
      rintro e wx ⟨rfl, q⟩
      go_simp
      exact hK.out (.string E1) _ ⟨V.set 2 _ _ rfl rfl rfl, fun h => (by obtain ⟨jg, ju0, ju1, ju2, je1, je2, je3, je4, jne0, jne1, jne2, jne3, jne4⟩ := old jf10 rfl h; exact ⟨jg, _, _, _, je1, je2, je3.below q, fun h => je4 (h.resolve_right (by decide)), jne0, jne1, jne2, jne3, jne4⟩), fun h => .inl (old js11 rfl h), jb0.below q, jb1.below q, jb2.below q, jb3.below q, jb4.below q, bb.trans (q.mono bb.size)⟩
    · rintro L a W ho ⟨V, jf10, js11, jb0, jb1, jb2, jb3, jb4, bb⟩ hn hd K hK
      clear hd
      refine Wants.free rfl ?_
      have jr5 : a.tmps[(5 : Nat)]?.getD undef = .pointer (some ⟨g3_4, 0, none⟩) := ho.slot 5 rfl
      go_simp
      exact hK.out (.pointer (some ⟨g3_4, 1, none⟩)) _ ⟨V.set 3 _ _ rfl rfl rfl, fun h => (by obtain ⟨jg, ju0, ju1, ju2, je1, je2, je3, je4, jne0, jne1, jne2, jne3, jne4⟩ := old jf10 rfl h; exact ⟨jg, _, _, _, je1, je2, je3, fun h => je4 (h.resolve_right (by decide)), jne0, jne1, jne2, jne3, jne4⟩), fun h => .inl (old js11 rfl h), jb0, jb1, jb2, jb3, jb4, bb⟩
    · rintro L a W ho ⟨V, jf10, js11, jb0, jb1, jb2, jb3, jb4, bb⟩ hn hd K hK
      have jh3 := hd.get 3 rfl
      clear hd
      refine Wants.free rfl ?_
      have jr54 := V.read 3 rfl rfl jh3
      have jc1 := jb2.at_ 1 _ rfl
      go_simp
      exact hK.out (.string A2) _ ⟨V.set 4 _ _ rfl rfl rfl, fun h => (by obtain ⟨jg, ju0, ju1, ju2, je1, je2, je3, je4, jne0, jne1, jne2, jne3, jne4⟩ := old jf10 rfl h; exact ⟨jg, _, _, _, je1, je2, je3, fun h => je4 (h.resolve_right (by decide)), jne0, jne1, jne2, jne3, jne4⟩), fun h => .inl (old js11 rfl h), jb0, jb1, jb2, jb3, jb4, bb⟩
    · rintro L a W ho ⟨V, jf10, js11, jb0, jb1, jb2, jb3, jb4, bb⟩ hn hd K hK
      have jh4 := hd.get 4 rfl
      clear hd
      refine Wants.free rfl ?_
      have jr55 := V.read 4 rfl rfl jh4
      go_simp
      go_at_call 30
      with_reducible refine (N2.out _ bb).mono ?_
      rintro e wx ⟨rfl, q⟩
      go_simp
      exact hK.out (.string E2) _ ⟨V.set 5 _ _ rfl rfl rfl, fun h => (by obtain ⟨jg, ju0, ju1, ju2, je1, je2, je3, je4, jne0, jne1, jne2, jne3, jne4⟩ := old jf10 rfl h; exact ⟨jg, _, _, _, je1, je2, je3.below q, fun h => je4 (h.resolve_right (by decide)), jne0, jne1, jne2, jne3, jne4⟩), fun h => .inl (old js11 rfl h), jb0.below q, jb1.below q, jb2.below q, jb3.below q, jb4.below q, bb.trans (q.mono bb.size)⟩
    · rintro L a W ho ⟨V, jf10, js11, jb0, jb1, jb2, jb3, jb4, bb⟩ hn hd K hK
      clear hd
      refine Wants.free rfl ?_
      have jr5 : a.tmps[(5 : Nat)]?.getD undef = .pointer (some ⟨g3_4, 0, none⟩) := ho.slot 5 rfl
      go_simp
      exact hK.out (.pointer (some ⟨g3_4, 2, none⟩)) _ ⟨V.set 6 _ _ rfl rfl rfl, fun h => (by obtain ⟨jg, ju0, ju1, ju2, je1, je2, je3, je4, jne0, jne1, jne2, jne3, jne4⟩ := old jf10 rfl h; exact ⟨jg, _, _, _, je1, je2, je3, fun h => je4 (h.resolve_right (by decide)), jne0, jne1, jne2, jne3, jne4⟩), fun h => .inl (old js11 rfl h), jb0, jb1, jb2, jb3, jb4, bb⟩
    · rintro L a W ho ⟨V, jf10, js11, jb0, jb1, jb2, jb3, jb4, bb⟩ hn hd K hK
      have jh6 := hd.get 6 rfl
      clear hd
      refine Wants.free rfl ?_
      have jr57 := V.read 6 rfl rfl jh6
      have jc2 := jb2.at_ 2 _ rfl
      go_simp
      exact hK.out (.string A3) _ ⟨V.set 7 _ _ rfl rfl rfl, fun h => (by obtain ⟨jg, ju0, ju1, ju2, je1, je2, je3, je4, jne0, jne1, jne2, jne3, jne4⟩ := old jf10 rfl h; exact ⟨jg, _, _, _, je1, je2, je3, fun h => je4 (h.resolve_right (by decide)), jne0, jne1, jne2, jne3, jne4⟩), fun h => .inl (old js11 rfl h), jb0, jb1, jb2, jb3, jb4, bb⟩
    · rintro L a W ho ⟨V, jf10, js11, jb0, jb1, jb2, jb3, jb4, bb⟩ hn hd K hK
      have jh7 := hd.get 7 rfl
      clear hd
      refine Wants.free rfl ?_
      have jr58 := V.read 7 rfl rfl jh7
      go_simp
      go_at_call 30
      with_reducible refine (N3.out _ bb).mono ?_
      rintro e wx ⟨rfl, q⟩
      go_simp
      exact hK.out (.string E3) _ ⟨V.set 8 _ _ rfl rfl rfl, fun h => (by obtain ⟨jg, ju0, ju1, ju2, je1, je2, je3, je4, jne0, jne1, jne2, jne3, jne4⟩ := old jf10 rfl h; exact ⟨jg, _, _, _, je1, je2, je3.below q, fun h => je4 (h.resolve_right (by decide)), jne0, jne1, jne2, jne3, jne4⟩), fun h => .inl (old js11 rfl h), jb0.below q, jb1.below q, jb2.below q, jb3.below q, jb4.below q, bb.trans (q.mono bb.size)⟩
    · rintro L a W ho ⟨V, jf10, js11, jb0, jb1, jb2, jb3, jb4, bb⟩ hn hd K hK
      have jh2 := hd.get 2 rfl
      have jh5 := hd.get 5 rfl
      have jh8 := hd.get 8 rfl
      clear hd
      refine Wants.free rfl ?_
      have jr53 := V.read 2 rfl rfl jh2
      have jr56 := V.read 5 rfl rfl jh5
      have jr59 := V.read 8 rfl rfl jh8
      go_simp
      exact hK.out (.agg #[.string E1, .string E2, .string E3]) _ ⟨V.set 9 _ _ rfl rfl rfl, fun h => (by obtain ⟨jg, ju0, ju1, ju2, je1, je2, je3, je4, jne0, jne1, jne2, jne3, jne4⟩ := old jf10 rfl h; exact ⟨jg, _, _, _, je1, je2, je3, fun h => je4 (h.resolve_right (by decide)), jne0, jne1, jne2, jne3, jne4⟩), fun h => .inl (old js11 rfl h), jb0, jb1, jb2, jb3, jb4, bb⟩
    · rintro L a W ho ⟨V, jf10, js11, jb0, jb1, jb2, jb3, jb4, bb⟩ hn hd K hK
      clear hd
      refine Wants.free rfl ?_
      go_simp
      exact hK.out (.pointer (some ⟨W.heap.size, 0, none⟩)) _ ⟨V.apart 10 _ _ rfl rfl, fun _ => ⟨W.heap.size, .string ⟨#[]⟩, .string ⟨#[]⟩, .string ⟨#[]⟩, rfl, bb.size, Blk.fresh W #[.string ⟨#[]⟩, .string ⟨#[]⟩, .string ⟨#[]⟩] 34, fun h => absurd (old js11 rfl h) hn, (Nat.ne_of_lt jb0.lt), (Nat.ne_of_lt jb1.lt), (Nat.ne_of_lt jb2.lt), (Nat.ne_of_lt jb3.lt), (Nat.ne_of_lt jb4.lt)⟩, fun h => .inl (old js11 rfl h), jb0.alloc (Obj.cells #[.string ⟨#[]⟩, .string ⟨#[]⟩, .string ⟨#[]⟩] 34), jb1.alloc (Obj.cells #[.string ⟨#[]⟩, .string ⟨#[]⟩, .string ⟨#[]⟩] 34), jb2.alloc (Obj.cells #[.string ⟨#[]⟩, .string ⟨#[]⟩, .string ⟨#[]⟩] 34), jb3.alloc (Obj.cells #[.string ⟨#[]⟩, .string ⟨#[]⟩, .string ⟨#[]⟩] 34), jb4.alloc (Obj.cells #[.string ⟨#[]⟩, .string ⟨#[]⟩, .string ⟨#[]⟩] 34), bb.trans ((below_new W (Obj.cells #[.string ⟨#[]⟩, .string ⟨#[]⟩, .string ⟨#[]⟩] 34)).mono bb.size)⟩
    · rintro L a W ho ⟨V, jf10, js11, jb0, jb1, jb2, jb3, jb4, bb⟩ hn hd K hK
      have jh10 := hd.get 10 rfl
      have jh9 := hd.get 9 rfl
      clear hd
      refine Wants.free rfl ?_
      have jr60 := V.read 9 rfl rfl jh9
      obtain ⟨jg, jy0, jy1, jy2, je1, je2, je3, je4, jne0, jne1, jne2, jne3, jne4⟩ := jf10 jh10
      have jr8 : a.tmps[(8 : Nat)]?.getD undef = .pointer (some ⟨jg, 0, none⟩) := je1
      have jc0 := je3.at_ 0 _ rfl
      have jz0 := je3.free 0
      have jc1 := je3.at_ 1 _ rfl
      have jz1 := je3.free 1
      have jc2 := je3.at_ 2 _ rfl
      have jz2 := je3.free 2
      go_simp
      exact hK.out (undef) _ ⟨V.same 11 _ rfl, fun _ => ⟨jg, .string E1, .string E2, .string E3, je1, je2, je3.set3 (.string E1) (.string E2) (.string E3), fun _ => rfl, jne0, jne1, jne2, jne3, jne4⟩, fun _ => .inl jh10, jb0.else3 jne0 (.string E1) (.string E2) (.string E3), jb1.else3 jne1 (.string E1) (.string E2) (.string E3), jb2.else3 jne2 (.string E1) (.string E2) (.string E3), jb3.else3 jne3 (.string E1) (.string E2) (.string E3), jb4.else3 jne4 (.string E1) (.string E2) (.string E3), bb.trans (below_else3 W w.heap.size jg je2 (.string E1) (.string E2) (.string E3))⟩
  rintro L σ W ⟨V, jf10, js11, jb0, jb1, jb2, jb3, jb4, bb⟩ hL
  have jf0 := V 0 _ _ rfl rfl (hL 0 (by decide))
  have jf1 := V 1 _ _ rfl rfl (hL 1 (by decide))
  have jf2 := V 2 _ _ rfl rfl (hL 2 (by decide))
  have jf3 := V 3 _ _ rfl rfl (hL 3 (by decide))
  have jf4 := V 4 _ _ rfl rfl (hL 4 (by decide))
  have jf5 := V 5 _ _ rfl rfl (hL 5 (by decide))
  have jf6 := V 6 _ _ rfl rfl (hL 6 (by decide))
  have jf7 := V 7 _ _ rfl rfl (hL 7 (by decide))
  have jf8 := V 8 _ _ rfl rfl (hL 8 (by decide))
  have jf9 := V 9 _ _ rfl rfl (hL 9 (by decide))
  clear V
  obtain ⟨g5_10, jy10_0, jy10_1, jy10_2, jf10, jl10, jv10, je10, jne10_0, jne10_1, jne10_2, jne10_3, jne10_4⟩ := jf10 (hL 10 (by decide))
  rw [je10 (hL 11 (by decide))] at jv10
  clear je10 jne10_0 jne10_1 jne10_2 jne10_3 jne10_4
  clear hL js11
  rw [show List.map σ [51, 52, 53, 54, 55, 56, 57, 58, 59, 60, 8] = [σ 51, σ 52, σ 53, σ 54, σ 55, σ 56, σ 57, σ 58, σ 59, σ 60, σ 8] from rfl, jf0, jf1, jf2, jf3, jf4, jf5, jf6, jf7, jf8, jf9, jf10]
  clear jf0 jf1 jf2 jf3 jf4 jf5 jf6 jf7 jf8 jf9 jf10
  simp only [putAll, List.map, Act.put, List.setIfInBounds_toArray, List.set_cons_succ, List.set_cons_zero]
  replace K0 := Lib.hid jb0
  replace K1 := Lib.hid jb1
  replace K2 := Lib.hid jb2
  replace K3 := Lib.hid jb3
  replace K4 := Lib.hid jb4
  have K5 := Lib.hid jv10
  replace B := Lib.hid bb
  clear bb jb0 jb1 jb2 jb3 jb4 jv10 jl10
  have c0_0 := K0.out.at_ 0 _ rfl
  have c0_1 := K0.out.at_ 1 _ rfl
  have c0_2 := K0.out.at_ 2 _ rfl
  have c0_3 := K0.out.at_ 3 _ rfl
  have c1_0 := K1.out.at_ 0 _ rfl
  have c1_1 := K1.out.at_ 1 _ rfl
  have c1_2 := K1.out.at_ 2 _ rfl
  have c1_3 := K1.out.at_ 3 _ rfl
  have c2_0 := K2.out.at_ 0 _ rfl
  have c2_1 := K2.out.at_ 1 _ rfl
  have c2_2 := K2.out.at_ 2 _ rfl
  have c3_0 := K3.out.at_ 0 _ rfl
  have c3_1 := K3.out.at_ 1 _ rfl
  have c3_2 := K3.out.at_ 2 _ rfl
  have c4_0 := K4.out.at_ 0 _ rfl
  have c4_1 := K4.out.at_ 1 _ rfl
  have c4_2 := K4.out.at_ 2 _ rfl
  have c5_0 := K5.out.at_ 0 _ rfl
  have c5_1 := K5.out.at_ 1 _ rfl
  have c5_2 := K5.out.at_ 2 _ rfl
  go_upto_region 11 with (
   (first
    | (go_at_call 15; with_reducible refine (O1.out _ (baseI B.out)).mono ?_)
    | (go_at_call 15; with_reducible refine (O2.out _ (baseI B.out)).mono ?_)
    | (go_at_call 15; with_reducible refine (O3.out _ (baseI B.out)).mono ?_)
    | (go_at_call 15; with_reducible refine (O4.out _ (baseI B.out)).mono ?_)
    | (go_at_call 27; with_reducible refine (O5.out _ (baseI B.out)).mono ?_)
    | fail "arm"); rintro e wx ⟨rfl, q⟩; replace K0 := Lib.hid (K0.out.nearI q); replace K1 := Lib.hid (K1.out.nearI q); replace K2 := Lib.hid (K2.out.nearI q); replace K3 := Lib.hid (K3.out.nearI q); replace K4 := Lib.hid (K4.out.nearI q); replace K5 := Lib.hid (K5.out.nearI q); replace B := Lib.hid (goI B.out q); clear q; replace c0_0 := K0.out.at_ 0 _ rfl; replace c0_1 := K0.out.at_ 1 _ rfl; replace c0_2 := K0.out.at_ 2 _ rfl; replace c0_3 := K0.out.at_ 3 _ rfl; replace c1_0 := K1.out.at_ 0 _ rfl; replace c1_1 := K1.out.at_ 1 _ rfl; replace c1_2 := K1.out.at_ 2 _ rfl; replace c1_3 := K1.out.at_ 3 _ rfl; replace c2_0 := K2.out.at_ 0 _ rfl; replace c2_1 := K2.out.at_ 1 _ rfl; replace c2_2 := K2.out.at_ 2 _ rfl; replace c3_0 := K3.out.at_ 0 _ rfl; replace c3_1 := K3.out.at_ 1 _ rfl; replace c3_2 := K3.out.at_ 2 _ rfl; replace c4_0 := K4.out.at_ 0 _ rfl; replace c4_1 := K4.out.at_ 1 _ rfl; replace c4_2 := K4.out.at_ 2 _ rfl; replace c5_0 := K5.out.at_ 0 _ rfl; replace c5_1 := K5.out.at_ 1 _ rfl; replace c5_2 := K5.out.at_ 2 _ rfl)
  go_upto_region 13 with (fail)
  rcases hc with ⟨a1, a2⟩ | ⟨a1, a2, a3⟩ | ⟨a1, a2, a3, a4⟩ | ⟨a1, a2, a3⟩
  all_goals
    go_upto_region 16 with (
     (first
      | (go_at_call 23; with_reducible refine (O6.out _ (baseI B.out)).mono ?_)
      | fail "arm"); rintro e wx ⟨rfl, q⟩; replace K0 := Lib.hid (K0.out.nearI q); replace K1 := Lib.hid (K1.out.nearI q); replace K2 := Lib.hid (K2.out.nearI q); replace K3 := Lib.hid (K3.out.nearI q); replace K4 := Lib.hid (K4.out.nearI q); replace K5 := Lib.hid (K5.out.nearI q); replace B := Lib.hid (goI B.out q); clear q; replace c0_0 := K0.out.at_ 0 _ rfl; replace c0_1 := K0.out.at_ 1 _ rfl; replace c0_2 := K0.out.at_ 2 _ rfl; replace c0_3 := K0.out.at_ 3 _ rfl; replace c1_0 := K1.out.at_ 0 _ rfl; replace c1_1 := K1.out.at_ 1 _ rfl; replace c1_2 := K1.out.at_ 2 _ rfl; replace c1_3 := K1.out.at_ 3 _ rfl; replace c2_0 := K2.out.at_ 0 _ rfl; replace c2_1 := K2.out.at_ 1 _ rfl; replace c2_2 := K2.out.at_ 2 _ rfl; replace c3_0 := K3.out.at_ 0 _ rfl; replace c3_1 := K3.out.at_ 1 _ rfl; replace c3_2 := K3.out.at_ 2 _ rfl; replace c4_0 := K4.out.at_ 0 _ rfl; replace c4_1 := K4.out.at_ 1 _ rfl; replace c4_2 := K4.out.at_ 2 _ rfl; replace c5_0 := K5.out.at_ 0 _ rfl; replace c5_1 := K5.out.at_ 1 _ rfl; replace c5_2 := K5.out.at_ 2 _ rfl)
    have n6 := Blk.fresh wx #[.string ⟨#[]⟩, .string ⟨#[]⟩, .string ⟨#[]⟩] 34
    replace K0 := Lib.hid (K0.out.alloc (Obj.cells #[.string ⟨#[]⟩, .string ⟨#[]⟩, .string ⟨#[]⟩] 34))
    replace K1 := Lib.hid (K1.out.alloc (Obj.cells #[.string ⟨#[]⟩, .string ⟨#[]⟩, .string ⟨#[]⟩] 34))
    replace K2 := Lib.hid (K2.out.alloc (Obj.cells #[.string ⟨#[]⟩, .string ⟨#[]⟩, .string ⟨#[]⟩] 34))
    replace K3 := Lib.hid (K3.out.alloc (Obj.cells #[.string ⟨#[]⟩, .string ⟨#[]⟩, .string ⟨#[]⟩] 34))
    replace K4 := Lib.hid (K4.out.alloc (Obj.cells #[.string ⟨#[]⟩, .string ⟨#[]⟩, .string ⟨#[]⟩] 34))
    replace K5 := Lib.hid (K5.out.alloc (Obj.cells #[.string ⟨#[]⟩, .string ⟨#[]⟩, .string ⟨#[]⟩] 34))
    replace B := Lib.hid (B.out.trans ((below_new wx (Obj.cells #[.string ⟨#[]⟩, .string ⟨#[]⟩, .string ⟨#[]⟩] 34)).mono B.out.size))
    generalize wx.alloc (Obj.cells #[.string ⟨#[]⟩, .string ⟨#[]⟩, .string ⟨#[]⟩] 34) = wl4 at *
    generalize wx.heap.size = gl4 at *
    have K6 := Lib.hid n6
    clear n6
    replace c0_0 := K0.out.at_ 0 _ rfl
    replace c0_1 := K0.out.at_ 1 _ rfl
    replace c0_2 := K0.out.at_ 2 _ rfl
    replace c0_3 := K0.out.at_ 3 _ rfl
    replace c1_0 := K1.out.at_ 0 _ rfl
    replace c1_1 := K1.out.at_ 1 _ rfl
    replace c1_2 := K1.out.at_ 2 _ rfl
    replace c1_3 := K1.out.at_ 3 _ rfl
    replace c2_0 := K2.out.at_ 0 _ rfl
    replace c2_1 := K2.out.at_ 1 _ rfl
    replace c2_2 := K2.out.at_ 2 _ rfl
    replace c3_0 := K3.out.at_ 0 _ rfl
    replace c3_1 := K3.out.at_ 1 _ rfl
    replace c3_2 := K3.out.at_ 2 _ rfl
    replace c4_0 := K4.out.at_ 0 _ rfl
    replace c4_1 := K4.out.at_ 1 _ rfl
    replace c4_2 := K4.out.at_ 2 _ rfl
    replace c5_0 := K5.out.at_ 0 _ rfl
    replace c5_1 := K5.out.at_ 1 _ rfl
    replace c5_2 := K5.out.at_ 2 _ rfl
    have c6_0 := K6.out.at_ 0 _ rfl
    have c6_1 := K6.out.at_ 1 _ rfl
    have c6_2 := K6.out.at_ 2 _ rfl
    go_wp2_with (
     (first
      | (go_at_call 19; with_reducible refine (O7.out _ (baseI B.out)).mono ?_)
      | fail "arm"); rintro e wx ⟨rfl, q⟩; replace K0 := Lib.hid (K0.out.nearI q); replace K1 := Lib.hid (K1.out.nearI q); replace K2 := Lib.hid (K2.out.nearI q); replace K3 := Lib.hid (K3.out.nearI q); replace K4 := Lib.hid (K4.out.nearI q); replace K5 := Lib.hid (K5.out.nearI q); replace K6 := Lib.hid (K6.out.nearI q); replace B := Lib.hid (goI B.out q); clear q; replace c0_0 := K0.out.at_ 0 _ rfl; replace c0_1 := K0.out.at_ 1 _ rfl; replace c0_2 := K0.out.at_ 2 _ rfl; replace c0_3 := K0.out.at_ 3 _ rfl; replace c1_0 := K1.out.at_ 0 _ rfl; replace c1_1 := K1.out.at_ 1 _ rfl; replace c1_2 := K1.out.at_ 2 _ rfl; replace c1_3 := K1.out.at_ 3 _ rfl; replace c2_0 := K2.out.at_ 0 _ rfl; replace c2_1 := K2.out.at_ 1 _ rfl; replace c2_2 := K2.out.at_ 2 _ rfl; replace c3_0 := K3.out.at_ 0 _ rfl; replace c3_1 := K3.out.at_ 1 _ rfl; replace c3_2 := K3.out.at_ 2 _ rfl; replace c4_0 := K4.out.at_ 0 _ rfl; replace c4_1 := K4.out.at_ 1 _ rfl; replace c4_2 := K4.out.at_ 2 _ rfl; replace c5_0 := K5.out.at_ 0 _ rfl; replace c5_1 := K5.out.at_ 1 _ rfl; replace c5_2 := K5.out.at_ 2 _ rfl; replace c6_0 := K6.out.at_ 0 _ rfl; replace c6_1 := K6.out.at_ 1 _ rfl; replace c6_2 := K6.out.at_ 2 _ rfl)
    go_ret
    exact ⟨rfl, B.out⟩

set_option maxRecDepth 100000 in
set_option maxHeartbeats 20000000 in
theorem limbs_ok (x1 y1 z1 b1 x2 y2 z2 b2 p1 p2 p3 q1 q2 q3 c t : Int) (A1 A2 A3 C1 C2 C3 E1 E2 E3 F1 F2 F3 P1 P2 P3 : ByteArray) (w : World)
    (hc : ((c == 1) = false ∧ (c == 5) = false) ∨ ((c == 1) = true ∧ (t != 4) = false ∧ (c == 5) = false) ∨ ((c == 1) = true ∧ (t != 4) = true ∧ (t != 5) = false ∧ (c == 5) = false) ∨ ((c == 1) = false ∧ (c == 5) = true ∧ (t != 1) = false))
    (kn : ∀ W, Below w.heap.size w W → Calls Tryz.prog 12 #[] W fun e w' => e = .returned (.bool true) ∧ Below W.heap.size W w')
    (i1 : ∀ W, Below w.heap.size w W → Calls Tryz.prog 14 #[.agg #[.int .i8 x1, .int .i8 y1, .int .i8 z1, .int .u8 b1]] W fun e w' => e = .returned (.agg #[.int .i64 p1, .int .i64 p2, .int .i64 p3]) ∧ Below W.heap.size W w')
    (s1 : ∀ W, Below w.heap.size w W → Calls Tryz.prog 13 #[.agg #[.int .i64 p1, .int .i64 p2, .int .i64 p3]] W fun e w' => e = .returned (.bool false) ∧ Below W.heap.size W w')
    (i2 : ∀ W, Below w.heap.size w W → Calls Tryz.prog 14 #[.agg #[.int .i8 x2, .int .i8 y2, .int .i8 z2, .int .u8 b2]] W fun e w' => e = .returned (.agg #[.int .i64 q1, .int .i64 q2, .int .i64 q3]) ∧ Below W.heap.size W w')
    (s2 : ∀ W, Below w.heap.size w W → Calls Tryz.prog 13 #[.agg #[.int .i64 q1, .int .i64 q2, .int .i64 q3]] W fun e w' => e = .returned (.bool false) ∧ Below W.heap.size W w')
    (m1 : ∀ W, Below w.heap.size w W → Calls Tryz.prog 16 #[.agg #[.int .i8 x1, .int .i8 y1, .int .i8 z1, .int .u8 b1]] W fun e w' => e = .returned (.agg #[.string A1, .string A2, .string A3]) ∧ Below W.heap.size W w')
    (m2 : ∀ W, Below w.heap.size w W → Calls Tryz.prog 16 #[.agg #[.int .i8 x2, .int .i8 y2, .int .i8 z2, .int .u8 b2]] W fun e w' => e = .returned (.agg #[.string C1, .string C2, .string C3]) ∧ Below W.heap.size W w')
    (n1 : ∀ W, Below w.heap.size w W → Calls Tryz.prog 30 #[.string A1] W fun e w' => e = .returned (.string E1) ∧ Below W.heap.size W w')
    (n2 : ∀ W, Below w.heap.size w W → Calls Tryz.prog 30 #[.string A2] W fun e w' => e = .returned (.string E2) ∧ Below W.heap.size W w')
    (n3 : ∀ W, Below w.heap.size w W → Calls Tryz.prog 30 #[.string A3] W fun e w' => e = .returned (.string E3) ∧ Below W.heap.size W w')
    (n4 : ∀ W, Below w.heap.size w W → Calls Tryz.prog 30 #[.string C1] W fun e w' => e = .returned (.string F1) ∧ Below W.heap.size W w')
    (n5 : ∀ W, Below w.heap.size w W → Calls Tryz.prog 30 #[.string C2] W fun e w' => e = .returned (.string F2) ∧ Below W.heap.size W w')
    (n6 : ∀ W, Below w.heap.size w W → Calls Tryz.prog 30 #[.string C3] W fun e w' => e = .returned (.string F3) ∧ Below W.heap.size W w')
    (o1 : ∀ W, Below w.heap.size w W → Calls Tryz.prog 15 #[.agg #[.string A1, .string A2, .string A3], .agg #[.string C1, .string C2, .string C3]] W fun e w' => e = .returned (.tuple #[.int .i64 c, .int .i64 0]) ∧ Below W.heap.size W w')
    (o2 : ∀ W, Below w.heap.size w W → Calls Tryz.prog 15 #[.agg #[.string C1, .string C2, .string C3], .agg #[.string A1, .string A2, .string A3]] W fun e w' => e = .returned (.tuple #[.int .i64 c, .int .i64 0]) ∧ Below W.heap.size W w')
    (o3 : ∀ W, Below w.heap.size w W → Calls Tryz.prog 15 #[.agg #[.string E1, .string E2, .string E3], .agg #[.string F1, .string F2, .string F3]] W fun e w' => e = .returned (.tuple #[.int .i64 c, .int .i64 0]) ∧ Below W.heap.size W w')
    (o4 : ∀ W, Below w.heap.size w W → Calls Tryz.prog 15 #[.agg #[.string A1, .string A2, .string A3], .agg #[.string F1, .string F2, .string F3]] W fun e w' => e = .returned (.tuple #[.int .i64 t, .int .i64 0]) ∧ Below W.heap.size W w')
    (o5 : ∀ W, Below w.heap.size w W → Calls Tryz.prog 27 #[.agg #[.string A1, .string A2, .string A3], .agg #[.string E1, .string E2, .string E3]] W fun e w' => e = .returned (.tuple #[.string ⟨#[49]⟩, .int .i64 0]) ∧ Below W.heap.size W w')
    (o6 : ∀ W, Below w.heap.size w W → Calls Tryz.prog 23 #[.agg #[.string A1, .string A2, .string A3], .agg #[.string C1, .string C2, .string C3]] W fun e w' => e = .returned (.tuple #[.agg #[.string P1, .string P2, .string P3], .int .i64 0]) ∧ Below W.heap.size W w')
    (o7 : ∀ W, Below w.heap.size w W → Calls Tryz.prog 22 #[.agg #[.string A1, .string A2, .string A3], .agg #[.string P1, .string P2, .string P3]] W fun e w' => e = .returned (.tuple #[.bool true, .int .i64 0]) ∧ Below W.heap.size W w')
    (o8 : ∀ W, Below w.heap.size w W → Calls Tryz.prog 22 #[.agg #[.string C1, .string C2, .string C3], .agg #[.string P1, .string P2, .string P3]] W fun e w' => e = .returned (.tuple #[.bool true, .int .i64 0]) ∧ Below W.heap.size W w') :
    Calls Tryz.prog 7 #[.agg #[.int .i8 x1, .int .i8 y1, .int .i8 z1, .int .u8 b1], .agg #[.int .i8 x2, .int .i8 y2, .int .i8 z2, .int .u8 b2]] w fun e w' => e = .returned (.bool true) ∧ Below w.heap.size w w' := by
  have KN := Lib.hid kn
  have I1 := Lib.hid i1
  have S1 := Lib.hid s1
  have I2 := Lib.hid i2
  have S2 := Lib.hid s2
  have M1 := Lib.hid m1
  have M2 := Lib.hid m2
  have N1 := Lib.hid n1
  have N2 := Lib.hid n2
  have N3 := Lib.hid n3
  have N4 := Lib.hid n4
  have N5 := Lib.hid n5
  have N6 := Lib.hid n6
  have O1 := Lib.hid o1
  have O2 := Lib.hid o2
  have O3 := Lib.hid o3
  have O4 := Lib.hid o4
  have O5 := Lib.hid o5
  have O6 := Lib.hid o6
  have O7 := Lib.hid o7
  have O8 := Lib.hid o8
  clear kn i1 s1 i2 s2 m1 m2 n1 n2 n3 n4 n5 n6 o1 o2 o3 o4 o5 o6 o7 o8
  have k0 := Blk.fresh w #[.int .i8 x1, .int .i8 y1, .int .i8 z1, .int .u8 b1] 24
  replace k0 := k0.alloc (Obj.cells #[.int .i8 x2, .int .i8 y2, .int .i8 z2, .int .u8 b2] 24)
  have k1 := Blk.fresh (w.alloc (Obj.cells #[.int .i8 x1, .int .i8 y1, .int .i8 z1, .int .u8 b1] 24)) #[.int .i8 x2, .int .i8 y2, .int .i8 z2, .int .u8 b2] 24
  rw [show (w.alloc (Obj.cells #[.int .i8 x1, .int .i8 y1, .int .i8 z1, .int .u8 b1] 24)).heap.size = w.heap.size + 1 from World.size_alloc ..] at k1
  have jb0 : Below w.heap.size w ((w.alloc (Obj.cells #[.int .i8 x1, .int .i8 y1, .int .i8 z1, .int .u8 b1] 24)).alloc (Obj.cells #[.int .i8 x2, .int .i8 y2, .int .i8 z2, .int .u8 b2] 24)) := (((Below.refl _ _).alloc (Nat.le_refl _) _).alloc (by simp; try omega) _)
  have K0 := Lib.hid k0
  have K1 := Lib.hid k1
  have B := Lib.hid jb0
  clear jb0 k0 k1
  go_enter Tryz.func7, Tryz.ntmps7
  go_upto_region 1 with (fail)
  generalize ((w.alloc (Obj.cells #[.int .i8 x1, .int .i8 y1, .int .i8 z1, .int .u8 b1] 24)).alloc (Obj.cells #[.int .i8 x2, .int .i8 y2, .int .i8 z2, .int .u8 b2] 24)) = W0 at *
  have c0_0 := K0.out.at_ 0 _ rfl
  have c0_1 := K0.out.at_ 1 _ rfl
  have c0_2 := K0.out.at_ 2 _ rfl
  have c0_3 := K0.out.at_ 3 _ rfl
  have c1_0 := K1.out.at_ 0 _ rfl
  have c1_1 := K1.out.at_ 1 _ rfl
  have c1_2 := K1.out.at_ 2 _ rfl
  have c1_3 := K1.out.at_ 3 _ rfl
  go_upto_region 3 with (
   (first
    | (go_at_call 12; with_reducible refine (KN.out _ (baseI B.out)).mono ?_)
    | (go_at_call 14; with_reducible refine (I1.out _ (baseI B.out)).mono ?_)
    | (go_at_call 13; with_reducible refine (S1.out _ (baseI B.out)).mono ?_)
    | (go_at_call 14; with_reducible refine (I2.out _ (baseI B.out)).mono ?_)
    | (go_at_call 13; with_reducible refine (S2.out _ (baseI B.out)).mono ?_)
    | fail "arm"); rintro e wx ⟨rfl, q⟩; replace K0 := Lib.hid (K0.out.nearI q); replace K1 := Lib.hid (K1.out.nearI q); replace B := Lib.hid (goI B.out q); clear q; replace c0_0 := K0.out.at_ 0 _ rfl; replace c0_1 := K0.out.at_ 1 _ rfl; replace c0_2 := K0.out.at_ 2 _ rfl; replace c0_3 := K0.out.at_ 3 _ rfl; replace c1_0 := K1.out.at_ 0 _ rfl; replace c1_1 := K1.out.at_ 1 _ rfl; replace c1_2 := K1.out.at_ 2 _ rfl; replace c1_3 := K1.out.at_ 3 _ rfl)
  clear c0_0 c0_1 c0_2 c0_3 c1_0 c1_1 c1_2 c1_3
  refine wp_region_par (by kernel_rfl) [37, 38, 39, 40, 5, 6] (fun L σ W => Vals [some 37, some 38, some 39, some 40, none, none, none, none] [(.agg #[.int .i8 x1, .int .i8 y1, .int .i8 z1, .int .u8 b1]), (.agg #[.string A1, .string A2, .string A3]), (.agg #[.int .i8 x2, .int .i8 y2, .int .i8 z2, .int .u8 b2]), (.agg #[.string C1, .string C2, .string C3]), undef, undef, undef, undef] L σ ∧ (L 4 → ∃ (g : Nat) (jy0 jy1 jy2 : Value), σ 5 = .pointer (some ⟨g, 0, none⟩) ∧ w.heap.size ≤ g ∧ Blk W g #[jy0, jy1, jy2] 34 ∧ (L 6 → #[jy0, jy1, jy2] = #[.string A1, .string A2, .string A3]) ∧ w.heap.size ≠ g ∧ w.heap.size + 1 ≠ g) ∧ (L 5 → ∃ (g : Nat) (jy0 jy1 jy2 : Value), σ 6 = .pointer (some ⟨g, 0, none⟩) ∧ w.heap.size ≤ g ∧ Blk W g #[jy0, jy1, jy2] 34 ∧ (L 7 → #[jy0, jy1, jy2] = #[.string C1, .string C2, .string C3]) ∧ w.heap.size ≠ g ∧ w.heap.size + 1 ≠ g) ∧ (L 6 → L 4) ∧ (L 7 → L 5) ∧ (L 4 → L 5 → σ 5 ≠ σ 6) ∧ Blk W (w.heap.size) #[.int .i8 x1, .int .i8 y1, .int .i8 z1, .int .u8 b1] 24 ∧ Blk W (w.heap.size + 1) #[.int .i8 x2, .int .i8 y2, .int .i8 z2, .int .u8 b2] 24 ∧ Below w.heap.size w W) (by kernel_rfl) (by kernel_rfl) (by kernel_rfl) ?_ ?_ ?_
  · exact fun σ => ⟨Vals.start, fun h => h.elim, fun h => h.elim, fun h => h.elim, fun h => h.elim, fun h => h.elim, K0.out.below (Below.refl _ _).drew, K1.out.below (Below.refl _ _).drew, B.out.drew⟩
  · refine ⟨?_, ?_, ?_, ?_, ?_, ?_, ?_, ?_, trivial⟩
    · rintro L a W ho ⟨V, jf4, jf5, js6, js7, jn4_5, jb0, jb1, bb⟩ hn hd K hK
      clear hd
      refine Wants.free rfl ?_
      have jr2 : a.tmps[(2 : Nat)]?.getD undef = .pointer (some ⟨w.heap.size, 0, none⟩) := ho.slot 2 rfl
      have jc0 := jb0.at_ 0 _ rfl
      have jc1 := jb0.at_ 1 _ rfl
      have jc2 := jb0.at_ 2 _ rfl
      have jc3 := jb0.at_ 3 _ rfl
      go_simp
      exact hK.out (.agg #[.int .i8 x1, .int .i8 y1, .int .i8 z1, .int .u8 b1]) _ ⟨V.set 0 _ _ rfl rfl rfl, fun h => (by obtain ⟨jg, ju0, ju1, ju2, je1, je2, je3, je4, jne0, jne1⟩ := old jf4 rfl h; exact ⟨jg, _, _, _, je1, je2, je3, fun h => je4 (h.resolve_right (by decide)), jne0, jne1⟩), fun h => (by obtain ⟨jg, ju0, ju1, ju2, je1, je2, je3, je4, jne0, jne1⟩ := old jf5 rfl h; exact ⟨jg, _, _, _, je1, je2, je3, fun h => je4 (h.resolve_right (by decide)), jne0, jne1⟩), fun h => .inl (old js6 rfl h), fun h => .inl (old js7 rfl h), fun h h2 => jn4_5 (h.resolve_right (by decide)) (h2.resolve_right (by decide)), jb0, jb1, bb⟩
    · rintro L a W ho ⟨V, jf4, jf5, js6, js7, jn4_5, jb0, jb1, bb⟩ hn hd K hK
      have jh0 := hd.get 0 rfl
      clear hd
      refine Wants.free rfl ?_
      have jr37 := V.read 0 rfl rfl jh0
      go_simp
      go_at_call 16
      with_reducible refine (M1.out _ bb).mono ?_
      rintro e wx ⟨rfl, q⟩
      go_simp
      exact hK.out (.agg #[.string A1, .string A2, .string A3]) _ ⟨V.set 1 _ _ rfl rfl rfl, fun h => (by obtain ⟨jg, ju0, ju1, ju2, je1, je2, je3, je4, jne0, jne1⟩ := old jf4 rfl h; exact ⟨jg, _, _, _, je1, je2, je3.below q, fun h => je4 (h.resolve_right (by decide)), jne0, jne1⟩), fun h => (by obtain ⟨jg, ju0, ju1, ju2, je1, je2, je3, je4, jne0, jne1⟩ := old jf5 rfl h; exact ⟨jg, _, _, _, je1, je2, je3.below q, fun h => je4 (h.resolve_right (by decide)), jne0, jne1⟩), fun h => .inl (old js6 rfl h), fun h => .inl (old js7 rfl h), fun h h2 => jn4_5 (h.resolve_right (by decide)) (h2.resolve_right (by decide)), jb0.below q, jb1.below q, bb.trans (q.mono bb.size)⟩
    · rintro L a W ho ⟨V, jf4, jf5, js6, js7, jn4_5, jb0, jb1, bb⟩ hn hd K hK
      clear hd
      refine Wants.free rfl ?_
      have jr3 : a.tmps[(3 : Nat)]?.getD undef = .pointer (some ⟨w.heap.size + 1, 0, none⟩) := ho.slot 3 rfl
      have jc0 := jb1.at_ 0 _ rfl
      have jc1 := jb1.at_ 1 _ rfl
      have jc2 := jb1.at_ 2 _ rfl
      have jc3 := jb1.at_ 3 _ rfl
      go_simp
      exact hK.out (.agg #[.int .i8 x2, .int .i8 y2, .int .i8 z2, .int .u8 b2]) _ ⟨V.set 2 _ _ rfl rfl rfl, fun h => (by obtain ⟨jg, ju0, ju1, ju2, je1, je2, je3, je4, jne0, jne1⟩ := old jf4 rfl h; exact ⟨jg, _, _, _, je1, je2, je3, fun h => je4 (h.resolve_right (by decide)), jne0, jne1⟩), fun h => (by obtain ⟨jg, ju0, ju1, ju2, je1, je2, je3, je4, jne0, jne1⟩ := old jf5 rfl h; exact ⟨jg, _, _, _, je1, je2, je3, fun h => je4 (h.resolve_right (by decide)), jne0, jne1⟩), fun h => .inl (old js6 rfl h), fun h => .inl (old js7 rfl h), fun h h2 => jn4_5 (h.resolve_right (by decide)) (h2.resolve_right (by decide)), jb0, jb1, bb⟩
    · rintro L a W ho ⟨V, jf4, jf5, js6, js7, jn4_5, jb0, jb1, bb⟩ hn hd K hK
      have jh2 := hd.get 2 rfl
      clear hd
      refine Wants.free rfl ?_
      have jr39 := V.read 2 rfl rfl jh2
      go_simp
      go_at_call 16
      with_reducible refine (M2.out _ bb).mono ?_
      rintro e wx ⟨rfl, q⟩
      go_simp
      exact hK.out (.agg #[.string C1, .string C2, .string C3]) _ ⟨V.set 3 _ _ rfl rfl rfl, fun h => (by obtain ⟨jg, ju0, ju1, ju2, je1, je2, je3, je4, jne0, jne1⟩ := old jf4 rfl h; exact ⟨jg, _, _, _, je1, je2, je3.below q, fun h => je4 (h.resolve_right (by decide)), jne0, jne1⟩), fun h => (by obtain ⟨jg, ju0, ju1, ju2, je1, je2, je3, je4, jne0, jne1⟩ := old jf5 rfl h; exact ⟨jg, _, _, _, je1, je2, je3.below q, fun h => je4 (h.resolve_right (by decide)), jne0, jne1⟩), fun h => .inl (old js6 rfl h), fun h => .inl (old js7 rfl h), fun h h2 => jn4_5 (h.resolve_right (by decide)) (h2.resolve_right (by decide)), jb0.below q, jb1.below q, bb.trans (q.mono bb.size)⟩
    · rintro L a W ho ⟨V, jf4, jf5, js6, js7, jn4_5, jb0, jb1, bb⟩ hn hd K hK
      clear hd
      refine Wants.free rfl ?_
      go_simp
      exact hK.out (.pointer (some ⟨W.heap.size, 0, none⟩)) _ ⟨V.apart 4 _ _ rfl rfl, fun _ => ⟨W.heap.size, .string ⟨#[]⟩, .string ⟨#[]⟩, .string ⟨#[]⟩, rfl, bb.size, Blk.fresh W #[.string ⟨#[]⟩, .string ⟨#[]⟩, .string ⟨#[]⟩] 34, fun h => absurd (old js6 rfl h) hn, (Nat.ne_of_lt jb0.lt), (Nat.ne_of_lt jb1.lt)⟩, fun h => (by obtain ⟨jg, ju0, ju1, ju2, je1, je2, je3, je4, jne0, jne1⟩ := old jf5 rfl h; exact ⟨jg, _, _, _, je1, je2, je3.alloc (Obj.cells #[.string ⟨#[]⟩, .string ⟨#[]⟩, .string ⟨#[]⟩] 34), fun h => je4 (h.resolve_right (by decide)), jne0, jne1⟩), fun h => .inl (old js6 rfl h), fun h => .inl (old js7 rfl h), fun h h2 => (by obtain ⟨jg, ju0, ju1, ju2, je1, je2, je3, je4, jne0, jne1⟩ := jf5 (h2.resolve_right (by decide)); have jhlt := je3.lt; show (Value.pointer (some ⟨W.heap.size, 0, none⟩)) ≠ slotOf a 6; rw [je1]; intro e; injection e with e; injection e with e; injection e with e; omega), jb0.alloc (Obj.cells #[.string ⟨#[]⟩, .string ⟨#[]⟩, .string ⟨#[]⟩] 34), jb1.alloc (Obj.cells #[.string ⟨#[]⟩, .string ⟨#[]⟩, .string ⟨#[]⟩] 34), bb.trans ((below_new W (Obj.cells #[.string ⟨#[]⟩, .string ⟨#[]⟩, .string ⟨#[]⟩] 34)).mono bb.size)⟩
    · rintro L a W ho ⟨V, jf4, jf5, js6, js7, jn4_5, jb0, jb1, bb⟩ hn hd K hK
      clear hd
      refine Wants.free rfl ?_
      go_simp
      exact hK.out (.pointer (some ⟨W.heap.size, 0, none⟩)) _ ⟨V.apart 5 _ _ rfl rfl, fun h => (by obtain ⟨jg, ju0, ju1, ju2, je1, je2, je3, je4, jne0, jne1⟩ := old jf4 rfl h; exact ⟨jg, _, _, _, je1, je2, je3.alloc (Obj.cells #[.string ⟨#[]⟩, .string ⟨#[]⟩, .string ⟨#[]⟩] 34), fun h => je4 (h.resolve_right (by decide)), jne0, jne1⟩), fun _ => ⟨W.heap.size, .string ⟨#[]⟩, .string ⟨#[]⟩, .string ⟨#[]⟩, rfl, bb.size, Blk.fresh W #[.string ⟨#[]⟩, .string ⟨#[]⟩, .string ⟨#[]⟩] 34, fun h => absurd (old js7 rfl h) hn, (Nat.ne_of_lt jb0.lt), (Nat.ne_of_lt jb1.lt)⟩, fun h => .inl (old js6 rfl h), fun h => .inl (old js7 rfl h), fun h h2 => (by obtain ⟨jg, ju0, ju1, ju2, je1, je2, je3, je4, jne0, jne1⟩ := jf4 (h.resolve_right (by decide)); have jhlt := je3.lt; show slotOf a 5 ≠ (Value.pointer (some ⟨W.heap.size, 0, none⟩)); rw [je1]; intro e; injection e with e; injection e with e; injection e with e; omega), jb0.alloc (Obj.cells #[.string ⟨#[]⟩, .string ⟨#[]⟩, .string ⟨#[]⟩] 34), jb1.alloc (Obj.cells #[.string ⟨#[]⟩, .string ⟨#[]⟩, .string ⟨#[]⟩] 34), bb.trans ((below_new W (Obj.cells #[.string ⟨#[]⟩, .string ⟨#[]⟩, .string ⟨#[]⟩] 34)).mono bb.size)⟩
    · rintro L a W ho ⟨V, jf4, jf5, js6, js7, jn4_5, jb0, jb1, bb⟩ hn hd K hK
      have jh4 := hd.get 4 rfl
      have jh1 := hd.get 1 rfl
      clear hd
      refine Wants.free rfl ?_
      have jr38 := V.read 1 rfl rfl jh1
      obtain ⟨jg, jy0, jy1, jy2, je1, je2, je3, je4, jne0, jne1⟩ := jf4 jh4
      have jr5 : a.tmps[(5 : Nat)]?.getD undef = .pointer (some ⟨jg, 0, none⟩) := je1
      have jc0 := je3.at_ 0 _ rfl
      have jz0 := je3.free 0
      have jc1 := je3.at_ 1 _ rfl
      have jz1 := je3.free 1
      have jc2 := je3.at_ 2 _ rfl
      have jz2 := je3.free 2
      go_simp
      exact hK.out (undef) _ ⟨V.same 6 _ rfl, fun _ => ⟨jg, .string A1, .string A2, .string A3, je1, je2, je3.set3 (.string A1) (.string A2) (.string A3), fun _ => rfl, jne0, jne1⟩, fun h => (by have jhne := jn4_5 jh4 (h.resolve_right (by decide)); obtain ⟨jg2, ju0, ju1, ju2, jt1, jq2, jq3, je4, jnq0, jnq1⟩ := old jf5 rfl h; exact ⟨jg2, _, _, _, jt1, jq2, jq3.else3 (fun e => jhne (by rw [jt1, je1, e])) (.string A1) (.string A2) (.string A3), fun h => je4 (h.resolve_right (by decide)), jnq0, jnq1⟩), fun _ => .inl jh4, fun h => .inl (old js7 rfl h), fun h h2 => jn4_5 (h.resolve_right (by decide)) (h2.resolve_right (by decide)), jb0.else3 jne0 (.string A1) (.string A2) (.string A3), jb1.else3 jne1 (.string A1) (.string A2) (.string A3), bb.trans (below_else3 W w.heap.size jg je2 (.string A1) (.string A2) (.string A3))⟩
    · rintro L a W ho ⟨V, jf4, jf5, js6, js7, jn4_5, jb0, jb1, bb⟩ hn hd K hK
      have jh5 := hd.get 5 rfl
      have jh3 := hd.get 3 rfl
      clear hd
      refine Wants.free rfl ?_
      have jr40 := V.read 3 rfl rfl jh3
      obtain ⟨jg, jy0, jy1, jy2, je1, je2, je3, je4, jne0, jne1⟩ := jf5 jh5
      have jr6 : a.tmps[(6 : Nat)]?.getD undef = .pointer (some ⟨jg, 0, none⟩) := je1
      have jc0 := je3.at_ 0 _ rfl
      have jz0 := je3.free 0
      have jc1 := je3.at_ 1 _ rfl
      have jz1 := je3.free 1
      have jc2 := je3.at_ 2 _ rfl
      have jz2 := je3.free 2
      go_simp
      exact hK.out (undef) _ ⟨V.same 7 _ rfl, fun h => (by have jhne := jn4_5 (h.resolve_right (by decide)) jh5; obtain ⟨jg2, ju0, ju1, ju2, jt1, jq2, jq3, je4, jnq0, jnq1⟩ := old jf4 rfl h; exact ⟨jg2, _, _, _, jt1, jq2, jq3.else3 (fun e => jhne (by rw [jt1, je1, e])) (.string C1) (.string C2) (.string C3), fun h => je4 (h.resolve_right (by decide)), jnq0, jnq1⟩), fun _ => ⟨jg, .string C1, .string C2, .string C3, je1, je2, je3.set3 (.string C1) (.string C2) (.string C3), fun _ => rfl, jne0, jne1⟩, fun h => .inl (old js6 rfl h), fun _ => .inl jh5, fun h h2 => jn4_5 (h.resolve_right (by decide)) (h2.resolve_right (by decide)), jb0.else3 jne0 (.string C1) (.string C2) (.string C3), jb1.else3 jne1 (.string C1) (.string C2) (.string C3), bb.trans (below_else3 W w.heap.size jg je2 (.string C1) (.string C2) (.string C3))⟩
  rintro L σ W ⟨V, jf4, jf5, js6, js7, jn4_5, jb0, jb1, bb⟩ hL
  have jf0 := V 0 _ _ rfl rfl (hL 0 (by decide))
  have jf1 := V 1 _ _ rfl rfl (hL 1 (by decide))
  have jf2 := V 2 _ _ rfl rfl (hL 2 (by decide))
  have jf3 := V 3 _ _ rfl rfl (hL 3 (by decide))
  clear V
  replace jn4_5 := jn4_5 (hL 4 (by decide)) (hL 5 (by decide))
  obtain ⟨g3_4, jy4_0, jy4_1, jy4_2, jf4, jl4, jv4, je4, jne4_0, jne4_1⟩ := jf4 (hL 4 (by decide))
  rw [je4 (hL 6 (by decide))] at jv4
  clear je4 jne4_0 jne4_1
  obtain ⟨g3_5, jy5_0, jy5_1, jy5_2, jf5, jl5, jv5, je5, jne5_0, jne5_1⟩ := jf5 (hL 5 (by decide))
  rw [je5 (hL 7 (by decide))] at jv5
  clear je5 jne5_0 jne5_1
  clear jn4_5
  clear hL js6 js7
  rw [show List.map σ [37, 38, 39, 40, 5, 6] = [σ 37, σ 38, σ 39, σ 40, σ 5, σ 6] from rfl, jf0, jf1, jf2, jf3, jf4, jf5]
  clear jf0 jf1 jf2 jf3 jf4 jf5
  simp only [putAll, List.map, Act.put, List.setIfInBounds_toArray, List.set_cons_succ, List.set_cons_zero]
  replace K0 := Lib.hid jb0
  replace K1 := Lib.hid jb1
  have K2 := Lib.hid jv4
  have K3 := Lib.hid jv5
  replace B := Lib.hid bb
  clear bb jb0 jb1 jv4 jl4 jv5 jl5
  have c0_0 := K0.out.at_ 0 _ rfl
  have c0_1 := K0.out.at_ 1 _ rfl
  have c0_2 := K0.out.at_ 2 _ rfl
  have c0_3 := K0.out.at_ 3 _ rfl
  have c1_0 := K1.out.at_ 0 _ rfl
  have c1_1 := K1.out.at_ 1 _ rfl
  have c1_2 := K1.out.at_ 2 _ rfl
  have c1_3 := K1.out.at_ 3 _ rfl
  have c2_0 := K2.out.at_ 0 _ rfl
  have c2_1 := K2.out.at_ 1 _ rfl
  have c2_2 := K2.out.at_ 2 _ rfl
  have c3_0 := K3.out.at_ 0 _ rfl
  have c3_1 := K3.out.at_ 1 _ rfl
  have c3_2 := K3.out.at_ 2 _ rfl
  go_upto_region 4 with (fail)
  clear c0_0 c0_1 c0_2 c0_3 c1_0 c1_1 c1_2 c1_3 c2_0 c2_1 c2_2 c3_0 c3_1 c3_2
  refine wp_region_par (by kernel_rfl) [41, 42, 43, 44, 45, 46, 47, 48, 49, 50, 7] (fun L σ W => Vals [some 41, some 42, some 43, some 44, some 45, some 46, some 47, some 48, some 49, some 50, none, none] [(.pointer (some ⟨g3_5, 0, none⟩)), (.string C1), (.string F1), (.pointer (some ⟨g3_5, 1, none⟩)), (.string C2), (.string F2), (.pointer (some ⟨g3_5, 2, none⟩)), (.string C3), (.string F3), (.agg #[.string F1, .string F2, .string F3]), undef, undef] L σ ∧ (L 10 → ∃ (g : Nat) (jy0 jy1 jy2 : Value), σ 7 = .pointer (some ⟨g, 0, none⟩) ∧ w.heap.size ≤ g ∧ Blk W g #[jy0, jy1, jy2] 34 ∧ (L 11 → #[jy0, jy1, jy2] = #[.string F1, .string F2, .string F3]) ∧ w.heap.size ≠ g ∧ w.heap.size + 1 ≠ g ∧ g3_4 ≠ g ∧ g3_5 ≠ g) ∧ (L 11 → L 10) ∧ Blk W (w.heap.size) #[.int .i8 x1, .int .i8 y1, .int .i8 z1, .int .u8 b1] 24 ∧ Blk W (w.heap.size + 1) #[.int .i8 x2, .int .i8 y2, .int .i8 z2, .int .u8 b2] 24 ∧ Blk W (g3_4) #[.string A1, .string A2, .string A3] 34 ∧ Blk W (g3_5) #[.string C1, .string C2, .string C3] 34 ∧ Below w.heap.size w W) (by kernel_rfl) (by kernel_rfl) (by kernel_rfl) ?_ ?_ ?_
  · exact fun σ => ⟨Vals.start, fun h => h.elim, fun h => h.elim, K0.out.below (Below.refl _ _).drew, K1.out.below (Below.refl _ _).drew, K2.out.below (Below.refl _ _).drew, K3.out.below (Below.refl _ _).drew, B.out.drew⟩
  · refine ⟨?_, ?_, ?_, ?_, ?_, ?_, ?_, ?_, ?_, ?_, ?_, ?_, trivial⟩
    · rintro L a W ho ⟨V, jf10, js11, jb0, jb1, jb2, jb3, bb⟩ hn hd K hK
      clear hd
      refine Wants.free rfl ?_
      have jr6 : a.tmps[(6 : Nat)]?.getD undef = .pointer (some ⟨g3_5, 0, none⟩) := ho.slot 6 rfl
      go_simp
      exact hK.out (.pointer (some ⟨g3_5, 0, none⟩)) _ ⟨V.set 0 _ _ rfl rfl rfl, fun h => (by obtain ⟨jg, ju0, ju1, ju2, je1, je2, je3, je4, jne0, jne1, jne2, jne3⟩ := old jf10 rfl h; exact ⟨jg, _, _, _, je1, je2, je3, fun h => je4 (h.resolve_right (by decide)), jne0, jne1, jne2, jne3⟩), fun h => .inl (old js11 rfl h), jb0, jb1, jb2, jb3, bb⟩
    · rintro L a W ho ⟨V, jf10, js11, jb0, jb1, jb2, jb3, bb⟩ hn hd K hK
      have jh0 := hd.get 0 rfl
      clear hd
      refine Wants.free rfl ?_
      have jr41 := V.read 0 rfl rfl jh0
      have jc0 := jb3.at_ 0 _ rfl
      go_simp
      exact hK.out (.string C1) _ ⟨V.set 1 _ _ rfl rfl rfl, fun h => (by obtain ⟨jg, ju0, ju1, ju2, je1, je2, je3, je4, jne0, jne1, jne2, jne3⟩ := old jf10 rfl h; exact ⟨jg, _, _, _, je1, je2, je3, fun h => je4 (h.resolve_right (by decide)), jne0, jne1, jne2, jne3⟩), fun h => .inl (old js11 rfl h), jb0, jb1, jb2, jb3, bb⟩
    · rintro L a W ho ⟨V, jf10, js11, jb0, jb1, jb2, jb3, bb⟩ hn hd K hK
      have jh1 := hd.get 1 rfl
      clear hd
      refine Wants.free rfl ?_
      have jr42 := V.read 1 rfl rfl jh1
      go_simp
      go_at_call 30
      with_reducible refine (N4.out _ bb).mono ?_
      rintro e wx ⟨rfl, q⟩
      go_simp
      exact hK.out (.string F1) _ ⟨V.set 2 _ _ rfl rfl rfl, fun h => (by obtain ⟨jg, ju0, ju1, ju2, je1, je2, je3, je4, jne0, jne1, jne2, jne3⟩ := old jf10 rfl h; exact ⟨jg, _, _, _, je1, je2, je3.below q, fun h => je4 (h.resolve_right (by decide)), jne0, jne1, jne2, jne3⟩), fun h => .inl (old js11 rfl h), jb0.below q, jb1.below q, jb2.below q, jb3.below q, bb.trans (q.mono bb.size)⟩
    · rintro L a W ho ⟨V, jf10, js11, jb0, jb1, jb2, jb3, bb⟩ hn hd K hK
      clear hd
      refine Wants.free rfl ?_
      have jr6 : a.tmps[(6 : Nat)]?.getD undef = .pointer (some ⟨g3_5, 0, none⟩) := ho.slot 6 rfl
      go_simp
      exact hK.out (.pointer (some ⟨g3_5, 1, none⟩)) _ ⟨V.set 3 _ _ rfl rfl rfl, fun h => (by obtain ⟨jg, ju0, ju1, ju2, je1, je2, je3, je4, jne0, jne1, jne2, jne3⟩ := old jf10 rfl h; exact ⟨jg, _, _, _, je1, je2, je3, fun h => je4 (h.resolve_right (by decide)), jne0, jne1, jne2, jne3⟩), fun h => .inl (old js11 rfl h), jb0, jb1, jb2, jb3, bb⟩
    · rintro L a W ho ⟨V, jf10, js11, jb0, jb1, jb2, jb3, bb⟩ hn hd K hK
      have jh3 := hd.get 3 rfl
      clear hd
      refine Wants.free rfl ?_
      have jr44 := V.read 3 rfl rfl jh3
      have jc1 := jb3.at_ 1 _ rfl
      go_simp
      exact hK.out (.string C2) _ ⟨V.set 4 _ _ rfl rfl rfl, fun h => (by obtain ⟨jg, ju0, ju1, ju2, je1, je2, je3, je4, jne0, jne1, jne2, jne3⟩ := old jf10 rfl h; exact ⟨jg, _, _, _, je1, je2, je3, fun h => je4 (h.resolve_right (by decide)), jne0, jne1, jne2, jne3⟩), fun h => .inl (old js11 rfl h), jb0, jb1, jb2, jb3, bb⟩
    · rintro L a W ho ⟨V, jf10, js11, jb0, jb1, jb2, jb3, bb⟩ hn hd K hK
      have jh4 := hd.get 4 rfl
      clear hd
      refine Wants.free rfl ?_
      have jr45 := V.read 4 rfl rfl jh4
      go_simp
      go_at_call 30
      with_reducible refine (N5.out _ bb).mono ?_
      rintro e wx ⟨rfl, q⟩
      go_simp
      exact hK.out (.string F2) _ ⟨V.set 5 _ _ rfl rfl rfl, fun h => (by obtain ⟨jg, ju0, ju1, ju2, je1, je2, je3, je4, jne0, jne1, jne2, jne3⟩ := old jf10 rfl h; exact ⟨jg, _, _, _, je1, je2, je3.below q, fun h => je4 (h.resolve_right (by decide)), jne0, jne1, jne2, jne3⟩), fun h => .inl (old js11 rfl h), jb0.below q, jb1.below q, jb2.below q, jb3.below q, bb.trans (q.mono bb.size)⟩
    · rintro L a W ho ⟨V, jf10, js11, jb0, jb1, jb2, jb3, bb⟩ hn hd K hK
      clear hd
      refine Wants.free rfl ?_
      have jr6 : a.tmps[(6 : Nat)]?.getD undef = .pointer (some ⟨g3_5, 0, none⟩) := ho.slot 6 rfl
      go_simp
      exact hK.out (.pointer (some ⟨g3_5, 2, none⟩)) _ ⟨V.set 6 _ _ rfl rfl rfl, fun h => (by obtain ⟨jg, ju0, ju1, ju2, je1, je2, je3, je4, jne0, jne1, jne2, jne3⟩ := old jf10 rfl h; exact ⟨jg, _, _, _, je1, je2, je3, fun h => je4 (h.resolve_right (by decide)), jne0, jne1, jne2, jne3⟩), fun h => .inl (old js11 rfl h), jb0, jb1, jb2, jb3, bb⟩
    · rintro L a W ho ⟨V, jf10, js11, jb0, jb1, jb2, jb3, bb⟩ hn hd K hK
      have jh6 := hd.get 6 rfl
      clear hd
      refine Wants.free rfl ?_
      have jr47 := V.read 6 rfl rfl jh6
      have jc2 := jb3.at_ 2 _ rfl
      go_simp
      exact hK.out (.string C3) _ ⟨V.set 7 _ _ rfl rfl rfl, fun h => (by obtain ⟨jg, ju0, ju1, ju2, je1, je2, je3, je4, jne0, jne1, jne2, jne3⟩ := old jf10 rfl h; exact ⟨jg, _, _, _, je1, je2, je3, fun h => je4 (h.resolve_right (by decide)), jne0, jne1, jne2, jne3⟩), fun h => .inl (old js11 rfl h), jb0, jb1, jb2, jb3, bb⟩
    · rintro L a W ho ⟨V, jf10, js11, jb0, jb1, jb2, jb3, bb⟩ hn hd K hK
      have jh7 := hd.get 7 rfl
      clear hd
      refine Wants.free rfl ?_
      have jr48 := V.read 7 rfl rfl jh7
      go_simp
      go_at_call 30
      with_reducible refine (N6.out _ bb).mono ?_
      rintro e wx ⟨rfl, q⟩
      go_simp
      exact hK.out (.string F3) _ ⟨V.set 8 _ _ rfl rfl rfl, fun h => (by obtain ⟨jg, ju0, ju1, ju2, je1, je2, je3, je4, jne0, jne1, jne2, jne3⟩ := old jf10 rfl h; exact ⟨jg, _, _, _, je1, je2, je3.below q, fun h => je4 (h.resolve_right (by decide)), jne0, jne1, jne2, jne3⟩), fun h => .inl (old js11 rfl h), jb0.below q, jb1.below q, jb2.below q, jb3.below q, bb.trans (q.mono bb.size)⟩
    · rintro L a W ho ⟨V, jf10, js11, jb0, jb1, jb2, jb3, bb⟩ hn hd K hK
      have jh2 := hd.get 2 rfl
      have jh5 := hd.get 5 rfl
      have jh8 := hd.get 8 rfl
      clear hd
      refine Wants.free rfl ?_
      have jr43 := V.read 2 rfl rfl jh2
      have jr46 := V.read 5 rfl rfl jh5
      have jr49 := V.read 8 rfl rfl jh8
      go_simp
      exact hK.out (.agg #[.string F1, .string F2, .string F3]) _ ⟨V.set 9 _ _ rfl rfl rfl, fun h => (by obtain ⟨jg, ju0, ju1, ju2, je1, je2, je3, je4, jne0, jne1, jne2, jne3⟩ := old jf10 rfl h; exact ⟨jg, _, _, _, je1, je2, je3, fun h => je4 (h.resolve_right (by decide)), jne0, jne1, jne2, jne3⟩), fun h => .inl (old js11 rfl h), jb0, jb1, jb2, jb3, bb⟩
    · rintro L a W ho ⟨V, jf10, js11, jb0, jb1, jb2, jb3, bb⟩ hn hd K hK
      clear hd
      refine Wants.free rfl ?_
      go_simp
      exact hK.out (.pointer (some ⟨W.heap.size, 0, none⟩)) _ ⟨V.apart 10 _ _ rfl rfl, fun _ => ⟨W.heap.size, .string ⟨#[]⟩, .string ⟨#[]⟩, .string ⟨#[]⟩, rfl, bb.size, Blk.fresh W #[.string ⟨#[]⟩, .string ⟨#[]⟩, .string ⟨#[]⟩] 34, fun h => absurd (old js11 rfl h) hn, (Nat.ne_of_lt jb0.lt), (Nat.ne_of_lt jb1.lt), (Nat.ne_of_lt jb2.lt), (Nat.ne_of_lt jb3.lt)⟩, fun h => .inl (old js11 rfl h), jb0.alloc (Obj.cells #[.string ⟨#[]⟩, .string ⟨#[]⟩, .string ⟨#[]⟩] 34), jb1.alloc (Obj.cells #[.string ⟨#[]⟩, .string ⟨#[]⟩, .string ⟨#[]⟩] 34), jb2.alloc (Obj.cells #[.string ⟨#[]⟩, .string ⟨#[]⟩, .string ⟨#[]⟩] 34), jb3.alloc (Obj.cells #[.string ⟨#[]⟩, .string ⟨#[]⟩, .string ⟨#[]⟩] 34), bb.trans ((below_new W (Obj.cells #[.string ⟨#[]⟩, .string ⟨#[]⟩, .string ⟨#[]⟩] 34)).mono bb.size)⟩
    · rintro L a W ho ⟨V, jf10, js11, jb0, jb1, jb2, jb3, bb⟩ hn hd K hK
      have jh10 := hd.get 10 rfl
      have jh9 := hd.get 9 rfl
      clear hd
      refine Wants.free rfl ?_
      have jr50 := V.read 9 rfl rfl jh9
      obtain ⟨jg, jy0, jy1, jy2, je1, je2, je3, je4, jne0, jne1, jne2, jne3⟩ := jf10 jh10
      have jr7 : a.tmps[(7 : Nat)]?.getD undef = .pointer (some ⟨jg, 0, none⟩) := je1
      have jc0 := je3.at_ 0 _ rfl
      have jz0 := je3.free 0
      have jc1 := je3.at_ 1 _ rfl
      have jz1 := je3.free 1
      have jc2 := je3.at_ 2 _ rfl
      have jz2 := je3.free 2
      go_simp
      exact hK.out (undef) _ ⟨V.same 11 _ rfl, fun _ => ⟨jg, .string F1, .string F2, .string F3, je1, je2, je3.set3 (.string F1) (.string F2) (.string F3), fun _ => rfl, jne0, jne1, jne2, jne3⟩, fun _ => .inl jh10, jb0.else3 jne0 (.string F1) (.string F2) (.string F3), jb1.else3 jne1 (.string F1) (.string F2) (.string F3), jb2.else3 jne2 (.string F1) (.string F2) (.string F3), jb3.else3 jne3 (.string F1) (.string F2) (.string F3), bb.trans (below_else3 W w.heap.size jg je2 (.string F1) (.string F2) (.string F3))⟩
  rintro L σ W ⟨V, jf10, js11, jb0, jb1, jb2, jb3, bb⟩ hL
  have jf0 := V 0 _ _ rfl rfl (hL 0 (by decide))
  have jf1 := V 1 _ _ rfl rfl (hL 1 (by decide))
  have jf2 := V 2 _ _ rfl rfl (hL 2 (by decide))
  have jf3 := V 3 _ _ rfl rfl (hL 3 (by decide))
  have jf4 := V 4 _ _ rfl rfl (hL 4 (by decide))
  have jf5 := V 5 _ _ rfl rfl (hL 5 (by decide))
  have jf6 := V 6 _ _ rfl rfl (hL 6 (by decide))
  have jf7 := V 7 _ _ rfl rfl (hL 7 (by decide))
  have jf8 := V 8 _ _ rfl rfl (hL 8 (by decide))
  have jf9 := V 9 _ _ rfl rfl (hL 9 (by decide))
  clear V
  obtain ⟨g4_10, jy10_0, jy10_1, jy10_2, jf10, jl10, jv10, je10, jne10_0, jne10_1, jne10_2, jne10_3⟩ := jf10 (hL 10 (by decide))
  rw [je10 (hL 11 (by decide))] at jv10
  clear je10 jne10_0 jne10_1 jne10_2 jne10_3
  clear hL js11
  rw [show List.map σ [41, 42, 43, 44, 45, 46, 47, 48, 49, 50, 7] = [σ 41, σ 42, σ 43, σ 44, σ 45, σ 46, σ 47, σ 48, σ 49, σ 50, σ 7] from rfl, jf0, jf1, jf2, jf3, jf4, jf5, jf6, jf7, jf8, jf9, jf10]
  clear jf0 jf1 jf2 jf3 jf4 jf5 jf6 jf7 jf8 jf9 jf10
  simp only [putAll, List.map, Act.put, List.setIfInBounds_toArray, List.set_cons_succ, List.set_cons_zero]
  replace K0 := Lib.hid jb0
  replace K1 := Lib.hid jb1
  replace K2 := Lib.hid jb2
  replace K3 := Lib.hid jb3
  have K4 := Lib.hid jv10
  replace B := Lib.hid bb
  clear bb jb0 jb1 jb2 jb3 jv10 jl10
  have c0_0 := K0.out.at_ 0 _ rfl
  have c0_1 := K0.out.at_ 1 _ rfl
  have c0_2 := K0.out.at_ 2 _ rfl
  have c0_3 := K0.out.at_ 3 _ rfl
  have c1_0 := K1.out.at_ 0 _ rfl
  have c1_1 := K1.out.at_ 1 _ rfl
  have c1_2 := K1.out.at_ 2 _ rfl
  have c1_3 := K1.out.at_ 3 _ rfl
  have c2_0 := K2.out.at_ 0 _ rfl
  have c2_1 := K2.out.at_ 1 _ rfl
  have c2_2 := K2.out.at_ 2 _ rfl
  have c3_0 := K3.out.at_ 0 _ rfl
  have c3_1 := K3.out.at_ 1 _ rfl
  have c3_2 := K3.out.at_ 2 _ rfl
  have c4_0 := K4.out.at_ 0 _ rfl
  have c4_1 := K4.out.at_ 1 _ rfl
  have c4_2 := K4.out.at_ 2 _ rfl
  go_upto_region 5 with (fail)
  clear c0_0 c0_1 c0_2 c0_3 c1_0 c1_1 c1_2 c1_3 c2_0 c2_1 c2_2 c3_0 c3_1 c3_2 c4_0 c4_1 c4_2
  refine wp_region_par (by kernel_rfl) [51, 52, 53, 54, 55, 56, 57, 58, 59, 60, 8] (fun L σ W => Vals [some 51, some 52, some 53, some 54, some 55, some 56, some 57, some 58, some 59, some 60, none, none] [(.pointer (some ⟨g3_4, 0, none⟩)), (.string A1), (.string E1), (.pointer (some ⟨g3_4, 1, none⟩)), (.string A2), (.string E2), (.pointer (some ⟨g3_4, 2, none⟩)), (.string A3), (.string E3), (.agg #[.string E1, .string E2, .string E3]), undef, undef] L σ ∧ (L 10 → ∃ (g : Nat) (jy0 jy1 jy2 : Value), σ 8 = .pointer (some ⟨g, 0, none⟩) ∧ w.heap.size ≤ g ∧ Blk W g #[jy0, jy1, jy2] 34 ∧ (L 11 → #[jy0, jy1, jy2] = #[.string E1, .string E2, .string E3]) ∧ w.heap.size ≠ g ∧ w.heap.size + 1 ≠ g ∧ g3_4 ≠ g ∧ g3_5 ≠ g ∧ g4_10 ≠ g) ∧ (L 11 → L 10) ∧ Blk W (w.heap.size) #[.int .i8 x1, .int .i8 y1, .int .i8 z1, .int .u8 b1] 24 ∧ Blk W (w.heap.size + 1) #[.int .i8 x2, .int .i8 y2, .int .i8 z2, .int .u8 b2] 24 ∧ Blk W (g3_4) #[.string A1, .string A2, .string A3] 34 ∧ Blk W (g3_5) #[.string C1, .string C2, .string C3] 34 ∧ Blk W (g4_10) #[.string F1, .string F2, .string F3] 34 ∧ Below w.heap.size w W) (by kernel_rfl) (by kernel_rfl) (by kernel_rfl) ?_ ?_ ?_
  · exact fun σ => ⟨Vals.start, fun h => h.elim, fun h => h.elim, K0.out.below (Below.refl _ _).drew, K1.out.below (Below.refl _ _).drew, K2.out.below (Below.refl _ _).drew, K3.out.below (Below.refl _ _).drew, K4.out.below (Below.refl _ _).drew, B.out.drew⟩
  · refine ⟨?_, ?_, ?_, ?_, ?_, ?_, ?_, ?_, ?_, ?_, ?_, ?_, trivial⟩
    · rintro L a W ho ⟨V, jf10, js11, jb0, jb1, jb2, jb3, jb4, bb⟩ hn hd K hK
      clear hd
      refine Wants.free rfl ?_
      have jr5 : a.tmps[(5 : Nat)]?.getD undef = .pointer (some ⟨g3_4, 0, none⟩) := ho.slot 5 rfl
      go_simp
      exact hK.out (.pointer (some ⟨g3_4, 0, none⟩)) _ ⟨V.set 0 _ _ rfl rfl rfl, fun h => (by obtain ⟨jg, ju0, ju1, ju2, je1, je2, je3, je4, jne0, jne1, jne2, jne3, jne4⟩ := old jf10 rfl h; exact ⟨jg, _, _, _, je1, je2, je3, fun h => je4 (h.resolve_right (by decide)), jne0, jne1, jne2, jne3, jne4⟩), fun h => .inl (old js11 rfl h), jb0, jb1, jb2, jb3, jb4, bb⟩
    · rintro L a W ho ⟨V, jf10, js11, jb0, jb1, jb2, jb3, jb4, bb⟩ hn hd K hK
      have jh0 := hd.get 0 rfl
      clear hd
      refine Wants.free rfl ?_
      have jr51 := V.read 0 rfl rfl jh0
      have jc0 := jb2.at_ 0 _ rfl
      go_simp
      exact hK.out (.string A1) _ ⟨V.set 1 _ _ rfl rfl rfl, fun h => (by obtain ⟨jg, ju0, ju1, ju2, je1, je2, je3, je4, jne0, jne1, jne2, jne3, jne4⟩ := old jf10 rfl h; exact ⟨jg, _, _, _, je1, je2, je3, fun h => je4 (h.resolve_right (by decide)), jne0, jne1, jne2, jne3, jne4⟩), fun h => .inl (old js11 rfl h), jb0, jb1, jb2, jb3, jb4, bb⟩
    · rintro L a W ho ⟨V, jf10, js11, jb0, jb1, jb2, jb3, jb4, bb⟩ hn hd K hK
      have jh1 := hd.get 1 rfl
      clear hd
      refine Wants.free rfl ?_
      have jr52 := V.read 1 rfl rfl jh1
      go_simp
      go_at_call 30
      with_reducible refine (N1.out _ bb).mono ?_
      rintro e wx ⟨rfl, q⟩
      go_simp
      exact hK.out (.string E1) _ ⟨V.set 2 _ _ rfl rfl rfl, fun h => (by obtain ⟨jg, ju0, ju1, ju2, je1, je2, je3, je4, jne0, jne1, jne2, jne3, jne4⟩ := old jf10 rfl h; exact ⟨jg, _, _, _, je1, je2, je3.below q, fun h => je4 (h.resolve_right (by decide)), jne0, jne1, jne2, jne3, jne4⟩), fun h => .inl (old js11 rfl h), jb0.below q, jb1.below q, jb2.below q, jb3.below q, jb4.below q, bb.trans (q.mono bb.size)⟩
    · rintro L a W ho ⟨V, jf10, js11, jb0, jb1, jb2, jb3, jb4, bb⟩ hn hd K hK
      clear hd
      refine Wants.free rfl ?_
      have jr5 : a.tmps[(5 : Nat)]?.getD undef = .pointer (some ⟨g3_4, 0, none⟩) := ho.slot 5 rfl
      go_simp
      exact hK.out (.pointer (some ⟨g3_4, 1, none⟩)) _ ⟨V.set 3 _ _ rfl rfl rfl, fun h => (by obtain ⟨jg, ju0, ju1, ju2, je1, je2, je3, je4, jne0, jne1, jne2, jne3, jne4⟩ := old jf10 rfl h; exact ⟨jg, _, _, _, je1, je2, je3, fun h => je4 (h.resolve_right (by decide)), jne0, jne1, jne2, jne3, jne4⟩), fun h => .inl (old js11 rfl h), jb0, jb1, jb2, jb3, jb4, bb⟩
    · rintro L a W ho ⟨V, jf10, js11, jb0, jb1, jb2, jb3, jb4, bb⟩ hn hd K hK
      have jh3 := hd.get 3 rfl
      clear hd
      refine Wants.free rfl ?_
      have jr54 := V.read 3 rfl rfl jh3
      have jc1 := jb2.at_ 1 _ rfl
      go_simp
      exact hK.out (.string A2) _ ⟨V.set 4 _ _ rfl rfl rfl, fun h => (by obtain ⟨jg, ju0, ju1, ju2, je1, je2, je3, je4, jne0, jne1, jne2, jne3, jne4⟩ := old jf10 rfl h; exact ⟨jg, _, _, _, je1, je2, je3, fun h => je4 (h.resolve_right (by decide)), jne0, jne1, jne2, jne3, jne4⟩), fun h => .inl (old js11 rfl h), jb0, jb1, jb2, jb3, jb4, bb⟩
    · rintro L a W ho ⟨V, jf10, js11, jb0, jb1, jb2, jb3, jb4, bb⟩ hn hd K hK
      have jh4 := hd.get 4 rfl
      clear hd
      refine Wants.free rfl ?_
      have jr55 := V.read 4 rfl rfl jh4
      go_simp
      go_at_call 30
      with_reducible refine (N2.out _ bb).mono ?_
      rintro e wx ⟨rfl, q⟩
      go_simp
      exact hK.out (.string E2) _ ⟨V.set 5 _ _ rfl rfl rfl, fun h => (by obtain ⟨jg, ju0, ju1, ju2, je1, je2, je3, je4, jne0, jne1, jne2, jne3, jne4⟩ := old jf10 rfl h; exact ⟨jg, _, _, _, je1, je2, je3.below q, fun h => je4 (h.resolve_right (by decide)), jne0, jne1, jne2, jne3, jne4⟩), fun h => .inl (old js11 rfl h), jb0.below q, jb1.below q, jb2.below q, jb3.below q, jb4.below q, bb.trans (q.mono bb.size)⟩
    · rintro L a W ho ⟨V, jf10, js11, jb0, jb1, jb2, jb3, jb4, bb⟩ hn hd K hK
      clear hd
      refine Wants.free rfl ?_
      have jr5 : a.tmps[(5 : Nat)]?.getD undef = .pointer (some ⟨g3_4, 0, none⟩) := ho.slot 5 rfl
      go_simp
      exact hK.out (.pointer (some ⟨g3_4, 2, none⟩)) _ ⟨V.set 6 _ _ rfl rfl rfl, fun h => (by obtain ⟨jg, ju0, ju1, ju2, je1, je2, je3, je4, jne0, jne1, jne2, jne3, jne4⟩ := old jf10 rfl h; exact ⟨jg, _, _, _, je1, je2, je3, fun h => je4 (h.resolve_right (by decide)), jne0, jne1, jne2, jne3, jne4⟩), fun h => .inl (old js11 rfl h), jb0, jb1, jb2, jb3, jb4, bb⟩
    · rintro L a W ho ⟨V, jf10, js11, jb0, jb1, jb2, jb3, jb4, bb⟩ hn hd K hK
      have jh6 := hd.get 6 rfl
      clear hd
      refine Wants.free rfl ?_
      have jr57 := V.read 6 rfl rfl jh6
      have jc2 := jb2.at_ 2 _ rfl
      go_simp
      exact hK.out (.string A3) _ ⟨V.set 7 _ _ rfl rfl rfl, fun h => (by obtain ⟨jg, ju0, ju1, ju2, je1, je2, je3, je4, jne0, jne1, jne2, jne3, jne4⟩ := old jf10 rfl h; exact ⟨jg, _, _, _, je1, je2, je3, fun h => je4 (h.resolve_right (by decide)), jne0, jne1, jne2, jne3, jne4⟩), fun h => .inl (old js11 rfl h), jb0, jb1, jb2, jb3, jb4, bb⟩
    · rintro L a W ho ⟨V, jf10, js11, jb0, jb1, jb2, jb3, jb4, bb⟩ hn hd K hK
      have jh7 := hd.get 7 rfl
      clear hd
      refine Wants.free rfl ?_
      have jr58 := V.read 7 rfl rfl jh7
      go_simp
      go_at_call 30
      with_reducible refine (N3.out _ bb).mono ?_
      rintro e wx ⟨rfl, q⟩
      go_simp
      exact hK.out (.string E3) _ ⟨V.set 8 _ _ rfl rfl rfl, fun h => (by obtain ⟨jg, ju0, ju1, ju2, je1, je2, je3, je4, jne0, jne1, jne2, jne3, jne4⟩ := old jf10 rfl h; exact ⟨jg, _, _, _, je1, je2, je3.below q, fun h => je4 (h.resolve_right (by decide)), jne0, jne1, jne2, jne3, jne4⟩), fun h => .inl (old js11 rfl h), jb0.below q, jb1.below q, jb2.below q, jb3.below q, jb4.below q, bb.trans (q.mono bb.size)⟩
    · rintro L a W ho ⟨V, jf10, js11, jb0, jb1, jb2, jb3, jb4, bb⟩ hn hd K hK
      have jh2 := hd.get 2 rfl
      have jh5 := hd.get 5 rfl
      have jh8 := hd.get 8 rfl
      clear hd
      refine Wants.free rfl ?_
      have jr53 := V.read 2 rfl rfl jh2
      have jr56 := V.read 5 rfl rfl jh5
      have jr59 := V.read 8 rfl rfl jh8
      go_simp
      exact hK.out (.agg #[.string E1, .string E2, .string E3]) _ ⟨V.set 9 _ _ rfl rfl rfl, fun h => (by obtain ⟨jg, ju0, ju1, ju2, je1, je2, je3, je4, jne0, jne1, jne2, jne3, jne4⟩ := old jf10 rfl h; exact ⟨jg, _, _, _, je1, je2, je3, fun h => je4 (h.resolve_right (by decide)), jne0, jne1, jne2, jne3, jne4⟩), fun h => .inl (old js11 rfl h), jb0, jb1, jb2, jb3, jb4, bb⟩
    · rintro L a W ho ⟨V, jf10, js11, jb0, jb1, jb2, jb3, jb4, bb⟩ hn hd K hK
      clear hd
      refine Wants.free rfl ?_
      go_simp
      exact hK.out (.pointer (some ⟨W.heap.size, 0, none⟩)) _ ⟨V.apart 10 _ _ rfl rfl, fun _ => ⟨W.heap.size, .string ⟨#[]⟩, .string ⟨#[]⟩, .string ⟨#[]⟩, rfl, bb.size, Blk.fresh W #[.string ⟨#[]⟩, .string ⟨#[]⟩, .string ⟨#[]⟩] 34, fun h => absurd (old js11 rfl h) hn, (Nat.ne_of_lt jb0.lt), (Nat.ne_of_lt jb1.lt), (Nat.ne_of_lt jb2.lt), (Nat.ne_of_lt jb3.lt), (Nat.ne_of_lt jb4.lt)⟩, fun h => .inl (old js11 rfl h), jb0.alloc (Obj.cells #[.string ⟨#[]⟩, .string ⟨#[]⟩, .string ⟨#[]⟩] 34), jb1.alloc (Obj.cells #[.string ⟨#[]⟩, .string ⟨#[]⟩, .string ⟨#[]⟩] 34), jb2.alloc (Obj.cells #[.string ⟨#[]⟩, .string ⟨#[]⟩, .string ⟨#[]⟩] 34), jb3.alloc (Obj.cells #[.string ⟨#[]⟩, .string ⟨#[]⟩, .string ⟨#[]⟩] 34), jb4.alloc (Obj.cells #[.string ⟨#[]⟩, .string ⟨#[]⟩, .string ⟨#[]⟩] 34), bb.trans ((below_new W (Obj.cells #[.string ⟨#[]⟩, .string ⟨#[]⟩, .string ⟨#[]⟩] 34)).mono bb.size)⟩
    · rintro L a W ho ⟨V, jf10, js11, jb0, jb1, jb2, jb3, jb4, bb⟩ hn hd K hK
      have jh10 := hd.get 10 rfl
      have jh9 := hd.get 9 rfl
      clear hd
      refine Wants.free rfl ?_
      have jr60 := V.read 9 rfl rfl jh9
      obtain ⟨jg, jy0, jy1, jy2, je1, je2, je3, je4, jne0, jne1, jne2, jne3, jne4⟩ := jf10 jh10
      have jr8 : a.tmps[(8 : Nat)]?.getD undef = .pointer (some ⟨jg, 0, none⟩) := je1
      have jc0 := je3.at_ 0 _ rfl
      have jz0 := je3.free 0
      have jc1 := je3.at_ 1 _ rfl
      have jz1 := je3.free 1
      have jc2 := je3.at_ 2 _ rfl
      have jz2 := je3.free 2
      go_simp
      exact hK.out (undef) _ ⟨V.same 11 _ rfl, fun _ => ⟨jg, .string E1, .string E2, .string E3, je1, je2, je3.set3 (.string E1) (.string E2) (.string E3), fun _ => rfl, jne0, jne1, jne2, jne3, jne4⟩, fun _ => .inl jh10, jb0.else3 jne0 (.string E1) (.string E2) (.string E3), jb1.else3 jne1 (.string E1) (.string E2) (.string E3), jb2.else3 jne2 (.string E1) (.string E2) (.string E3), jb3.else3 jne3 (.string E1) (.string E2) (.string E3), jb4.else3 jne4 (.string E1) (.string E2) (.string E3), bb.trans (below_else3 W w.heap.size jg je2 (.string E1) (.string E2) (.string E3))⟩
  rintro L σ W ⟨V, jf10, js11, jb0, jb1, jb2, jb3, jb4, bb⟩ hL
  have jf0 := V 0 _ _ rfl rfl (hL 0 (by decide))
  have jf1 := V 1 _ _ rfl rfl (hL 1 (by decide))
  have jf2 := V 2 _ _ rfl rfl (hL 2 (by decide))
  have jf3 := V 3 _ _ rfl rfl (hL 3 (by decide))
  have jf4 := V 4 _ _ rfl rfl (hL 4 (by decide))
  have jf5 := V 5 _ _ rfl rfl (hL 5 (by decide))
  have jf6 := V 6 _ _ rfl rfl (hL 6 (by decide))
  have jf7 := V 7 _ _ rfl rfl (hL 7 (by decide))
  have jf8 := V 8 _ _ rfl rfl (hL 8 (by decide))
  have jf9 := V 9 _ _ rfl rfl (hL 9 (by decide))
  clear V
  obtain ⟨g5_10, jy10_0, jy10_1, jy10_2, jf10, jl10, jv10, je10, jne10_0, jne10_1, jne10_2, jne10_3, jne10_4⟩ := jf10 (hL 10 (by decide))
  rw [je10 (hL 11 (by decide))] at jv10
  clear je10 jne10_0 jne10_1 jne10_2 jne10_3 jne10_4
  clear hL js11
  rw [show List.map σ [51, 52, 53, 54, 55, 56, 57, 58, 59, 60, 8] = [σ 51, σ 52, σ 53, σ 54, σ 55, σ 56, σ 57, σ 58, σ 59, σ 60, σ 8] from rfl, jf0, jf1, jf2, jf3, jf4, jf5, jf6, jf7, jf8, jf9, jf10]
  clear jf0 jf1 jf2 jf3 jf4 jf5 jf6 jf7 jf8 jf9 jf10
  simp only [putAll, List.map, Act.put, List.setIfInBounds_toArray, List.set_cons_succ, List.set_cons_zero]
  replace K0 := Lib.hid jb0
  replace K1 := Lib.hid jb1
  replace K2 := Lib.hid jb2
  replace K3 := Lib.hid jb3
  replace K4 := Lib.hid jb4
  have K5 := Lib.hid jv10
  replace B := Lib.hid bb
  clear bb jb0 jb1 jb2 jb3 jb4 jv10 jl10
  have c0_0 := K0.out.at_ 0 _ rfl
  have c0_1 := K0.out.at_ 1 _ rfl
  have c0_2 := K0.out.at_ 2 _ rfl
  have c0_3 := K0.out.at_ 3 _ rfl
  have c1_0 := K1.out.at_ 0 _ rfl
  have c1_1 := K1.out.at_ 1 _ rfl
  have c1_2 := K1.out.at_ 2 _ rfl
  have c1_3 := K1.out.at_ 3 _ rfl
  have c2_0 := K2.out.at_ 0 _ rfl
  have c2_1 := K2.out.at_ 1 _ rfl
  have c2_2 := K2.out.at_ 2 _ rfl
  have c3_0 := K3.out.at_ 0 _ rfl
  have c3_1 := K3.out.at_ 1 _ rfl
  have c3_2 := K3.out.at_ 2 _ rfl
  have c4_0 := K4.out.at_ 0 _ rfl
  have c4_1 := K4.out.at_ 1 _ rfl
  have c4_2 := K4.out.at_ 2 _ rfl
  have c5_0 := K5.out.at_ 0 _ rfl
  have c5_1 := K5.out.at_ 1 _ rfl
  have c5_2 := K5.out.at_ 2 _ rfl
  go_upto_region 11 with (
   (first
    | (go_at_call 15; with_reducible refine (O1.out _ (baseI B.out)).mono ?_)
    | (go_at_call 15; with_reducible refine (O2.out _ (baseI B.out)).mono ?_)
    | (go_at_call 15; with_reducible refine (O3.out _ (baseI B.out)).mono ?_)
    | (go_at_call 15; with_reducible refine (O4.out _ (baseI B.out)).mono ?_)
    | (go_at_call 27; with_reducible refine (O5.out _ (baseI B.out)).mono ?_)
    | fail "arm"); rintro e wx ⟨rfl, q⟩; replace K0 := Lib.hid (K0.out.nearI q); replace K1 := Lib.hid (K1.out.nearI q); replace K2 := Lib.hid (K2.out.nearI q); replace K3 := Lib.hid (K3.out.nearI q); replace K4 := Lib.hid (K4.out.nearI q); replace K5 := Lib.hid (K5.out.nearI q); replace B := Lib.hid (goI B.out q); clear q; replace c0_0 := K0.out.at_ 0 _ rfl; replace c0_1 := K0.out.at_ 1 _ rfl; replace c0_2 := K0.out.at_ 2 _ rfl; replace c0_3 := K0.out.at_ 3 _ rfl; replace c1_0 := K1.out.at_ 0 _ rfl; replace c1_1 := K1.out.at_ 1 _ rfl; replace c1_2 := K1.out.at_ 2 _ rfl; replace c1_3 := K1.out.at_ 3 _ rfl; replace c2_0 := K2.out.at_ 0 _ rfl; replace c2_1 := K2.out.at_ 1 _ rfl; replace c2_2 := K2.out.at_ 2 _ rfl; replace c3_0 := K3.out.at_ 0 _ rfl; replace c3_1 := K3.out.at_ 1 _ rfl; replace c3_2 := K3.out.at_ 2 _ rfl; replace c4_0 := K4.out.at_ 0 _ rfl; replace c4_1 := K4.out.at_ 1 _ rfl; replace c4_2 := K4.out.at_ 2 _ rfl; replace c5_0 := K5.out.at_ 0 _ rfl; replace c5_1 := K5.out.at_ 1 _ rfl; replace c5_2 := K5.out.at_ 2 _ rfl)
  go_upto_region 13 with (fail)
  rcases hc with ⟨a1, a2⟩ | ⟨a1, a2, a3⟩ | ⟨a1, a2, a3, a4⟩ | ⟨a1, a2, a3⟩
  all_goals
    go_upto_region 16 with (
     (first
      | (go_at_call 23; with_reducible refine (O6.out _ (baseI B.out)).mono ?_)
      | fail "arm"); rintro e wx ⟨rfl, q⟩; replace K0 := Lib.hid (K0.out.nearI q); replace K1 := Lib.hid (K1.out.nearI q); replace K2 := Lib.hid (K2.out.nearI q); replace K3 := Lib.hid (K3.out.nearI q); replace K4 := Lib.hid (K4.out.nearI q); replace K5 := Lib.hid (K5.out.nearI q); replace B := Lib.hid (goI B.out q); clear q; replace c0_0 := K0.out.at_ 0 _ rfl; replace c0_1 := K0.out.at_ 1 _ rfl; replace c0_2 := K0.out.at_ 2 _ rfl; replace c0_3 := K0.out.at_ 3 _ rfl; replace c1_0 := K1.out.at_ 0 _ rfl; replace c1_1 := K1.out.at_ 1 _ rfl; replace c1_2 := K1.out.at_ 2 _ rfl; replace c1_3 := K1.out.at_ 3 _ rfl; replace c2_0 := K2.out.at_ 0 _ rfl; replace c2_1 := K2.out.at_ 1 _ rfl; replace c2_2 := K2.out.at_ 2 _ rfl; replace c3_0 := K3.out.at_ 0 _ rfl; replace c3_1 := K3.out.at_ 1 _ rfl; replace c3_2 := K3.out.at_ 2 _ rfl; replace c4_0 := K4.out.at_ 0 _ rfl; replace c4_1 := K4.out.at_ 1 _ rfl; replace c4_2 := K4.out.at_ 2 _ rfl; replace c5_0 := K5.out.at_ 0 _ rfl; replace c5_1 := K5.out.at_ 1 _ rfl; replace c5_2 := K5.out.at_ 2 _ rfl)
    have n6 := Blk.fresh wx #[.string P1, .string P2, .string P3] 34
    replace K0 := Lib.hid (K0.out.alloc (Obj.cells #[.string P1, .string P2, .string P3] 34))
    replace K1 := Lib.hid (K1.out.alloc (Obj.cells #[.string P1, .string P2, .string P3] 34))
    replace K2 := Lib.hid (K2.out.alloc (Obj.cells #[.string P1, .string P2, .string P3] 34))
    replace K3 := Lib.hid (K3.out.alloc (Obj.cells #[.string P1, .string P2, .string P3] 34))
    replace K4 := Lib.hid (K4.out.alloc (Obj.cells #[.string P1, .string P2, .string P3] 34))
    replace K5 := Lib.hid (K5.out.alloc (Obj.cells #[.string P1, .string P2, .string P3] 34))
    replace B := Lib.hid (B.out.trans ((below_new wx (Obj.cells #[.string P1, .string P2, .string P3] 34)).mono B.out.size))
    generalize wx.alloc (Obj.cells #[.string P1, .string P2, .string P3] 34) = wl4 at *
    generalize wx.heap.size = gl4 at *
    have K6 := Lib.hid n6
    clear n6
    replace c0_0 := K0.out.at_ 0 _ rfl
    replace c0_1 := K0.out.at_ 1 _ rfl
    replace c0_2 := K0.out.at_ 2 _ rfl
    replace c0_3 := K0.out.at_ 3 _ rfl
    replace c1_0 := K1.out.at_ 0 _ rfl
    replace c1_1 := K1.out.at_ 1 _ rfl
    replace c1_2 := K1.out.at_ 2 _ rfl
    replace c1_3 := K1.out.at_ 3 _ rfl
    replace c2_0 := K2.out.at_ 0 _ rfl
    replace c2_1 := K2.out.at_ 1 _ rfl
    replace c2_2 := K2.out.at_ 2 _ rfl
    replace c3_0 := K3.out.at_ 0 _ rfl
    replace c3_1 := K3.out.at_ 1 _ rfl
    replace c3_2 := K3.out.at_ 2 _ rfl
    replace c4_0 := K4.out.at_ 0 _ rfl
    replace c4_1 := K4.out.at_ 1 _ rfl
    replace c4_2 := K4.out.at_ 2 _ rfl
    replace c5_0 := K5.out.at_ 0 _ rfl
    replace c5_1 := K5.out.at_ 1 _ rfl
    replace c5_2 := K5.out.at_ 2 _ rfl
    have c6_0 := K6.out.at_ 0 _ rfl
    have c6_1 := K6.out.at_ 1 _ rfl
    have c6_2 := K6.out.at_ 2 _ rfl
    go_wp2_with (
     (first
      | (go_at_call 22; with_reducible refine (O7.out _ (baseI B.out)).mono ?_)
      | (go_at_call 22; with_reducible refine (O8.out _ (baseI B.out)).mono ?_)
      | fail "arm"); rintro e wx ⟨rfl, q⟩; replace K0 := Lib.hid (K0.out.nearI q); replace K1 := Lib.hid (K1.out.nearI q); replace K2 := Lib.hid (K2.out.nearI q); replace K3 := Lib.hid (K3.out.nearI q); replace K4 := Lib.hid (K4.out.nearI q); replace K5 := Lib.hid (K5.out.nearI q); replace K6 := Lib.hid (K6.out.nearI q); replace B := Lib.hid (goI B.out q); clear q; replace c0_0 := K0.out.at_ 0 _ rfl; replace c0_1 := K0.out.at_ 1 _ rfl; replace c0_2 := K0.out.at_ 2 _ rfl; replace c0_3 := K0.out.at_ 3 _ rfl; replace c1_0 := K1.out.at_ 0 _ rfl; replace c1_1 := K1.out.at_ 1 _ rfl; replace c1_2 := K1.out.at_ 2 _ rfl; replace c1_3 := K1.out.at_ 3 _ rfl; replace c2_0 := K2.out.at_ 0 _ rfl; replace c2_1 := K2.out.at_ 1 _ rfl; replace c2_2 := K2.out.at_ 2 _ rfl; replace c3_0 := K3.out.at_ 0 _ rfl; replace c3_1 := K3.out.at_ 1 _ rfl; replace c3_2 := K3.out.at_ 2 _ rfl; replace c4_0 := K4.out.at_ 0 _ rfl; replace c4_1 := K4.out.at_ 1 _ rfl; replace c4_2 := K4.out.at_ 2 _ rfl; replace c5_0 := K5.out.at_ 0 _ rfl; replace c5_1 := K5.out.at_ 1 _ rfl; replace c5_2 := K5.out.at_ 2 _ rfl; replace c6_0 := K6.out.at_ 0 _ rfl; replace c6_1 := K6.out.at_ 1 _ rfl; replace c6_2 := K6.out.at_ 2 _ rfl)
    go_ret
    exact ⟨rfl, B.out⟩

end Go.Proofs.YtajkeoapfkkjbaaGreatDoor
