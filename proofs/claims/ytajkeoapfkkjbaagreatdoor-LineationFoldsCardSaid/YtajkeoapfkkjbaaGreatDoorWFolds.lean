/- The walk of LineationFolds, over texts and ints. -/
import Derived.Test.YtajkeoapfkkjbaaGreatDoorShelf
import Derived.Test.YtajkeoapfkkjbaaGreatDoorPar
import Derived.Deep.RegionHeld3
import Derived.Laws.ResultCell
import Derived.Deep.Cut
import Derived.Deep.CutRange
import Derived.Deep.DeepCutAuto
import Derived.Outline
namespace Go.Proofs.YtajkeoapfkkjbaaGreatDoor
set_option linter.all false
open Go.RowKit

set_option maxRecDepth 100000 in
set_option maxHeartbeats 4000000 in
theorem folds_z1 (x1 y1 z1 b1 x2 y2 z2 b2 p1 p2 p3 : Int) (w : World)
    (kn : ∀ W, Below w.heap.size w W → Calls Tryz.prog 12 #[] W fun e w' => e = .returned (.bool true) ∧ Below W.heap.size W w')
    (i1 : ∀ W, Below w.heap.size w W → Calls Tryz.prog 14 #[.agg #[.int .i8 x1, .int .i8 y1, .int .i8 z1, .int .u8 b1]] W fun e w' => e = .returned (.agg #[.int .i64 p1, .int .i64 p2, .int .i64 p3]) ∧ Below W.heap.size W w')
    (s1 : ∀ W, Below w.heap.size w W → Calls Tryz.prog 13 #[.agg #[.int .i64 p1, .int .i64 p2, .int .i64 p3]] W fun e w' => e = .returned (.bool true) ∧ Below W.heap.size W w') :
    Calls Tryz.prog 3 #[.agg #[.int .i8 x1, .int .i8 y1, .int .i8 z1, .int .u8 b1], .agg #[.int .i8 x2, .int .i8 y2, .int .i8 z2, .int .u8 b2]] w fun e w' => e = .returned (.bool true) ∧ Below w.heap.size w w' := by
  have KN := Lib.hid kn
  have I1 := Lib.hid i1
  have S1 := Lib.hid s1
  clear kn i1 s1
  have k0 := Blk.fresh w #[.int .i8 x1, .int .i8 y1, .int .i8 z1, .int .u8 b1] 24
  replace k0 := k0.alloc (Obj.cells #[.int .i8 x2, .int .i8 y2, .int .i8 z2, .int .u8 b2] 24)
  have k1 := Blk.fresh (w.alloc (Obj.cells #[.int .i8 x1, .int .i8 y1, .int .i8 z1, .int .u8 b1] 24)) #[.int .i8 x2, .int .i8 y2, .int .i8 z2, .int .u8 b2] 24
  rw [show (w.alloc (Obj.cells #[.int .i8 x1, .int .i8 y1, .int .i8 z1, .int .u8 b1] 24)).heap.size = w.heap.size + 1 from World.size_alloc ..] at k1
  have jb0 : Below w.heap.size w ((w.alloc (Obj.cells #[.int .i8 x1, .int .i8 y1, .int .i8 z1, .int .u8 b1] 24)).alloc (Obj.cells #[.int .i8 x2, .int .i8 y2, .int .i8 z2, .int .u8 b2] 24)) := (((Below.refl _ _).alloc (Nat.le_refl _) _).alloc (by simp; try omega) _)
  have K0 := Lib.hid k0
  have K1 := Lib.hid k1
  have B := Lib.hid jb0
  clear jb0 k0 k1
  go_enter Tryz.func3, Tryz.ntmps3
  go_upto_region 1 with (fail)
  generalize ((w.alloc (Obj.cells #[.int .i8 x1, .int .i8 y1, .int .i8 z1, .int .u8 b1] 24)).alloc (Obj.cells #[.int .i8 x2, .int .i8 y2, .int .i8 z2, .int .u8 b2] 24)) = W0 at *
  have c0_0 := K0.out.at_ 0 _ rfl
  have c0_1 := K0.out.at_ 1 _ rfl
  have c0_2 := K0.out.at_ 2 _ rfl
  have c0_3 := K0.out.at_ 3 _ rfl
  have c1_0 := K1.out.at_ 0 _ rfl
  have c1_1 := K1.out.at_ 1 _ rfl
  have c1_2 := K1.out.at_ 2 _ rfl
  have c1_3 := K1.out.at_ 3 _ rfl
  go_wp2_with (
   (first
    | (go_at_call 12; with_reducible refine (KN.out _ (baseI B.out)).mono ?_)
    | (go_at_call 14; with_reducible refine (I1.out _ (baseI B.out)).mono ?_)
    | (go_at_call 13; with_reducible refine (S1.out _ (baseI B.out)).mono ?_)
    | fail "arm"); rintro e wx ⟨rfl, q⟩; replace K0 := Lib.hid (K0.out.nearI q); replace K1 := Lib.hid (K1.out.nearI q); replace B := Lib.hid (goI B.out q); clear q; replace c0_0 := K0.out.at_ 0 _ rfl; replace c0_1 := K0.out.at_ 1 _ rfl; replace c0_2 := K0.out.at_ 2 _ rfl; replace c0_3 := K0.out.at_ 3 _ rfl; replace c1_0 := K1.out.at_ 0 _ rfl; replace c1_1 := K1.out.at_ 1 _ rfl; replace c1_2 := K1.out.at_ 2 _ rfl; replace c1_3 := K1.out.at_ 3 _ rfl)
  go_ret
  exact ⟨rfl, B.out⟩

set_option maxRecDepth 100000 in
set_option maxHeartbeats 4000000 in
theorem folds_z2 (x1 y1 z1 b1 x2 y2 z2 b2 p1 p2 p3 q1 q2 q3 : Int) (w : World)
    (kn : ∀ W, Below w.heap.size w W → Calls Tryz.prog 12 #[] W fun e w' => e = .returned (.bool true) ∧ Below W.heap.size W w')
    (i1 : ∀ W, Below w.heap.size w W → Calls Tryz.prog 14 #[.agg #[.int .i8 x1, .int .i8 y1, .int .i8 z1, .int .u8 b1]] W fun e w' => e = .returned (.agg #[.int .i64 p1, .int .i64 p2, .int .i64 p3]) ∧ Below W.heap.size W w')
    (s1 : ∀ W, Below w.heap.size w W → Calls Tryz.prog 13 #[.agg #[.int .i64 p1, .int .i64 p2, .int .i64 p3]] W fun e w' => e = .returned (.bool false) ∧ Below W.heap.size W w')
    (i2 : ∀ W, Below w.heap.size w W → Calls Tryz.prog 14 #[.agg #[.int .i8 x2, .int .i8 y2, .int .i8 z2, .int .u8 b2]] W fun e w' => e = .returned (.agg #[.int .i64 q1, .int .i64 q2, .int .i64 q3]) ∧ Below W.heap.size W w')
    (s2 : ∀ W, Below w.heap.size w W → Calls Tryz.prog 13 #[.agg #[.int .i64 q1, .int .i64 q2, .int .i64 q3]] W fun e w' => e = .returned (.bool true) ∧ Below W.heap.size W w') :
    Calls Tryz.prog 3 #[.agg #[.int .i8 x1, .int .i8 y1, .int .i8 z1, .int .u8 b1], .agg #[.int .i8 x2, .int .i8 y2, .int .i8 z2, .int .u8 b2]] w fun e w' => e = .returned (.bool true) ∧ Below w.heap.size w w' := by
  have KN := Lib.hid kn
  have I1 := Lib.hid i1
  have S1 := Lib.hid s1
  have I2 := Lib.hid i2
  have S2 := Lib.hid s2
  clear kn i1 s1 i2 s2
  have k0 := Blk.fresh w #[.int .i8 x1, .int .i8 y1, .int .i8 z1, .int .u8 b1] 24
  replace k0 := k0.alloc (Obj.cells #[.int .i8 x2, .int .i8 y2, .int .i8 z2, .int .u8 b2] 24)
  have k1 := Blk.fresh (w.alloc (Obj.cells #[.int .i8 x1, .int .i8 y1, .int .i8 z1, .int .u8 b1] 24)) #[.int .i8 x2, .int .i8 y2, .int .i8 z2, .int .u8 b2] 24
  rw [show (w.alloc (Obj.cells #[.int .i8 x1, .int .i8 y1, .int .i8 z1, .int .u8 b1] 24)).heap.size = w.heap.size + 1 from World.size_alloc ..] at k1
  have jb0 : Below w.heap.size w ((w.alloc (Obj.cells #[.int .i8 x1, .int .i8 y1, .int .i8 z1, .int .u8 b1] 24)).alloc (Obj.cells #[.int .i8 x2, .int .i8 y2, .int .i8 z2, .int .u8 b2] 24)) := (((Below.refl _ _).alloc (Nat.le_refl _) _).alloc (by simp; try omega) _)
  have K0 := Lib.hid k0
  have K1 := Lib.hid k1
  have B := Lib.hid jb0
  clear jb0 k0 k1
  go_enter Tryz.func3, Tryz.ntmps3
  go_upto_region 1 with (fail)
  generalize ((w.alloc (Obj.cells #[.int .i8 x1, .int .i8 y1, .int .i8 z1, .int .u8 b1] 24)).alloc (Obj.cells #[.int .i8 x2, .int .i8 y2, .int .i8 z2, .int .u8 b2] 24)) = W0 at *
  have c0_0 := K0.out.at_ 0 _ rfl
  have c0_1 := K0.out.at_ 1 _ rfl
  have c0_2 := K0.out.at_ 2 _ rfl
  have c0_3 := K0.out.at_ 3 _ rfl
  have c1_0 := K1.out.at_ 0 _ rfl
  have c1_1 := K1.out.at_ 1 _ rfl
  have c1_2 := K1.out.at_ 2 _ rfl
  have c1_3 := K1.out.at_ 3 _ rfl
  go_wp2_with (
   (first
    | (go_at_call 12; with_reducible refine (KN.out _ (baseI B.out)).mono ?_)
    | (go_at_call 14; with_reducible refine (I1.out _ (baseI B.out)).mono ?_)
    | (go_at_call 13; with_reducible refine (S1.out _ (baseI B.out)).mono ?_)
    | (go_at_call 14; with_reducible refine (I2.out _ (baseI B.out)).mono ?_)
    | (go_at_call 13; with_reducible refine (S2.out _ (baseI B.out)).mono ?_)
    | fail "arm"); rintro e wx ⟨rfl, q⟩; replace K0 := Lib.hid (K0.out.nearI q); replace K1 := Lib.hid (K1.out.nearI q); replace B := Lib.hid (goI B.out q); clear q; replace c0_0 := K0.out.at_ 0 _ rfl; replace c0_1 := K0.out.at_ 1 _ rfl; replace c0_2 := K0.out.at_ 2 _ rfl; replace c0_3 := K0.out.at_ 3 _ rfl; replace c1_0 := K1.out.at_ 0 _ rfl; replace c1_1 := K1.out.at_ 1 _ rfl; replace c1_2 := K1.out.at_ 2 _ rfl; replace c1_3 := K1.out.at_ 3 _ rfl)
  go_ret
  exact ⟨rfl, B.out⟩

set_option maxRecDepth 100000 in
set_option maxHeartbeats 20000000 in
theorem folds_ok (x1 y1 z1 b1 x2 y2 z2 b2 p1 p2 p3 q1 q2 q3 c d s t : Int) (A1 A2 A3 C1 C2 C3 : ByteArray) (w : World)
    (hc : (decide (d > 0) = true ∧ decide (4 * d * d > s * t) = true ∧ c = 1) ∨ (decide (d > 0) = true ∧ decide (4 * d * d > s * t) = false ∧ c = 2) ∨
      (decide (d > 0) = false ∧ decide (4 * d * d < s * t) = true ∧ c = 3) ∨ (decide (d > 0) = false ∧ decide (4 * d * d < s * t) = false ∧ decide (4 * d * d < 3 * (s * t)) = true ∧ c = 4) ∨
      (decide (d > 0) = false ∧ decide (4 * d * d < s * t) = false ∧ decide (4 * d * d < 3 * (s * t)) = false ∧ c = 5))
    (k0 : IntKind.i64.wrap (s * t) = s * t)
    (k1 : IntKind.i64.wrap (4 * d) = 4 * d)
    (k2 : IntKind.i64.wrap (4 * d * d) = 4 * d * d)
    (k3 : IntKind.i64.wrap (3 * (s * t)) = 3 * (s * t))
    (kn : ∀ W, Below w.heap.size w W → Calls Tryz.prog 12 #[] W fun e w' => e = .returned (.bool true) ∧ Below W.heap.size W w')
    (i1 : ∀ W, Below w.heap.size w W → Calls Tryz.prog 14 #[.agg #[.int .i8 x1, .int .i8 y1, .int .i8 z1, .int .u8 b1]] W fun e w' => e = .returned (.agg #[.int .i64 p1, .int .i64 p2, .int .i64 p3]) ∧ Below W.heap.size W w')
    (s1 : ∀ W, Below w.heap.size w W → Calls Tryz.prog 13 #[.agg #[.int .i64 p1, .int .i64 p2, .int .i64 p3]] W fun e w' => e = .returned (.bool false) ∧ Below W.heap.size W w')
    (i2 : ∀ W, Below w.heap.size w W → Calls Tryz.prog 14 #[.agg #[.int .i8 x2, .int .i8 y2, .int .i8 z2, .int .u8 b2]] W fun e w' => e = .returned (.agg #[.int .i64 q1, .int .i64 q2, .int .i64 q3]) ∧ Below W.heap.size W w')
    (s2 : ∀ W, Below w.heap.size w W → Calls Tryz.prog 13 #[.agg #[.int .i64 q1, .int .i64 q2, .int .i64 q3]] W fun e w' => e = .returned (.bool false) ∧ Below W.heap.size W w')
    (m1 : ∀ W, Below w.heap.size w W → Calls Tryz.prog 16 #[.agg #[.int .i8 x1, .int .i8 y1, .int .i8 z1, .int .u8 b1]] W fun e w' => e = .returned (.agg #[.string A1, .string A2, .string A3]) ∧ Below W.heap.size W w')
    (m2 : ∀ W, Below w.heap.size w W → Calls Tryz.prog 16 #[.agg #[.int .i8 x2, .int .i8 y2, .int .i8 z2, .int .u8 b2]] W fun e w' => e = .returned (.agg #[.string C1, .string C2, .string C3]) ∧ Below W.heap.size W w')
    (o1 : ∀ W, Below w.heap.size w W → Calls Tryz.prog 15 #[.agg #[.string A1, .string A2, .string A3], .agg #[.string C1, .string C2, .string C3]] W fun e w' => e = .returned (.tuple #[.int .i64 c, .int .i64 0]) ∧ Below W.heap.size W w')
    (t1 : ∀ W, Below w.heap.size w W → Calls Tryz.prog 17 #[.agg #[.int .i64 p1, .int .i64 p2, .int .i64 p3], .agg #[.int .i64 q1, .int .i64 q2, .int .i64 q3]] W fun e w' => e = .returned (.int .i64 d) ∧ Below W.heap.size W w')
    (t2 : ∀ W, Below w.heap.size w W → Calls Tryz.prog 17 #[.agg #[.int .i64 p1, .int .i64 p2, .int .i64 p3], .agg #[.int .i64 p1, .int .i64 p2, .int .i64 p3]] W fun e w' => e = .returned (.int .i64 s) ∧ Below W.heap.size W w')
    (t3 : ∀ W, Below w.heap.size w W → Calls Tryz.prog 17 #[.agg #[.int .i64 q1, .int .i64 q2, .int .i64 q3], .agg #[.int .i64 q1, .int .i64 q2, .int .i64 q3]] W fun e w' => e = .returned (.int .i64 t) ∧ Below W.heap.size W w') :
    Calls Tryz.prog 3 #[.agg #[.int .i8 x1, .int .i8 y1, .int .i8 z1, .int .u8 b1], .agg #[.int .i8 x2, .int .i8 y2, .int .i8 z2, .int .u8 b2]] w fun e w' => e = .returned (.bool true) ∧ Below w.heap.size w w' := by
  have KN := Lib.hid kn
  have I1 := Lib.hid i1
  have S1 := Lib.hid s1
  have I2 := Lib.hid i2
  have S2 := Lib.hid s2
  have M1 := Lib.hid m1
  have M2 := Lib.hid m2
  have O1 := Lib.hid o1
  have T1 := Lib.hid t1
  have T2 := Lib.hid t2
  have T3 := Lib.hid t3
  clear kn i1 s1 i2 s2 m1 m2 o1 t1 t2 t3
  have k0 := Blk.fresh w #[.int .i8 x1, .int .i8 y1, .int .i8 z1, .int .u8 b1] 24
  replace k0 := k0.alloc (Obj.cells #[.int .i8 x2, .int .i8 y2, .int .i8 z2, .int .u8 b2] 24)
  have k1 := Blk.fresh (w.alloc (Obj.cells #[.int .i8 x1, .int .i8 y1, .int .i8 z1, .int .u8 b1] 24)) #[.int .i8 x2, .int .i8 y2, .int .i8 z2, .int .u8 b2] 24
  rw [show (w.alloc (Obj.cells #[.int .i8 x1, .int .i8 y1, .int .i8 z1, .int .u8 b1] 24)).heap.size = w.heap.size + 1 from World.size_alloc ..] at k1
  have jb0 : Below w.heap.size w ((w.alloc (Obj.cells #[.int .i8 x1, .int .i8 y1, .int .i8 z1, .int .u8 b1] 24)).alloc (Obj.cells #[.int .i8 x2, .int .i8 y2, .int .i8 z2, .int .u8 b2] 24)) := (((Below.refl _ _).alloc (Nat.le_refl _) _).alloc (by simp; try omega) _)
  have K0 := Lib.hid k0
  have K1 := Lib.hid k1
  have B := Lib.hid jb0
  clear jb0 k0 k1
  go_enter Tryz.func3, Tryz.ntmps3
  go_upto_region 1 with (fail)
  generalize ((w.alloc (Obj.cells #[.int .i8 x1, .int .i8 y1, .int .i8 z1, .int .u8 b1] 24)).alloc (Obj.cells #[.int .i8 x2, .int .i8 y2, .int .i8 z2, .int .u8 b2] 24)) = W0 at *
  have c0_0 := K0.out.at_ 0 _ rfl
  have c0_1 := K0.out.at_ 1 _ rfl
  have c0_2 := K0.out.at_ 2 _ rfl
  have c0_3 := K0.out.at_ 3 _ rfl
  have c1_0 := K1.out.at_ 0 _ rfl
  have c1_1 := K1.out.at_ 1 _ rfl
  have c1_2 := K1.out.at_ 2 _ rfl
  have c1_3 := K1.out.at_ 3 _ rfl
  go_upto_region 3 with (
   (first
    | (go_at_call 12; with_reducible refine (KN.out _ (baseI B.out)).mono ?_)
    | (go_at_call 14; with_reducible refine (I1.out _ (baseI B.out)).mono ?_)
    | (go_at_call 13; with_reducible refine (S1.out _ (baseI B.out)).mono ?_)
    | (go_at_call 14; with_reducible refine (I2.out _ (baseI B.out)).mono ?_)
    | (go_at_call 13; with_reducible refine (S2.out _ (baseI B.out)).mono ?_)
    | fail "arm"); rintro e wx ⟨rfl, q⟩; replace K0 := Lib.hid (K0.out.nearI q); replace K1 := Lib.hid (K1.out.nearI q); replace B := Lib.hid (goI B.out q); clear q; replace c0_0 := K0.out.at_ 0 _ rfl; replace c0_1 := K0.out.at_ 1 _ rfl; replace c0_2 := K0.out.at_ 2 _ rfl; replace c0_3 := K0.out.at_ 3 _ rfl; replace c1_0 := K1.out.at_ 0 _ rfl; replace c1_1 := K1.out.at_ 1 _ rfl; replace c1_2 := K1.out.at_ 2 _ rfl; replace c1_3 := K1.out.at_ 3 _ rfl)
  clear c0_0 c0_1 c0_2 c0_3 c1_0 c1_1 c1_2 c1_3
  refine wp_region_par (by kernel_rfl) [24, 25, 26, 27, 28, 23, 29, 30, 5, 6] (fun L σ W => Vals [some 24, some 25, some 26, some 27, some 28, some 23, some 29, some 30, some 5, some 6] [(.agg #[.int .i8 x1, .int .i8 y1, .int .i8 z1, .int .u8 b1]), (.agg #[.string A1, .string A2, .string A3]), (.agg #[.int .i8 x2, .int .i8 y2, .int .i8 z2, .int .u8 b2]), (.agg #[.string C1, .string C2, .string C3]), (.tuple #[.int .i64 c, .int .i64 0]), (.tuple #[.int .i64 c, .int .i64 0]), (.int .i64 c), (.int .i64 0), (.int .i64 c), (.int .i64 0)] L σ ∧ Blk W (w.heap.size) #[.int .i8 x1, .int .i8 y1, .int .i8 z1, .int .u8 b1] 24 ∧ Blk W (w.heap.size + 1) #[.int .i8 x2, .int .i8 y2, .int .i8 z2, .int .u8 b2] 24 ∧ Below w.heap.size w W) (by kernel_rfl) (by kernel_rfl) (by kernel_rfl) ?_ ?_ ?_
  · exact fun σ => ⟨Vals.start, K0.out.below (Below.refl _ _).drew, K1.out.below (Below.refl _ _).drew, B.out.drew⟩
  · refine ⟨?_, ?_, ?_, ?_, ?_, ?_, ?_, ?_, ?_, ?_, trivial⟩
    · rintro L a W ho ⟨V, jb0, jb1, bb⟩ hn hd K hK
      clear hd
      refine Wants.free rfl ?_
      have jr2 : a.tmps[(2 : Nat)]?.getD undef = .pointer (some ⟨w.heap.size, 0, none⟩) := ho.slot 2 rfl
      have jc0 := jb0.at_ 0 _ rfl
      have jc1 := jb0.at_ 1 _ rfl
      have jc2 := jb0.at_ 2 _ rfl
      have jc3 := jb0.at_ 3 _ rfl
      go_simp
      exact hK.out (.agg #[.int .i8 x1, .int .i8 y1, .int .i8 z1, .int .u8 b1]) _ ⟨V.set 0 _ _ rfl rfl rfl, jb0, jb1, bb⟩
    · rintro L a W ho ⟨V, jb0, jb1, bb⟩ hn hd K hK
      have jh0 := hd.get 0 rfl
      clear hd
      refine Wants.free rfl ?_
      have jr24 := V.read 0 rfl rfl jh0
      go_simp
      go_at_call 16
      with_reducible refine (M1.out _ bb).mono ?_
      rintro e wx ⟨rfl, q⟩
      go_simp
      exact hK.out (.agg #[.string A1, .string A2, .string A3]) _ ⟨V.set 1 _ _ rfl rfl rfl, jb0.below q, jb1.below q, bb.trans (q.mono bb.size)⟩
    · rintro L a W ho ⟨V, jb0, jb1, bb⟩ hn hd K hK
      clear hd
      refine Wants.free rfl ?_
      have jr3 : a.tmps[(3 : Nat)]?.getD undef = .pointer (some ⟨w.heap.size + 1, 0, none⟩) := ho.slot 3 rfl
      have jc0 := jb1.at_ 0 _ rfl
      have jc1 := jb1.at_ 1 _ rfl
      have jc2 := jb1.at_ 2 _ rfl
      have jc3 := jb1.at_ 3 _ rfl
      go_simp
      exact hK.out (.agg #[.int .i8 x2, .int .i8 y2, .int .i8 z2, .int .u8 b2]) _ ⟨V.set 2 _ _ rfl rfl rfl, jb0, jb1, bb⟩
    · rintro L a W ho ⟨V, jb0, jb1, bb⟩ hn hd K hK
      have jh2 := hd.get 2 rfl
      clear hd
      refine Wants.free rfl ?_
      have jr26 := V.read 2 rfl rfl jh2
      go_simp
      go_at_call 16
      with_reducible refine (M2.out _ bb).mono ?_
      rintro e wx ⟨rfl, q⟩
      go_simp
      exact hK.out (.agg #[.string C1, .string C2, .string C3]) _ ⟨V.set 3 _ _ rfl rfl rfl, jb0.below q, jb1.below q, bb.trans (q.mono bb.size)⟩
    · rintro L a W ho ⟨V, jb0, jb1, bb⟩ hn hd K hK
      have jh1 := hd.get 1 rfl
      have jh3 := hd.get 3 rfl
      clear hd
      refine Wants.free rfl ?_
      have jr25 := V.read 1 rfl rfl jh1
      have jr27 := V.read 3 rfl rfl jh3
      go_simp
      go_at_call 15
      with_reducible refine (O1.out _ bb).mono ?_
      rintro e wx ⟨rfl, q⟩
      go_simp
      exact hK.out (.tuple #[.int .i64 c, .int .i64 0]) _ ⟨V.set 4 _ _ rfl rfl rfl, jb0.below q, jb1.below q, bb.trans (q.mono bb.size)⟩
    · rintro L a W ho ⟨V, jb0, jb1, bb⟩ hn hd K hK
      have jh4 := hd.get 4 rfl
      clear hd
      refine Wants.free rfl ?_
      have jr28 := V.read 4 rfl rfl jh4
      go_simp
      exact hK.out (.tuple #[.int .i64 c, .int .i64 0]) _ ⟨V.set 5 _ _ rfl rfl rfl, jb0, jb1, bb⟩
    · rintro L a W ho ⟨V, jb0, jb1, bb⟩ hn hd K hK
      have jh5 := hd.get 5 rfl
      clear hd
      refine Wants.free rfl ?_
      have jr23 := V.read 5 rfl rfl jh5
      go_simp
      exact hK.out (.int .i64 c) _ ⟨V.set 6 _ _ rfl rfl rfl, jb0, jb1, bb⟩
    · rintro L a W ho ⟨V, jb0, jb1, bb⟩ hn hd K hK
      have jh5 := hd.get 5 rfl
      clear hd
      refine Wants.free rfl ?_
      have jr23 := V.read 5 rfl rfl jh5
      go_simp
      exact hK.out (.int .i64 0) _ ⟨V.set 7 _ _ rfl rfl rfl, jb0, jb1, bb⟩
    · rintro L a W ho ⟨V, jb0, jb1, bb⟩ hn hd K hK
      have jh6 := hd.get 6 rfl
      clear hd
      refine Wants.free rfl ?_
      have jr29 := V.read 6 rfl rfl jh6
      go_simp
      exact hK.out (.int .i64 c) _ ⟨V.set 8 _ _ rfl rfl rfl, jb0, jb1, bb⟩
    · rintro L a W ho ⟨V, jb0, jb1, bb⟩ hn hd K hK
      have jh7 := hd.get 7 rfl
      clear hd
      refine Wants.free rfl ?_
      have jr30 := V.read 7 rfl rfl jh7
      go_simp
      exact hK.out (.int .i64 0) _ ⟨V.set 9 _ _ rfl rfl rfl, jb0, jb1, bb⟩
  rintro L σ W ⟨V, jb0, jb1, bb⟩ hL
  have jf0 := V 0 _ _ rfl rfl (hL 0 (by decide))
  have jf1 := V 1 _ _ rfl rfl (hL 1 (by decide))
  have jf2 := V 2 _ _ rfl rfl (hL 2 (by decide))
  have jf3 := V 3 _ _ rfl rfl (hL 3 (by decide))
  have jf4 := V 4 _ _ rfl rfl (hL 4 (by decide))
  have jf5 := V 5 _ _ rfl rfl (hL 5 (by decide))
  have jf6 := V 6 _ _ rfl rfl (hL 6 (by decide))
  have jf7 := V 7 _ _ rfl rfl (hL 7 (by decide))
  have jf8 := V 8 _ _ rfl rfl (hL 8 (by decide))
  have jf9 := V 9 _ _ rfl rfl (hL 9 (by decide))
  clear V
  clear hL
  rw [show List.map σ [24, 25, 26, 27, 28, 23, 29, 30, 5, 6] = [σ 24, σ 25, σ 26, σ 27, σ 28, σ 23, σ 29, σ 30, σ 5, σ 6] from rfl, jf0, jf1, jf2, jf3, jf4, jf5, jf6, jf7, jf8, jf9]
  clear jf0 jf1 jf2 jf3 jf4 jf5 jf6 jf7 jf8 jf9
  simp only [putAll, List.map, Act.put, List.setIfInBounds_toArray, List.set_cons_succ, List.set_cons_zero]
  replace K0 := Lib.hid jb0
  replace K1 := Lib.hid jb1
  replace B := Lib.hid bb
  clear bb jb0 jb1
  have c0_0 := K0.out.at_ 0 _ rfl
  have c0_1 := K0.out.at_ 1 _ rfl
  have c0_2 := K0.out.at_ 2 _ rfl
  have c0_3 := K0.out.at_ 3 _ rfl
  have c1_0 := K1.out.at_ 0 _ rfl
  have c1_1 := K1.out.at_ 1 _ rfl
  have c1_2 := K1.out.at_ 2 _ rfl
  have c1_3 := K1.out.at_ 3 _ rfl
  go_upto_region 4 with (fail)
  clear c0_0 c0_1 c0_2 c0_3 c1_0 c1_1 c1_2 c1_3
  refine wp_region_par (by kernel_rfl) [31, 32, 33, 34, 35, 36, 37, 38, 39, 40, 41, 42, 43, 44, 45, 46, 7, 8] (fun L σ W => Vals [some 31, some 32, some 33, some 34, some 35, some 36, some 37, some 38, some 39, some 40, some 41, some 42, some 43, some 44, some 45, some 46, some 7, some 8] [(.agg #[.int .i8 x1, .int .i8 y1, .int .i8 z1, .int .u8 b1]), (.agg #[.int .i64 p1, .int .i64 p2, .int .i64 p3]), (.agg #[.int .i8 x2, .int .i8 y2, .int .i8 z2, .int .u8 b2]), (.agg #[.int .i64 q1, .int .i64 q2, .int .i64 q3]), (.int .i64 d), (.agg #[.int .i8 x1, .int .i8 y1, .int .i8 z1, .int .u8 b1]), (.agg #[.int .i64 p1, .int .i64 p2, .int .i64 p3]), (.agg #[.int .i8 x1, .int .i8 y1, .int .i8 z1, .int .u8 b1]), (.agg #[.int .i64 p1, .int .i64 p2, .int .i64 p3]), (.int .i64 s), (.agg #[.int .i8 x2, .int .i8 y2, .int .i8 z2, .int .u8 b2]), (.agg #[.int .i64 q1, .int .i64 q2, .int .i64 q3]), (.agg #[.int .i8 x2, .int .i8 y2, .int .i8 z2, .int .u8 b2]), (.agg #[.int .i64 q1, .int .i64 q2, .int .i64 q3]), (.int .i64 t), (.int .i64 (s * t)), (.int .i64 d), (.int .i64 (s * t))] L σ ∧ Blk W (w.heap.size) #[.int .i8 x1, .int .i8 y1, .int .i8 z1, .int .u8 b1] 24 ∧ Blk W (w.heap.size + 1) #[.int .i8 x2, .int .i8 y2, .int .i8 z2, .int .u8 b2] 24 ∧ Below w.heap.size w W) (by kernel_rfl) (by kernel_rfl) (by kernel_rfl) ?_ ?_ ?_
  · exact fun σ => ⟨Vals.start, K0.out.below (Below.refl _ _).drew, K1.out.below (Below.refl _ _).drew, B.out.drew⟩
  · refine ⟨?_, ?_, ?_, ?_, ?_, ?_, ?_, ?_, ?_, ?_, ?_, ?_, ?_, ?_, ?_, ?_, ?_, ?_, trivial⟩
    · rintro L a W ho ⟨V, jb0, jb1, bb⟩ hn hd K hK
      clear hd
      refine Wants.free rfl ?_
      have jr2 : a.tmps[(2 : Nat)]?.getD undef = .pointer (some ⟨w.heap.size, 0, none⟩) := ho.slot 2 rfl
      have jc0 := jb0.at_ 0 _ rfl
      have jc1 := jb0.at_ 1 _ rfl
      have jc2 := jb0.at_ 2 _ rfl
      have jc3 := jb0.at_ 3 _ rfl
      go_simp
      exact hK.out (.agg #[.int .i8 x1, .int .i8 y1, .int .i8 z1, .int .u8 b1]) _ ⟨V.set 0 _ _ rfl rfl rfl, jb0, jb1, bb⟩
    · rintro L a W ho ⟨V, jb0, jb1, bb⟩ hn hd K hK
      have jh0 := hd.get 0 rfl
      clear hd
      refine Wants.free rfl ?_
      have jr31 := V.read 0 rfl rfl jh0
      go_simp
      go_at_call 14
      with_reducible refine (I1.out _ bb).mono ?_
      rintro e wx ⟨rfl, q⟩
      go_simp
      exact hK.out (.agg #[.int .i64 p1, .int .i64 p2, .int .i64 p3]) _ ⟨V.set 1 _ _ rfl rfl rfl, jb0.below q, jb1.below q, bb.trans (q.mono bb.size)⟩
    · rintro L a W ho ⟨V, jb0, jb1, bb⟩ hn hd K hK
      clear hd
      refine Wants.free rfl ?_
      have jr3 : a.tmps[(3 : Nat)]?.getD undef = .pointer (some ⟨w.heap.size + 1, 0, none⟩) := ho.slot 3 rfl
      have jc0 := jb1.at_ 0 _ rfl
      have jc1 := jb1.at_ 1 _ rfl
      have jc2 := jb1.at_ 2 _ rfl
      have jc3 := jb1.at_ 3 _ rfl
      go_simp
      exact hK.out (.agg #[.int .i8 x2, .int .i8 y2, .int .i8 z2, .int .u8 b2]) _ ⟨V.set 2 _ _ rfl rfl rfl, jb0, jb1, bb⟩
    · rintro L a W ho ⟨V, jb0, jb1, bb⟩ hn hd K hK
      have jh2 := hd.get 2 rfl
      clear hd
      refine Wants.free rfl ?_
      have jr33 := V.read 2 rfl rfl jh2
      go_simp
      go_at_call 14
      with_reducible refine (I2.out _ bb).mono ?_
      rintro e wx ⟨rfl, q⟩
      go_simp
      exact hK.out (.agg #[.int .i64 q1, .int .i64 q2, .int .i64 q3]) _ ⟨V.set 3 _ _ rfl rfl rfl, jb0.below q, jb1.below q, bb.trans (q.mono bb.size)⟩
    · rintro L a W ho ⟨V, jb0, jb1, bb⟩ hn hd K hK
      have jh1 := hd.get 1 rfl
      have jh3 := hd.get 3 rfl
      clear hd
      refine Wants.free rfl ?_
      have jr32 := V.read 1 rfl rfl jh1
      have jr34 := V.read 3 rfl rfl jh3
      go_simp
      go_at_call 17
      with_reducible refine (T1.out _ bb).mono ?_
      rintro e wx ⟨rfl, q⟩
      go_simp
      exact hK.out (.int .i64 d) _ ⟨V.set 4 _ _ rfl rfl rfl, jb0.below q, jb1.below q, bb.trans (q.mono bb.size)⟩
    · rintro L a W ho ⟨V, jb0, jb1, bb⟩ hn hd K hK
      clear hd
      refine Wants.free rfl ?_
      have jr2 : a.tmps[(2 : Nat)]?.getD undef = .pointer (some ⟨w.heap.size, 0, none⟩) := ho.slot 2 rfl
      have jc0 := jb0.at_ 0 _ rfl
      have jc1 := jb0.at_ 1 _ rfl
      have jc2 := jb0.at_ 2 _ rfl
      have jc3 := jb0.at_ 3 _ rfl
      go_simp
      exact hK.out (.agg #[.int .i8 x1, .int .i8 y1, .int .i8 z1, .int .u8 b1]) _ ⟨V.set 5 _ _ rfl rfl rfl, jb0, jb1, bb⟩
    · rintro L a W ho ⟨V, jb0, jb1, bb⟩ hn hd K hK
      have jh5 := hd.get 5 rfl
      clear hd
      refine Wants.free rfl ?_
      have jr36 := V.read 5 rfl rfl jh5
      go_simp
      go_at_call 14
      with_reducible refine (I1.out _ bb).mono ?_
      rintro e wx ⟨rfl, q⟩
      go_simp
      exact hK.out (.agg #[.int .i64 p1, .int .i64 p2, .int .i64 p3]) _ ⟨V.set 6 _ _ rfl rfl rfl, jb0.below q, jb1.below q, bb.trans (q.mono bb.size)⟩
    · rintro L a W ho ⟨V, jb0, jb1, bb⟩ hn hd K hK
      clear hd
      refine Wants.free rfl ?_
      have jr2 : a.tmps[(2 : Nat)]?.getD undef = .pointer (some ⟨w.heap.size, 0, none⟩) := ho.slot 2 rfl
      have jc0 := jb0.at_ 0 _ rfl
      have jc1 := jb0.at_ 1 _ rfl
      have jc2 := jb0.at_ 2 _ rfl
      have jc3 := jb0.at_ 3 _ rfl
      go_simp
      exact hK.out (.agg #[.int .i8 x1, .int .i8 y1, .int .i8 z1, .int .u8 b1]) _ ⟨V.set 7 _ _ rfl rfl rfl, jb0, jb1, bb⟩
    · rintro L a W ho ⟨V, jb0, jb1, bb⟩ hn hd K hK
      have jh7 := hd.get 7 rfl
      clear hd
      refine Wants.free rfl ?_
      have jr38 := V.read 7 rfl rfl jh7
      go_simp
      go_at_call 14
      with_reducible refine (I1.out _ bb).mono ?_
      rintro e wx ⟨rfl, q⟩
      go_simp
      exact hK.out (.agg #[.int .i64 p1, .int .i64 p2, .int .i64 p3]) _ ⟨V.set 8 _ _ rfl rfl rfl, jb0.below q, jb1.below q, bb.trans (q.mono bb.size)⟩
    · rintro L a W ho ⟨V, jb0, jb1, bb⟩ hn hd K hK
      have jh6 := hd.get 6 rfl
      have jh8 := hd.get 8 rfl
      clear hd
      refine Wants.free rfl ?_
      have jr37 := V.read 6 rfl rfl jh6
      have jr39 := V.read 8 rfl rfl jh8
      go_simp
      go_at_call 17
      with_reducible refine (T2.out _ bb).mono ?_
      rintro e wx ⟨rfl, q⟩
      go_simp
      exact hK.out (.int .i64 s) _ ⟨V.set 9 _ _ rfl rfl rfl, jb0.below q, jb1.below q, bb.trans (q.mono bb.size)⟩
    · rintro L a W ho ⟨V, jb0, jb1, bb⟩ hn hd K hK
      clear hd
      refine Wants.free rfl ?_
      have jr3 : a.tmps[(3 : Nat)]?.getD undef = .pointer (some ⟨w.heap.size + 1, 0, none⟩) := ho.slot 3 rfl
      have jc0 := jb1.at_ 0 _ rfl
      have jc1 := jb1.at_ 1 _ rfl
      have jc2 := jb1.at_ 2 _ rfl
      have jc3 := jb1.at_ 3 _ rfl
      go_simp
      exact hK.out (.agg #[.int .i8 x2, .int .i8 y2, .int .i8 z2, .int .u8 b2]) _ ⟨V.set 10 _ _ rfl rfl rfl, jb0, jb1, bb⟩
    · rintro L a W ho ⟨V, jb0, jb1, bb⟩ hn hd K hK
      have jh10 := hd.get 10 rfl
      clear hd
      refine Wants.free rfl ?_
      have jr41 := V.read 10 rfl rfl jh10
      go_simp
      go_at_call 14
      with_reducible refine (I2.out _ bb).mono ?_
      rintro e wx ⟨rfl, q⟩
      go_simp
      exact hK.out (.agg #[.int .i64 q1, .int .i64 q2, .int .i64 q3]) _ ⟨V.set 11 _ _ rfl rfl rfl, jb0.below q, jb1.below q, bb.trans (q.mono bb.size)⟩
    · rintro L a W ho ⟨V, jb0, jb1, bb⟩ hn hd K hK
      clear hd
      refine Wants.free rfl ?_
      have jr3 : a.tmps[(3 : Nat)]?.getD undef = .pointer (some ⟨w.heap.size + 1, 0, none⟩) := ho.slot 3 rfl
      have jc0 := jb1.at_ 0 _ rfl
      have jc1 := jb1.at_ 1 _ rfl
      have jc2 := jb1.at_ 2 _ rfl
      have jc3 := jb1.at_ 3 _ rfl
      go_simp
      exact hK.out (.agg #[.int .i8 x2, .int .i8 y2, .int .i8 z2, .int .u8 b2]) _ ⟨V.set 12 _ _ rfl rfl rfl, jb0, jb1, bb⟩
    · rintro L a W ho ⟨V, jb0, jb1, bb⟩ hn hd K hK
      have jh12 := hd.get 12 rfl
      clear hd
      refine Wants.free rfl ?_
      have jr43 := V.read 12 rfl rfl jh12
      go_simp
      go_at_call 14
      with_reducible refine (I2.out _ bb).mono ?_
      rintro e wx ⟨rfl, q⟩
      go_simp
      exact hK.out (.agg #[.int .i64 q1, .int .i64 q2, .int .i64 q3]) _ ⟨V.set 13 _ _ rfl rfl rfl, jb0.below q, jb1.below q, bb.trans (q.mono bb.size)⟩
    · rintro L a W ho ⟨V, jb0, jb1, bb⟩ hn hd K hK
      have jh11 := hd.get 11 rfl
      have jh13 := hd.get 13 rfl
      clear hd
      refine Wants.free rfl ?_
      have jr42 := V.read 11 rfl rfl jh11
      have jr44 := V.read 13 rfl rfl jh13
      go_simp
      go_at_call 17
      with_reducible refine (T3.out _ bb).mono ?_
      rintro e wx ⟨rfl, q⟩
      go_simp
      exact hK.out (.int .i64 t) _ ⟨V.set 14 _ _ rfl rfl rfl, jb0.below q, jb1.below q, bb.trans (q.mono bb.size)⟩
    · rintro L a W ho ⟨V, jb0, jb1, bb⟩ hn hd K hK
      have jh9 := hd.get 9 rfl
      have jh14 := hd.get 14 rfl
      clear hd
      refine Wants.free rfl ?_
      have jr40 := V.read 9 rfl rfl jh9
      have jr45 := V.read 14 rfl rfl jh14
      go_simp
      exact hK.out (.int .i64 (s * t)) _ ⟨V.set 15 _ _ rfl rfl rfl, jb0, jb1, bb⟩
    · rintro L a W ho ⟨V, jb0, jb1, bb⟩ hn hd K hK
      have jh4 := hd.get 4 rfl
      clear hd
      refine Wants.free rfl ?_
      have jr35 := V.read 4 rfl rfl jh4
      go_simp
      exact hK.out (.int .i64 d) _ ⟨V.set 16 _ _ rfl rfl rfl, jb0, jb1, bb⟩
    · rintro L a W ho ⟨V, jb0, jb1, bb⟩ hn hd K hK
      have jh15 := hd.get 15 rfl
      clear hd
      refine Wants.free rfl ?_
      have jr46 := V.read 15 rfl rfl jh15
      go_simp
      exact hK.out (.int .i64 (s * t)) _ ⟨V.set 17 _ _ rfl rfl rfl, jb0, jb1, bb⟩
  rintro L σ W ⟨V, jb0, jb1, bb⟩ hL
  have jf0 := V 0 _ _ rfl rfl (hL 0 (by decide))
  have jf1 := V 1 _ _ rfl rfl (hL 1 (by decide))
  have jf2 := V 2 _ _ rfl rfl (hL 2 (by decide))
  have jf3 := V 3 _ _ rfl rfl (hL 3 (by decide))
  have jf4 := V 4 _ _ rfl rfl (hL 4 (by decide))
  have jf5 := V 5 _ _ rfl rfl (hL 5 (by decide))
  have jf6 := V 6 _ _ rfl rfl (hL 6 (by decide))
  have jf7 := V 7 _ _ rfl rfl (hL 7 (by decide))
  have jf8 := V 8 _ _ rfl rfl (hL 8 (by decide))
  have jf9 := V 9 _ _ rfl rfl (hL 9 (by decide))
  have jf10 := V 10 _ _ rfl rfl (hL 10 (by decide))
  have jf11 := V 11 _ _ rfl rfl (hL 11 (by decide))
  have jf12 := V 12 _ _ rfl rfl (hL 12 (by decide))
  have jf13 := V 13 _ _ rfl rfl (hL 13 (by decide))
  have jf14 := V 14 _ _ rfl rfl (hL 14 (by decide))
  have jf15 := V 15 _ _ rfl rfl (hL 15 (by decide))
  have jf16 := V 16 _ _ rfl rfl (hL 16 (by decide))
  have jf17 := V 17 _ _ rfl rfl (hL 17 (by decide))
  clear V
  clear hL
  rw [show List.map σ [31, 32, 33, 34, 35, 36, 37, 38, 39, 40, 41, 42, 43, 44, 45, 46, 7, 8] = [σ 31, σ 32, σ 33, σ 34, σ 35, σ 36, σ 37, σ 38, σ 39, σ 40, σ 41, σ 42, σ 43, σ 44, σ 45, σ 46, σ 7, σ 8] from rfl, jf0, jf1, jf2, jf3, jf4, jf5, jf6, jf7, jf8, jf9, jf10, jf11, jf12, jf13, jf14, jf15, jf16, jf17]
  clear jf0 jf1 jf2 jf3 jf4 jf5 jf6 jf7 jf8 jf9 jf10 jf11 jf12 jf13 jf14 jf15 jf16 jf17
  simp only [putAll, List.map, Act.put, List.setIfInBounds_toArray, List.set_cons_succ, List.set_cons_zero]
  replace K0 := Lib.hid jb0
  replace K1 := Lib.hid jb1
  replace B := Lib.hid bb
  clear bb jb0 jb1
  have c0_0 := K0.out.at_ 0 _ rfl
  have c0_1 := K0.out.at_ 1 _ rfl
  have c0_2 := K0.out.at_ 2 _ rfl
  have c0_3 := K0.out.at_ 3 _ rfl
  have c1_0 := K1.out.at_ 0 _ rfl
  have c1_1 := K1.out.at_ 1 _ rfl
  have c1_2 := K1.out.at_ 2 _ rfl
  have c1_3 := K1.out.at_ 3 _ rfl
  rcases hc with ⟨a1, a2, rfl⟩ | ⟨a1, a2, rfl⟩ | ⟨a1, a2, rfl⟩ | ⟨a1, a2, a3, rfl⟩ | ⟨a1, a2, a3, rfl⟩
  all_goals
    go_wp2
    go_ret
    exact ⟨rfl, B.out⟩

end Go.Proofs.YtajkeoapfkkjbaaGreatDoor
