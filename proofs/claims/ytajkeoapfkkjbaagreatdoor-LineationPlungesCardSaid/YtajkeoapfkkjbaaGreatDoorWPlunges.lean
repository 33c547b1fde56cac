/- The walk of LineationPlunges, over texts and ints. -/
import Derived.Test.YtajkeoapfkkjbaaGreatDoorShelf
import Derived.Test.YtajkeoapfkkjbaaGreatDoorPar
import Derived.Deep.RegionHeld3
import Derived.Laws.ResultCell
import Derived.Deep.Cut
import Derived.Deep.CutRange
import Derived.Deep.DeepCutAuto
import Derived.Outline
namespace Go.Proofs.YtajkeoapfkkjbaaGreatDoor
set_option linter.all false
open Go.RowKit

set_option maxRecDepth 100000 in
set_option maxHeartbeats 4000000 in
theorem plunges_z1 (x1 y1 z1 b1 x2 y2 z2 b2 p1 p2 p3 : Int) (w : World)
    (kn : ∀ W, Below w.heap.size w W → Calls Tryz.prog 12 #[] W fun e w' => e = .returned (.bool true) ∧ Below W.heap.size W w')
    (i1 : ∀ W, Below w.heap.size w W → Calls Tryz.prog 14 #[.agg #[.int .i8 x1, .int .i8 y1, .int .i8 z1, .int .u8 b1]] W fun e w' => e = .returned (.agg #[.int .i64 p1, .int .i64 p2, .int .i64 p3]) ∧ Below W.heap.size W w')
    (s1 : ∀ W, Below w.heap.size w W → Calls Tryz.prog 13 #[.agg #[.int .i64 p1, .int .i64 p2, .int .i64 p3]] W fun e w' => e = .returned (.bool true) ∧ Below W.heap.size W w') :
    Calls Tryz.prog 10 #[.agg #[.int .i8 x1, .int .i8 y1, .int .i8 z1, .int .u8 b1], .agg #[.int .i8 x2, .int .i8 y2, .int .i8 z2, .int .u8 b2]] w fun e w' => e = .returned (.bool true) ∧ Below w.heap.size w w' := by
  have KN := Lib.hid kn
  have I1 := Lib.hid i1
  have S1 := Lib.hid s1
  clear kn i1 s1
  have k0 := Blk.fresh w #[.int .i8 x1, .int .i8 y1, .int .i8 z1, .int .u8 b1] 24
  replace k0 := k0.alloc (Obj.cells #[.int .i8 x2, .int .i8 y2, .int .i8 z2, .int .u8 b2] 24)
  have k1 := Blk.fresh (w.alloc (Obj.cells #[.int .i8 x1, .int .i8 y1, .int .i8 z1, .int .u8 b1] 24)) #[.int .i8 x2, .int .i8 y2, .int .i8 z2, .int .u8 b2] 24
  rw [show (w.alloc (Obj.cells #[.int .i8 x1, .int .i8 y1, .int .i8 z1, .int .u8 b1] 24)).heap.size = w.heap.size + 1 from World.size_alloc ..] at k1
  have jb0 : Below w.heap.size w ((w.alloc (Obj.cells #[.int .i8 x1, .int .i8 y1, .int .i8 z1, .int .u8 b1] 24)).alloc (Obj.cells #[.int .i8 x2, .int .i8 y2, .int .i8 z2, .int .u8 b2] 24)) := (((Below.refl _ _).alloc (Nat.le_refl _) _).alloc (by simp; try omega) _)
  have K0 := Lib.hid k0
  have K1 := Lib.hid k1
  have B := Lib.hid jb0
  clear jb0 k0 k1
  go_enter Tryz.func10, Tryz.ntmps10
  go_upto_region 1 with (fail)
  generalize ((w.alloc (Obj.cells #[.int .i8 x1, .int .i8 y1, .int .i8 z1, .int .u8 b1] 24)).alloc (Obj.cells #[.int .i8 x2, .int .i8 y2, .int .i8 z2, .int .u8 b2] 24)) = W0 at *
  have c0_0 := K0.out.at_ 0 _ rfl
  have c0_1 := K0.out.at_ 1 _ rfl
  have c0_2 := K0.out.at_ 2 _ rfl
  have c0_3 := K0.out.at_ 3 _ rfl
  have c1_0 := K1.out.at_ 0 _ rfl
  have c1_1 := K1.out.at_ 1 _ rfl
  have c1_2 := K1.out.at_ 2 _ rfl
  have c1_3 := K1.out.at_ 3 _ rfl
  go_wp2_with (
   (first
    | (go_at_call 12; with_reducible refine (KN.out _ (baseI B.out)).mono ?_)
    | (go_at_call 14; with_reducible refine (I1.out _ (baseI B.out)).mono ?_)
    | (go_at_call 13; with_reducible refine (S1.out _ (baseI B.out)).mono ?_)
    | fail "arm"); rintro e wx ⟨rfl, q⟩; replace K0 := Lib.hid (K0.out.nearI q); replace K1 := Lib.hid (K1.out.nearI q); replace B := Lib.hid (goI B.out q); clear q; replace c0_0 := K0.out.at_ 0 _ rfl; replace c0_1 := K0.out.at_ 1 _ rfl; replace c0_2 := K0.out.at_ 2 _ rfl; replace c0_3 := K0.out.at_ 3 _ rfl; replace c1_0 := K1.out.at_ 0 _ rfl; replace c1_1 := K1.out.at_ 1 _ rfl; replace c1_2 := K1.out.at_ 2 _ rfl; replace c1_3 := K1.out.at_ 3 _ rfl)
  go_ret
  exact ⟨rfl, B.out⟩

set_option maxRecDepth 100000 in
set_option maxHeartbeats 4000000 in
theorem plunges_z2 (x1 y1 z1 b1 x2 y2 z2 b2 p1 p2 p3 q1 q2 q3 : Int) (w : World)
    (kn : ∀ W, Below w.heap.size w W → Calls Tryz.prog 12 #[] W fun e w' => e = .returned (.bool true) ∧ Below W.heap.size W w')
    (i1 : ∀ W, Below w.heap.size w W → Calls Tryz.prog 14 #[.agg #[.int .i8 x1, .int .i8 y1, .int .i8 z1, .int .u8 b1]] W fun e w' => e = .returned (.agg #[.int .i64 p1, .int .i64 p2, .int .i64 p3]) ∧ Below W.heap.size W w')
    (s1 : ∀ W, Below w.heap.size w W → Calls Tryz.prog 13 #[.agg #[.int .i64 p1, .int .i64 p2, .int .i64 p3]] W fun e w' => e = .returned (.bool false) ∧ Below W.heap.size W w')
    (i2 : ∀ W, Below w.heap.size w W → Calls Tryz.prog 14 #[.agg #[.int .i8 x2, .int .i8 y2, .int .i8 z2, .int .u8 b2]] W fun e w' => e = .returned (.agg #[.int .i64 q1, .int .i64 q2, .int .i64 q3]) ∧ Below W.heap.size W w')
    (s2 : ∀ W, Below w.heap.size w W → Calls Tryz.prog 13 #[.agg #[.int .i64 q1, .int .i64 q2, .int .i64 q3]] W fun e w' => e = .returned (.bool true) ∧ Below W.heap.size W w') :
    Calls Tryz.prog 10 #[.agg #[.int .i8 x1, .int .i8 y1, .int .i8 z1, .int .u8 b1], .agg #[.int .i8 x2, .int .i8 y2, .int .i8 z2, .int .u8 b2]] w fun e w' => e = .returned (.bool true) ∧ Below w.heap.size w w' := by
  have KN := Lib.hid kn
  have I1 := Lib.hid i1
  have S1 := Lib.hid s1
  have I2 := Lib.hid i2
  have S2 := Lib.hid s2
  clear kn i1 s1 i2 s2
  have k0 := Blk.fresh w #[.int .i8 x1, .int .i8 y1, .int .i8 z1, .int .u8 b1] 24
  replace k0 := k0.alloc (Obj.cells #[.int .i8 x2, .int .i8 y2, .int .i8 z2, .int .u8 b2] 24)
  have k1 := Blk.fresh (w.alloc (Obj.cells #[.int .i8 x1, .int .i8 y1, .int .i8 z1, .int .u8 b1] 24)) #[.int .i8 x2, .int .i8 y2, .int .i8 z2, .int .u8 b2] 24
  rw [show (w.alloc (Obj.cells #[.int .i8 x1, .int .i8 y1, .int .i8 z1, .int .u8 b1] 24)).heap.size = w.heap.size + 1 from World.size_alloc ..] at k1
  have jb0 : Below w.heap.size w ((w.alloc (Obj.cells #[.int .i8 x1, .int .i8 y1, .int .i8 z1, .int .u8 b1] 24)).alloc (Obj.cells #[.int .i8 x2, .int .i8 y2, .int .i8 z2, .int .u8 b2] 24)) := (((Below.refl _ _).alloc (Nat.le_refl _) _).alloc (by simp; try omega) _)
  have K0 := Lib.hid k0
  have K1 := Lib.hid k1
  have B := Lib.hid jb0
  clear jb0 k0 k1
  go_enter Tryz.func10, Tryz.ntmps10
  go_upto_region 1 with (fail)
  generalize ((w.alloc (Obj.cells #[.int .i8 x1, .int .i8 y1, .int .i8 z1, .int .u8 b1] 24)).alloc (Obj.cells #[.int .i8 x2, .int .i8 y2, .int .i8 z2, .int .u8 b2] 24)) = W0 at *
  have c0_0 := K0.out.at_ 0 _ rfl
  have c0_1 := K0.out.at_ 1 _ rfl
  have c0_2 := K0.out.at_ 2 _ rfl
  have c0_3 := K0.out.at_ 3 _ rfl
  have c1_0 := K1.out.at_ 0 _ rfl
  have c1_1 := K1.out.at_ 1 _ rfl
  have c1_2 := K1.out.at_ 2 _ rfl
  have c1_3 := K1.out.at_ 3 _ rfl
  go_wp2_with (
   (first
    | (go_at_call 12; with_reducible refine (KN.out _ (baseI B.out)).mono ?_)
    | (go_at_call 14; with_reducible refine (I1.out _ (baseI B.out)).mono ?_)
    | (go_at_call 13; with_reducible refine (S1.out _ (baseI B.out)).mono ?_)
    | (go_at_call 14; with_reducible refine (I2.out _ (baseI B.out)).mono ?_)
    | (go_at_call 13; with_reducible refine (S2.out _ (baseI B.out)).mono ?_)
    | fail "arm"); rintro e wx ⟨rfl, q⟩; replace K0 := Lib.hid (K0.out.nearI q); replace K1 := Lib.hid (K1.out.nearI q); replace B := Lib.hid (goI B.out q); clear q; replace c0_0 := K0.out.at_ 0 _ rfl; replace c0_1 := K0.out.at_ 1 _ rfl; replace c0_2 := K0.out.at_ 2 _ rfl; replace c0_3 := K0.out.at_ 3 _ rfl; replace c1_0 := K1.out.at_ 0 _ rfl; replace c1_1 := K1.out.at_ 1 _ rfl; replace c1_2 := K1.out.at_ 2 _ rfl; replace c1_3 := K1.out.at_ 3 _ rfl)
  go_ret
  exact ⟨rfl, B.out⟩

set_option maxRecDepth 100000 in
set_option maxHeartbeats 20000000 in
theorem plunges_vert (x1 y1 z1 b1 x2 y2 z2 b2 p1 p2 p3 q1 q2 q3 c ga gb gd : Int) (A1 A2 A3 C1 C2 C3 : ByteArray) (w : World)
    (hc : (decide (gd < 0) = true ∧ c = -1) ∨ (decide (gd < 0) = false ∧ decide (gd > 0) = true ∧ c = 1) ∨ (decide (gd < 0) = false ∧ decide (gd > 0) = false ∧ c = 0))
    (hf : ((p1 * p1 + p2 * p2) == 0) = true)
    (k0 : IntKind.i64.wrap (p1 * p1) = p1 * p1)
    (k1 : IntKind.i64.wrap (p2 * p2) = p2 * p2)
    (k2 : IntKind.i64.wrap ((p1 * p1) + (p2 * p2)) = (p1 * p1) + (p2 * p2))
    (k3 : IntKind.i64.wrap (q1 * q1) = q1 * q1)
    (k4 : IntKind.i64.wrap (q2 * q2) = q2 * q2)
    (k5 : IntKind.i64.wrap ((q1 * q1) + (q2 * q2)) = (q1 * q1) + (q2 * q2))
    (k6 : IntKind.i64.wrap (p3 * p3) = p3 * p3)
    (k7 : IntKind.i64.wrap (q3 * q3) = q3 * q3)
    (k8 : IntKind.i64.wrap (p3 * p3 * (q1 * q1 + q2 * q2)) = ga)
    (k9 : IntKind.i64.wrap (q3 * q3 * (p1 * p1 + p2 * p2)) = gb)
    (k10 : IntKind.i64.wrap (ga - gb) = gd)
    (kn : ∀ W, Below w.heap.size w W → Calls Tryz.prog 12 #[] W fun e w' => e = .returned (.bool true) ∧ Below W.heap.size W w')
    (i1 : ∀ W, Below w.heap.size w W → Calls Tryz.prog 14 #[.agg #[.int .i8 x1, .int .i8 y1, .int .i8 z1, .int .u8 b1]] W fun e w' => e = .returned (.agg #[.int .i64 p1, .int .i64 p2, .int .i64 p3]) ∧ Below W.heap.size W w')
    (s1 : ∀ W, Below w.heap.size w W → Calls Tryz.prog 13 #[.agg #[.int .i64 p1, .int .i64 p2, .int .i64 p3]] W fun e w' => e = .returned (.bool false) ∧ Below W.heap.size W w')
    (i2 : ∀ W, Below w.heap.size w W → Calls Tryz.prog 14 #[.agg #[.int .i8 x2, .int .i8 y2, .int .i8 z2, .int .u8 b2]] W fun e w' => e = .returned (.agg #[.int .i64 q1, .int .i64 q2, .int .i64 q3]) ∧ Below W.heap.size W w')
    (s2 : ∀ W, Below w.heap.size w W → Calls Tryz.prog 13 #[.agg #[.int .i64 q1, .int .i64 q2, .int .i64 q3]] W fun e w' => e = .returned (.bool false) ∧ Below W.heap.size W w')
    (m1 : ∀ W, Below w.heap.size w W → Calls Tryz.prog 16 #[.agg #[.int .i8 x1, .int .i8 y1, .int .i8 z1, .int .u8 b1]] W fun e w' => e = .returned (.agg #[.string A1, .string A2, .string A3]) ∧ Below W.heap.size W w')
    (m2 : ∀ W, Below w.heap.size w W → Calls Tryz.prog 16 #[.agg #[.int .i8 x2, .int .i8 y2, .int .i8 z2, .int .u8 b2]] W fun e w' => e = .returned (.agg #[.string C1, .string C2, .string C3]) ∧ Below W.heap.size W w')
    (o1 : ∀ W, Below w.heap.size w W → Calls Tryz.prog 35 #[.agg #[.string A1, .string A2, .string A3]] W fun e w' => e = .returned (.tuple #[.string ⟨#[]⟩, .bool true, .int .i64 0]) ∧ Below W.heap.size W w')
    (o2 : ∀ W, Below w.heap.size w W → Calls Tryz.prog 36 #[.agg #[.string A1, .string A2, .string A3], .agg #[.string C1, .string C2, .string C3]] W fun e w' => e = .returned (.tuple #[.int .i64 c, .int .i64 0]) ∧ Below W.heap.size W w') :
    Calls Tryz.prog 10 #[.agg #[.int .i8 x1, .int .i8 y1, .int .i8 z1, .int .u8 b1], .agg #[.int .i8 x2, .int .i8 y2, .int .i8 z2, .int .u8 b2]] w fun e w' => e = .returned (.bool true) ∧ Below w.heap.size w w' := by
  have KN := Lib.hid kn
  have I1 := Lib.hid i1
  have S1 := Lib.hid s1
  have I2 := Lib.hid i2
  have S2 := Lib.hid s2
  have M1 := Lib.hid m1
  have M2 := Lib.hid m2
  have O1 := Lib.hid o1
  have O2 := Lib.hid o2
  clear kn i1 s1 i2 s2 m1 m2 o1 o2
  have k0 := Blk.fresh w #[.int .i8 x1, .int .i8 y1, .int .i8 z1, .int .u8 b1] 24
  replace k0 := k0.alloc (Obj.cells #[.int .i8 x2, .int .i8 y2, .int .i8 z2, .int .u8 b2] 24)
  have k1 := Blk.fresh (w.alloc (Obj.cells #[.int .i8 x1, .int .i8 y1, .int .i8 z1, .int .u8 b1] 24)) #[.int .i8 x2, .int .i8 y2, .int .i8 z2, .int .u8 b2] 24
  rw [show (w.alloc (Obj.cells #[.int .i8 x1, .int .i8 y1, .int .i8 z1, .int .u8 b1] 24)).heap.size = w.heap.size + 1 from World.size_alloc ..] at k1
  have jb0 : Below w.heap.size w ((w.alloc (Obj.cells #[.int .i8 x1, .int .i8 y1, .int .i8 z1, .int .u8 b1] 24)).alloc (Obj.cells #[.int .i8 x2, .int .i8 y2, .int .i8 z2, .int .u8 b2] 24)) := (((Below.refl _ _).alloc (Nat.le_refl _) _).alloc (by simp; try omega) _)
  have K0 := Lib.hid k0
  have K1 := Lib.hid k1
  have B := Lib.hid jb0
  clear jb0 k0 k1
  go_enter Tryz.func10, Tryz.ntmps10
  go_upto_region 1 with (fail)
  generalize ((w.alloc (Obj.cells #[.int .i8 x1, .int .i8 y1, .int .i8 z1, .int .u8 b1] 24)).alloc (Obj.cells #[.int .i8 x2, .int .i8 y2, .int .i8 z2, .int .u8 b2] 24)) = W0 at *
  have c0_0 := K0.out.at_ 0 _ rfl
  have c0_1 := K0.out.at_ 1 _ rfl
  have c0_2 := K0.out.at_ 2 _ rfl
  have c0_3 := K0.out.at_ 3 _ rfl
  have c1_0 := K1.out.at_ 0 _ rfl
  have c1_1 := K1.out.at_ 1 _ rfl
  have c1_2 := K1.out.at_ 2 _ rfl
  have c1_3 := K1.out.at_ 3 _ rfl
  go_upto_region 3 with (
   (first
    | (go_at_call 12; with_reducible refine (KN.out _ (baseI B.out)).mono ?_)
    | (go_at_call 14; with_reducible refine (I1.out _ (baseI B.out)).mono ?_)
    | (go_at_call 13; with_reducible refine (S1.out _ (baseI B.out)).mono ?_)
    | (go_at_call 14; with_reducible refine (I2.out _ (baseI B.out)).mono ?_)
    | (go_at_call 13; with_reducible refine (S2.out _ (baseI B.out)).mono ?_)
    | fail "arm"); rintro e wx ⟨rfl, q⟩; replace K0 := Lib.hid (K0.out.nearI q); replace K1 := Lib.hid (K1.out.nearI q); replace B := Lib.hid (goI B.out q); clear q; replace c0_0 := K0.out.at_ 0 _ rfl; replace c0_1 := K0.out.at_ 1 _ rfl; replace c0_2 := K0.out.at_ 2 _ rfl; replace c0_3 := K0.out.at_ 3 _ rfl; replace c1_0 := K1.out.at_ 0 _ rfl; replace c1_1 := K1.out.at_ 1 _ rfl; replace c1_2 := K1.out.at_ 2 _ rfl; replace c1_3 := K1.out.at_ 3 _ rfl)
  clear c0_0 c0_1 c0_2 c0_3 c1_0 c1_1 c1_2 c1_3
  refine wp_region_par (by kernel_rfl) [29, 30, 31, 32, 5, 6] (fun L σ W => Vals [some 29, some 30, some 31, some 32, none, none, none, none] [(.agg #[.int .i8 x1, .int .i8 y1, .int .i8 z1, .int .u8 b1]), (.agg #[.int .i64 p1, .int .i64 p2, .int .i64 p3]), (.agg #[.int .i8 x2, .int .i8 y2, .int .i8 z2, .int .u8 b2]), (.agg #[.int .i64 q1, .int .i64 q2, .int .i64 q3]), undef, undef, undef, undef] L σ ∧ (L 4 → ∃ (g : Nat) (jy0 jy1 jy2 : Value), σ 5 = .pointer (some ⟨g, 0, none⟩) ∧ w.heap.size ≤ g ∧ Blk W g #[jy0, jy1, jy2] 27 ∧ (L 6 → #[jy0, jy1, jy2] = #[.int .i64 p1, .int .i64 p2, .int .i64 p3]) ∧ w.heap.size ≠ g ∧ w.heap.size + 1 ≠ g) ∧ (L 5 → ∃ (g : Nat) (jy0 jy1 jy2 : Value), σ 6 = .pointer (some ⟨g, 0, none⟩) ∧ w.heap.size ≤ g ∧ Blk W g #[jy0, jy1, jy2] 27 ∧ (L 7 → #[jy0, jy1, jy2] = #[.int .i64 q1, .int .i64 q2, .int .i64 q3]) ∧ w.heap.size ≠ g ∧ w.heap.size + 1 ≠ g) ∧ (L 6 → L 4) ∧ (L 7 → L 5) ∧ (L 4 → L 5 → σ 5 ≠ σ 6) ∧ Blk W (w.heap.size) #[.int .i8 x1, .int .i8 y1, .int .i8 z1, .int .u8 b1] 24 ∧ Blk W (w.heap.size + 1) #[.int .i8 x2, .int .i8 y2, .int .i8 z2, .int .u8 b2] 24 ∧ Below w.heap.size w W) (by kernel_rfl) (by kernel_rfl) (by kernel_rfl) ?_ ?_ ?_
  · exact fun σ => ⟨Vals.start, fun h => h.elim, fun h => h.elim, fun h => h.elim, fun h => h.elim, fun h => h.elim, K0.out.below (Below.refl _ _).drew, K1.out.below (Below.refl _ _).drew, B.out.drew⟩
  · refine ⟨?_, ?_, ?_, ?_, ?_, ?_, ?_, ?_, trivial⟩
    · rintro L a W ho ⟨V, jf4, jf5, js6, js7, jn4_5, jb0, jb1, bb⟩ hn hd K hK
      clear hd
      refine Wants.free rfl ?_
      have jr2 : a.tmps[(2 : Nat)]?.getD undef = .pointer (some ⟨w.heap.size, 0, none⟩) := ho.slot 2 rfl
      have jc0 := jb0.at_ 0 _ rfl
      have jc1 := jb0.at_ 1 _ rfl
      have jc2 := jb0.at_ 2 _ rfl
      have jc3 := jb0.at_ 3 _ rfl
      go_simp
      exact hK.out (.agg #[.int .i8 x1, .int .i8 y1, .int .i8 z1, .int .u8 b1]) _ ⟨V.set 0 _ _ rfl rfl rfl, fun h => (by obtain ⟨jg, ju0, ju1, ju2, je1, je2, je3, je4, jne0, jne1⟩ := old jf4 rfl h; exact ⟨jg, _, _, _, je1, je2, je3, fun h => je4 (h.resolve_right (by decide)), jne0, jne1⟩), fun h => (by obtain ⟨jg, ju0, ju1, ju2, je1, je2, je3, je4, jne0, jne1⟩ := old jf5 rfl h; exact ⟨jg, _, _, _, je1, je2, je3, fun h => je4 (h.resolve_right (by decide)), jne0, jne1⟩), fun h => .inl (old js6 rfl h), fun h => .inl (old js7 rfl h), fun h h2 => jn4_5 (h.resolve_right (by decide)) (h2.resolve_right (by decide)), jb0, jb1, bb⟩
    · rintro L a W ho ⟨V, jf4, jf5, js6, js7, jn4_5, jb0, jb1, bb⟩ hn hd K hK
      have jh0 := hd.get 0 rfl
      clear hd
      refine Wants.free rfl ?_
      have jr29 := V.read 0 rfl rfl jh0
      go_simp
      go_at_call 14
      with_reducible refine (I1.out _ bb).mono ?_
      rintro e wx ⟨rfl, q⟩
      go_simp
      exact hK.out (.agg #[.int .i64 p1, .int .i64 p2, .int .i64 p3]) _ ⟨V.set 1 _ _ rfl rfl rfl, fun h => (by obtain ⟨jg, ju0, ju1, ju2, je1, je2, je3, je4, jne0, jne1⟩ := old jf4 rfl h; exact ⟨jg, _, _, _, je1, je2, je3.below q, fun h => je4 (h.resolve_right (by decide)), jne0, jne1⟩), fun h => (by obtain ⟨jg, ju0, ju1, ju2, je1, je2, je3, je4, jne0, jne1⟩ := old jf5 rfl h; exact ⟨jg, _, _, _, je1, je2, je3.below q, fun h => je4 (h.resolve_right (by decide)), jne0, jne1⟩), fun h => .inl (old js6 rfl h), fun h => .inl (old js7 rfl h), fun h h2 => jn4_5 (h.resolve_right (by decide)) (h2.resolve_right (by decide)), jb0.below q, jb1.below q, bb.trans (q.mono bb.size)⟩
    · rintro L a W ho ⟨V, jf4, jf5, js6, js7, jn4_5, jb0, jb1, bb⟩ hn hd K hK
      clear hd
      refine Wants.free rfl ?_
      have jr3 : a.tmps[(3 : Nat)]?.getD undef = .pointer (some ⟨w.heap.size + 1, 0, none⟩) := ho.slot 3 rfl
      have jc0 := jb1.at_ 0 _ rfl
      have jc1 := jb1.at_ 1 _ rfl
      have jc2 := jb1.at_ 2 _ rfl
      have jc3 := jb1.at_ 3 _ rfl
      go_simp
      exact hK.out (.agg #[.int .i8 x2, .int .i8 y2, .int .i8 z2, .int .u8 b2]) _ ⟨V.set 2 _ _ rfl rfl rfl, fun h => (by obtain ⟨jg, ju0, ju1, ju2, je1, je2, je3, je4, jne0, jne1⟩ := old jf4 rfl h; exact ⟨jg, _, _, _, je1, je2, je3, fun h => je4 (h.resolve_right (by decide)), jne0, jne1⟩), fun h => (by obtain ⟨jg, ju0, ju1, ju2, je1, je2, je3, je4, jne0, jne1⟩ := old jf5 rfl h; exact ⟨jg, _, _, _, je1, je2, je3, fun h => je4 (h.resolve_right (by decide)), jne0, jne1⟩), fun h => .inl (old js6 rfl h), fun h => .inl (old js7 rfl h), fun h h2 => jn4_5 (h.resolve_right (by decide)) (h2.resolve_right (by decide)), jb0, jb1, bb⟩
    · rintro L a W ho ⟨V, jf4, jf5, js6, js7, jn4_5, jb0, jb1, bb⟩ hn hd K hK
      have jh2 := hd.get 2 rfl
      clear hd
      refine Wants.free rfl ?_
      have jr31 := V.read 2 rfl rfl jh2
      go_simp
      go_at_call 14
      with_reducible refine (I2.out _ bb).mono ?_
      rintro e wx ⟨rfl, q⟩
      go_simp
      exact hK.out (.agg #[.int .i64 q1, .int .i64 q2, .int .i64 q3]) _ ⟨V.set 3 _ _ rfl rfl rfl, fun h => (by obtain ⟨jg, ju0, ju1, ju2, je1, je2, je3, je4, jne0, jne1⟩ := old jf4 rfl h; exact ⟨jg, _, _, _, je1, je2, je3.below q, fun h => je4 (h.resolve_right (by decide)), jne0, jne1⟩), fun h => (by obtain ⟨jg, ju0, ju1, ju2, je1, je2, je3, je4, jne0, jne1⟩ := old jf5 rfl h; exact ⟨jg, _, _, _, je1, je2, je3.below q, fun h => je4 (h.resolve_right (by decide)), jne0, jne1⟩), fun h => .inl (old js6 rfl h), fun h => .inl (old js7 rfl h), fun h h2 => jn4_5 (h.resolve_right (by decide)) (h2.resolve_right (by decide)), jb0.below q, jb1.below q, bb.trans (q.mono bb.size)⟩
    · rintro L a W ho ⟨V, jf4, jf5, js6, js7, jn4_5, jb0, jb1, bb⟩ hn hd K hK
      clear hd
      refine Wants.free rfl ?_
      go_simp
      exact hK.out (.pointer (some ⟨W.heap.size, 0, none⟩)) _ ⟨V.apart 4 _ _ rfl rfl, fun _ => ⟨W.heap.size, .int .i64 0, .int .i64 0, .int .i64 0, rfl, bb.size, Blk.fresh W #[.int .i64 0, .int .i64 0, .int .i64 0] 27, fun h => absurd (old js6 rfl h) hn, (Nat.ne_of_lt jb0.lt), (Nat.ne_of_lt jb1.lt)⟩, fun h => (by obtain ⟨jg, ju0, ju1, ju2, je1, je2, je3, je4, jne0, jne1⟩ := old jf5 rfl h; exact ⟨jg, _, _, _, je1, je2, je3.alloc (Obj.cells #[.int .i64 0, .int .i64 0, .int .i64 0] 27), fun h => je4 (h.resolve_right (by decide)), jne0, jne1⟩), fun h => .inl (old js6 rfl h), fun h => .inl (old js7 rfl h), fun h h2 => (by obtain ⟨jg, ju0, ju1, ju2, je1, je2, je3, je4, jne0, jne1⟩ := jf5 (h2.resolve_right (by decide)); have jhlt := je3.lt; show (Value.pointer (some ⟨W.heap.size, 0, none⟩)) ≠ slotOf a 6; rw [je1]; intro e; injection e with e; injection e with e; injection e with e; omega), jb0.alloc (Obj.cells #[.int .i64 0, .int .i64 0, .int .i64 0] 27), jb1.alloc (Obj.cells #[.int .i64 0, .int .i64 0, .int .i64 0] 27), bb.trans ((below_new W (Obj.cells #[.int .i64 0, .int .i64 0, .int .i64 0] 27)).mono bb.size)⟩
    · rintro L a W ho ⟨V, jf4, jf5, js6, js7, jn4_5, jb0, jb1, bb⟩ hn hd K hK
      clear hd
      refine Wants.free rfl ?_
      go_simp
      exact hK.out (.pointer (some ⟨W.heap.size, 0, none⟩)) _ ⟨V.apart 5 _ _ rfl rfl, fun h => (by obtain ⟨jg, ju0, ju1, ju2, je1, je2, je3, je4, jne0, jne1⟩ := old jf4 rfl h; exact ⟨jg, _, _, _, je1, je2, je3.alloc (Obj.cells #[.int .i64 0, .int .i64 0, .int .i64 0] 27), fun h => je4 (h.resolve_right (by decide)), jne0, jne1⟩), fun _ => ⟨W.heap.size, .int .i64 0, .int .i64 0, .int .i64 0, rfl, bb.size, Blk.fresh W #[.int .i64 0, .int .i64 0, .int .i64 0] 27, fun h => absurd (old js7 rfl h) hn, (Nat.ne_of_lt jb0.lt), (Nat.ne_of_lt jb1.lt)⟩, fun h => .inl (old js6 rfl h), fun h => .inl (old js7 rfl h), fun h h2 => (by obtain ⟨jg, ju0, ju1, ju2, je1, je2, je3, je4, jne0, jne1⟩ := jf4 (h.resolve_right (by decide)); have jhlt := je3.lt; show slotOf a 5 ≠ (Value.pointer (some ⟨W.heap.size, 0, none⟩)); rw [je1]; intro e; injection e with e; injection e with e; injection e with e; omega), jb0.alloc (Obj.cells #[.int .i64 0, .int .i64 0, .int .i64 0] 27), jb1.alloc (Obj.cells #[.int .i64 0, .int .i64 0, .int .i64 0] 27), bb.trans ((below_new W (Obj.cells #[.int .i64 0, .int .i64 0, .int .i64 0] 27)).mono bb.size)⟩
    · rintro L a W ho ⟨V, jf4, jf5, js6, js7, jn4_5, jb0, jb1, bb⟩ hn hd K hK
      have jh4 := hd.get 4 rfl
      have jh1 := hd.get 1 rfl
      clear hd
      refine Wants.free rfl ?_
      have jr30 := V.read 1 rfl rfl jh1
      obtain ⟨jg, jy0, jy1, jy2, je1, je2, je3, je4, jne0, jne1⟩ := jf4 jh4
      have jr5 : a.tmps[(5 : Nat)]?.getD undef = .pointer (some ⟨jg, 0, none⟩) := je1
      have jc0 := je3.at_ 0 _ rfl
      have jz0 := je3.free 0
      have jc1 := je3.at_ 1 _ rfl
      have jz1 := je3.free 1
      have jc2 := je3.at_ 2 _ rfl
      have jz2 := je3.free 2
      go_simp
      exact hK.out (undef) _ ⟨V.same 6 _ rfl, fun _ => ⟨jg, .int .i64 p1, .int .i64 p2, .int .i64 p3, je1, je2, je3.set3 (.int .i64 p1) (.int .i64 p2) (.int .i64 p3), fun _ => rfl, jne0, jne1⟩, fun h => (by have jhne := jn4_5 jh4 (h.resolve_right (by decide)); obtain ⟨jg2, ju0, ju1, ju2, jt1, jq2, jq3, je4, jnq0, jnq1⟩ := old jf5 rfl h; exact ⟨jg2, _, _, _, jt1, jq2, jq3.else3 (fun e => jhne (by rw [jt1, je1, e])) (.int .i64 p1) (.int .i64 p2) (.int .i64 p3), fun h => je4 (h.resolve_right (by decide)), jnq0, jnq1⟩), fun _ => .inl jh4, fun h => .inl (old js7 rfl h), fun h h2 => jn4_5 (h.resolve_right (by decide)) (h2.resolve_right (by decide)), jb0.else3 jne0 (.int .i64 p1) (.int .i64 p2) (.int .i64 p3), jb1.else3 jne1 (.int .i64 p1) (.int .i64 p2) (.int .i64 p3), bb.trans (below_else3 W w.heap.size jg je2 (.int .i64 p1) (.int .i64 p2) (.int .i64 p3))⟩
    · rintro L a W ho ⟨V, jf4, jf5, js6, js7, jn4_5, jb0, jb1, bb⟩ hn hd K hK
      have jh5 := hd.get 5 rfl
      have jh3 := hd.get 3 rfl
      clear hd
      refine Wants.free rfl ?_
      have jr32 := V.read 3 rfl rfl jh3
      obtain ⟨jg, jy0, jy1, jy2, je1, je2, je3, je4, jne0, jne1⟩ := jf5 jh5
      have jr6 : a.tmps[(6 : Nat)]?.getD undef = .pointer (some ⟨jg, 0, none⟩) := je1
      have jc0 := je3.at_ 0 _ rfl
      have jz0 := je3.free 0
      have jc1 := je3.at_ 1 _ rfl
      have jz1 := je3.free 1
      have jc2 := je3.at_ 2 _ rfl
      have jz2 := je3.free 2
      go_simp
      exact hK.out (undef) _ ⟨V.same 7 _ rfl, fun h => (by have jhne := jn4_5 (h.resolve_right (by decide)) jh5; obtain ⟨jg2, ju0, ju1, ju2, jt1, jq2, jq3, je4, jnq0, jnq1⟩ := old jf4 rfl h; exact ⟨jg2, _, _, _, jt1, jq2, jq3.else3 (fun e => jhne (by rw [jt1, je1, e])) (.int .i64 q1) (.int .i64 q2) (.int .i64 q3), fun h => je4 (h.resolve_right (by decide)), jnq0, jnq1⟩), fun _ => ⟨jg, .int .i64 q1, .int .i64 q2, .int .i64 q3, je1, je2, je3.set3 (.int .i64 q1) (.int .i64 q2) (.int .i64 q3), fun _ => rfl, jne0, jne1⟩, fun h => .inl (old js6 rfl h), fun _ => .inl jh5, fun h h2 => jn4_5 (h.resolve_right (by decide)) (h2.resolve_right (by decide)), jb0.else3 jne0 (.int .i64 q1) (.int .i64 q2) (.int .i64 q3), jb1.else3 jne1 (.int .i64 q1) (.int .i64 q2) (.int .i64 q3), bb.trans (below_else3 W w.heap.size jg je2 (.int .i64 q1) (.int .i64 q2) (.int .i64 q3))⟩
  rintro L σ W ⟨V, jf4, jf5, js6, js7, jn4_5, jb0, jb1, bb⟩ hL
  have jf0 := V 0 _ _ rfl rfl (hL 0 (by decide))
  have jf1 := V 1 _ _ rfl rfl (hL 1 (by decide))
  have jf2 := V 2 _ _ rfl rfl (hL 2 (by decide))
  have jf3 := V 3 _ _ rfl rfl (hL 3 (by decide))
  clear V
  replace jn4_5 := jn4_5 (hL 4 (by decide)) (hL 5 (by decide))
  obtain ⟨g3_4, jy4_0, jy4_1, jy4_2, jf4, jl4, jv4, je4, jne4_0, jne4_1⟩ := jf4 (hL 4 (by decide))
  rw [je4 (hL 6 (by decide))] at jv4
  clear je4 jne4_0 jne4_1
  obtain ⟨g3_5, jy5_0, jy5_1, jy5_2, jf5, jl5, jv5, je5, jne5_0, jne5_1⟩ := jf5 (hL 5 (by decide))
  rw [je5 (hL 7 (by decide))] at jv5
  clear je5 jne5_0 jne5_1
  clear jn4_5
  clear hL js6 js7
  rw [show List.map σ [29, 30, 31, 32, 5, 6] = [σ 29, σ 30, σ 31, σ 32, σ 5, σ 6] from rfl, jf0, jf1, jf2, jf3, jf4, jf5]
  clear jf0 jf1 jf2 jf3 jf4 jf5
  simp only [putAll, List.map, Act.put, List.setIfInBounds_toArray, List.set_cons_succ, List.set_cons_zero]
  replace K0 := Lib.hid jb0
  replace K1 := Lib.hid jb1
  have K2 := Lib.hid jv4
  have K3 := Lib.hid jv5
  replace B := Lib.hid bb
  clear bb jb0 jb1 jv4 jl4 jv5 jl5
  have c0_0 := K0.out.at_ 0 _ rfl
  have c0_1 := K0.out.at_ 1 _ rfl
  have c0_2 := K0.out.at_ 2 _ rfl
  have c0_3 := K0.out.at_ 3 _ rfl
  have c1_0 := K1.out.at_ 0 _ rfl
  have c1_1 := K1.out.at_ 1 _ rfl
  have c1_2 := K1.out.at_ 2 _ rfl
  have c1_3 := K1.out.at_ 3 _ rfl
  have c2_0 := K2.out.at_ 0 _ rfl
  have c2_1 := K2.out.at_ 1 _ rfl
  have c2_2 := K2.out.at_ 2 _ rfl
  have c3_0 := K3.out.at_ 0 _ rfl
  have c3_1 := K3.out.at_ 1 _ rfl
  have c3_2 := K3.out.at_ 2 _ rfl
  go_upto_region 5 with (
   (first
    | (go_at_call 16; with_reducible refine (M1.out _ (baseI B.out)).mono ?_)
    | (go_at_call 35; with_reducible refine (O1.out _ (baseI B.out)).mono ?_)
    | fail "arm"); rintro e wx ⟨rfl, q⟩; replace K0 := Lib.hid (K0.out.nearI q); replace K1 := Lib.hid (K1.out.nearI q); replace K2 := Lib.hid (K2.out.nearI q); replace K3 := Lib.hid (K3.out.nearI q); replace B := Lib.hid (goI B.out q); clear q; replace c0_0 := K0.out.at_ 0 _ rfl; replace c0_1 := K0.out.at_ 1 _ rfl; replace c0_2 := K0.out.at_ 2 _ rfl; replace c0_3 := K0.out.at_ 3 _ rfl; replace c1_0 := K1.out.at_ 0 _ rfl; replace c1_1 := K1.out.at_ 1 _ rfl; replace c1_2 := K1.out.at_ 2 _ rfl; replace c1_3 := K1.out.at_ 3 _ rfl; replace c2_0 := K2.out.at_ 0 _ rfl; replace c2_1 := K2.out.at_ 1 _ rfl; replace c2_2 := K2.out.at_ 2 _ rfl; replace c3_0 := K3.out.at_ 0 _ rfl; replace c3_1 := K3.out.at_ 1 _ rfl; replace c3_2 := K3.out.at_ 2 _ rfl)
  clear c0_0 c0_1 c0_2 c0_3 c1_0 c1_1 c1_2 c1_3 c2_0 c2_1 c2_2 c3_0 c3_1 c3_2
  refine wp_region_par (by kernel_rfl) [41, 42, 43, 44, 45, 40, 46, 47, 10, 11] (fun L σ W => Vals [some 41, some 42, some 43, some 44, some 45, some 40, some 46, some 47, some 10, some 11] [(.agg #[.int .i8 x1, .int .i8 y1, .int .i8 z1, .int .u8 b1]), (.agg #[.string A1, .string A2, .string A3]), (.agg #[.int .i8 x2, .int .i8 y2, .int .i8 z2, .int .u8 b2]), (.agg #[.string C1, .string C2, .string C3]), (.tuple #[.int .i64 c, .int .i64 0]), (.tuple #[.int .i64 c, .int .i64 0]), (.int .i64 c), (.int .i64 0), (.int .i64 c), (.int .i64 0)] L σ ∧ Blk W (w.heap.size) #[.int .i8 x1, .int .i8 y1, .int .i8 z1, .int .u8 b1] 24 ∧ Blk W (w.heap.size + 1) #[.int .i8 x2, .int .i8 y2, .int .i8 z2, .int .u8 b2] 24 ∧ Blk W (g3_4) #[.int .i64 p1, .int .i64 p2, .int .i64 p3] 27 ∧ Blk W (g3_5) #[.int .i64 q1, .int .i64 q2, .int .i64 q3] 27 ∧ Below w.heap.size w W) (by kernel_rfl) (by kernel_rfl) (by kernel_rfl) ?_ ?_ ?_
  · exact fun σ => ⟨Vals.start, K0.out.below (Below.refl _ _).drew, K1.out.below (Below.refl _ _).drew, K2.out.below (Below.refl _ _).drew, K3.out.below (Below.refl _ _).drew, B.out.drew⟩
  · refine ⟨?_, ?_, ?_, ?_, ?_, ?_, ?_, ?_, ?_, ?_, trivial⟩
    · rintro L a W ho ⟨V, jb0, jb1, jb2, jb3, bb⟩ hn hd K hK
      clear hd
      refine Wants.free rfl ?_
      have jr2 : a.tmps[(2 : Nat)]?.getD undef = .pointer (some ⟨w.heap.size, 0, none⟩) := ho.slot 2 rfl
      have jc0 := jb0.at_ 0 _ rfl
      have jc1 := jb0.at_ 1 _ rfl
      have jc2 := jb0.at_ 2 _ rfl
      have jc3 := jb0.at_ 3 _ rfl
      go_simp
      exact hK.out (.agg #[.int .i8 x1, .int .i8 y1, .int .i8 z1, .int .u8 b1]) _ ⟨V.set 0 _ _ rfl rfl rfl, jb0, jb1, jb2, jb3, bb⟩
    · rintro L a W ho ⟨V, jb0, jb1, jb2, jb3, bb⟩ hn hd K hK
      have jh0 := hd.get 0 rfl
      clear hd
      refine Wants.free rfl ?_
      have jr41 := V.read 0 rfl rfl jh0
      go_simp
      go_at_call 16
      with_reducible refine (M1.out _ bb).mono ?_
      rintro e wx ⟨rfl, q⟩
      go_simp
      exact hK.out (.agg #[.string A1, .string A2, .string A3]) _ ⟨V.set 1 _ _ rfl rfl rfl, jb0.below q, jb1.below q, jb2.below q, jb3.below q, bb.trans (q.mono bb.size)⟩
    · rintro L a W ho ⟨V, jb0, jb1, jb2, jb3, bb⟩ hn hd K hK
      clear hd
      refine Wants.free rfl ?_
      have jr3 : a.tmps[(3 : Nat)]?.getD undef = .pointer (some ⟨w.heap.size + 1, 0, none⟩) := ho.slot 3 rfl
      have jc0 := jb1.at_ 0 _ rfl
      have jc1 := jb1.at_ 1 _ rfl
      have jc2 := jb1.at_ 2 _ rfl
      have jc3 := jb1.at_ 3 _ rfl
      go_simp
      exact hK.out (.agg #[.int .i8 x2, .int .i8 y2, .int .i8 z2, .int .u8 b2]) _ ⟨V.set 2 _ _ rfl rfl rfl, jb0, jb1, jb2, jb3, bb⟩
    · rintro L a W ho ⟨V, jb0, jb1, jb2, jb3, bb⟩ hn hd K hK
      have jh2 := hd.get 2 rfl
      clear hd
      refine Wants.free rfl ?_
      have jr43 := V.read 2 rfl rfl jh2
      go_simp
      go_at_call 16
      with_reducible refine (M2.out _ bb).mono ?_
      rintro e wx ⟨rfl, q⟩
      go_simp
      exact hK.out (.agg #[.string C1, .string C2, .string C3]) _ ⟨V.set 3 _ _ rfl rfl rfl, jb0.below q, jb1.below q, jb2.below q, jb3.below q, bb.trans (q.mono bb.size)⟩
    · rintro L a W ho ⟨V, jb0, jb1, jb2, jb3, bb⟩ hn hd K hK
      have jh1 := hd.get 1 rfl
      have jh3 := hd.get 3 rfl
      clear hd
      refine Wants.free rfl ?_
      have jr42 := V.read 1 rfl rfl jh1
      have jr44 := V.read 3 rfl rfl jh3
      go_simp
      go_at_call 36
      with_reducible refine (O2.out _ bb).mono ?_
      rintro e wx ⟨rfl, q⟩
      go_simp
      exact hK.out (.tuple #[.int .i64 c, .int .i64 0]) _ ⟨V.set 4 _ _ rfl rfl rfl, jb0.below q, jb1.below q, jb2.below q, jb3.below q, bb.trans (q.mono bb.size)⟩
    · rintro L a W ho ⟨V, jb0, jb1, jb2, jb3, bb⟩ hn hd K hK
      have jh4 := hd.get 4 rfl
      clear hd
      refine Wants.free rfl ?_
      have jr45 := V.read 4 rfl rfl jh4
      go_simp
      exact hK.out (.tuple #[.int .i64 c, .int .i64 0]) _ ⟨V.set 5 _ _ rfl rfl rfl, jb0, jb1, jb2, jb3, bb⟩
    · rintro L a W ho ⟨V, jb0, jb1, jb2, jb3, bb⟩ hn hd K hK
      have jh5 := hd.get 5 rfl
      clear hd
      refine Wants.free rfl ?_
      have jr40 := V.read 5 rfl rfl jh5
      go_simp
      exact hK.out (.int .i64 c) _ ⟨V.set 6 _ _ rfl rfl rfl, jb0, jb1, jb2, jb3, bb⟩
    · rintro L a W ho ⟨V, jb0, jb1, jb2, jb3, bb⟩ hn hd K hK
      have jh5 := hd.get 5 rfl
      clear hd
      refine Wants.free rfl ?_
      have jr40 := V.read 5 rfl rfl jh5
      go_simp
      exact hK.out (.int .i64 0) _ ⟨V.set 7 _ _ rfl rfl rfl, jb0, jb1, jb2, jb3, bb⟩
    · rintro L a W ho ⟨V, jb0, jb1, jb2, jb3, bb⟩ hn hd K hK
      have jh6 := hd.get 6 rfl
      clear hd
      refine Wants.free rfl ?_
      have jr46 := V.read 6 rfl rfl jh6
      go_simp
      exact hK.out (.int .i64 c) _ ⟨V.set 8 _ _ rfl rfl rfl, jb0, jb1, jb2, jb3, bb⟩
    · rintro L a W ho ⟨V, jb0, jb1, jb2, jb3, bb⟩ hn hd K hK
      have jh7 := hd.get 7 rfl
      clear hd
      refine Wants.free rfl ?_
      have jr47 := V.read 7 rfl rfl jh7
      go_simp
      exact hK.out (.int .i64 0) _ ⟨V.set 9 _ _ rfl rfl rfl, jb0, jb1, jb2, jb3, bb⟩
  rintro L σ W ⟨V, jb0, jb1, jb2, jb3, bb⟩ hL
  have jf0 := V 0 _ _ rfl rfl (hL 0 (by decide))
  have jf1 := V 1 _ _ rfl rfl (hL 1 (by decide))
  have jf2 := V 2 _ _ rfl rfl (hL 2 (by decide))
  have jf3 := V 3 _ _ rfl rfl (hL 3 (by decide))
  have jf4 := V 4 _ _ rfl rfl (hL 4 (by decide))
  have jf5 := V 5 _ _ rfl rfl (hL 5 (by decide))
  have jf6 := V 6 _ _ rfl rfl (hL 6 (by decide))
  have jf7 := V 7 _ _ rfl rfl (hL 7 (by decide))
  have jf8 := V 8 _ _ rfl rfl (hL 8 (by decide))
  have jf9 := V 9 _ _ rfl rfl (hL 9 (by decide))
  clear V
  clear hL
  rw [show List.map σ [41, 42, 43, 44, 45, 40, 46, 47, 10, 11] = [σ 41, σ 42, σ 43, σ 44, σ 45, σ 40, σ 46, σ 47, σ 10, σ 11] from rfl, jf0, jf1, jf2, jf3, jf4, jf5, jf6, jf7, jf8, jf9]
  clear jf0 jf1 jf2 jf3 jf4 jf5 jf6 jf7 jf8 jf9
  simp only [putAll, List.map, Act.put, List.setIfInBounds_toArray, List.set_cons_succ, List.set_cons_zero]
  replace K0 := Lib.hid jb0
  replace K1 := Lib.hid jb1
  replace K2 := Lib.hid jb2
  replace K3 := Lib.hid jb3
  replace B := Lib.hid bb
  clear bb jb0 jb1 jb2 jb3
  have c0_0 := K0.out.at_ 0 _ rfl
  have c0_1 := K0.out.at_ 1 _ rfl
  have c0_2 := K0.out.at_ 2 _ rfl
  have c0_3 := K0.out.at_ 3 _ rfl
  have c1_0 := K1.out.at_ 0 _ rfl
  have c1_1 := K1.out.at_ 1 _ rfl
  have c1_2 := K1.out.at_ 2 _ rfl
  have c1_3 := K1.out.at_ 3 _ rfl
  have c2_0 := K2.out.at_ 0 _ rfl
  have c2_1 := K2.out.at_ 1 _ rfl
  have c2_2 := K2.out.at_ 2 _ rfl
  have c3_0 := K3.out.at_ 0 _ rfl
  have c3_1 := K3.out.at_ 1 _ rfl
  have c3_2 := K3.out.at_ 2 _ rfl
  go_upto_region 6 with (fail)
  clear c0_0 c0_1 c0_2 c0_3 c1_0 c1_1 c1_2 c1_3 c2_0 c2_1 c2_2 c3_0 c3_1 c3_2
  refine wp_region_par (by kernel_rfl) [48, 49, 50, 51, 52, 53, 54, 55, 56, 57, 58, 59, 60, 61, 62, 63, 64, 65, 66, 67, 68, 69, 12, 13] (fun L σ W => Vals [some 48, some 49, some 50, some 51, some 52, some 53, some 54, some 55, some 56, some 57, some 58, some 59, some 60, some 61, some 62, some 63, some 64, some 65, some 66, some 67, some 68, some 69, some 12, some 13] [(.pointer (some ⟨g3_4, 0, none⟩)), (.int .i64 p1), (.pointer (some ⟨g3_4, 0, none⟩)), (.int .i64 p1), (.int .i64 (p1 * p1)), (.pointer (some ⟨g3_4, 1, none⟩)), (.int .i64 p2), (.pointer (some ⟨g3_4, 1, none⟩)), (.int .i64 p2), (.int .i64 (p2 * p2)), (.int .i64 ((p1 * p1) + (p2 * p2))), (.pointer (some ⟨g3_5, 0, none⟩)), (.int .i64 q1), (.pointer (some ⟨g3_5, 0, none⟩)), (.int .i64 q1), (.int .i64 (q1 * q1)), (.pointer (some ⟨g3_5, 1, none⟩)), (.int .i64 q2), (.pointer (some ⟨g3_5, 1, none⟩)), (.int .i64 q2), (.int .i64 (q2 * q2)), (.int .i64 ((q1 * q1) + (q2 * q2))), (.int .i64 ((p1 * p1) + (p2 * p2))), (.int .i64 ((q1 * q1) + (q2 * q2)))] L σ ∧ Blk W (w.heap.size) #[.int .i8 x1, .int .i8 y1, .int .i8 z1, .int .u8 b1] 24 ∧ Blk W (w.heap.size + 1) #[.int .i8 x2, .int .i8 y2, .int .i8 z2, .int .u8 b2] 24 ∧ Blk W (g3_4) #[.int .i64 p1, .int .i64 p2, .int .i64 p3] 27 ∧ Blk W (g3_5) #[.int .i64 q1, .int .i64 q2, .int .i64 q3] 27 ∧ Below w.heap.size w W) (by kernel_rfl) (by kernel_rfl) (by kernel_rfl) ?_ ?_ ?_
  · exact fun σ => ⟨Vals.start, K0.out.below (Below.refl _ _).drew, K1.out.below (Below.refl _ _).drew, K2.out.below (Below.refl _ _).drew, K3.out.below (Below.refl _ _).drew, B.out.drew⟩
  · refine ⟨?_, ?_, ?_, ?_, ?_, ?_, ?_, ?_, ?_, ?_, ?_, ?_, ?_, ?_, ?_, ?_, ?_, ?_, ?_, ?_, ?_, ?_, ?_, ?_, trivial⟩
    · rintro L a W ho ⟨V, jb0, jb1, jb2, jb3, bb⟩ hn hd K hK
      clear hd
      refine Wants.free rfl ?_
      have jr5 : a.tmps[(5 : Nat)]?.getD undef = .pointer (some ⟨g3_4, 0, none⟩) := ho.slot 5 rfl
      go_simp
      exact hK.out (.pointer (some ⟨g3_4, 0, none⟩)) _ ⟨V.set 0 _ _ rfl rfl rfl, jb0, jb1, jb2, jb3, bb⟩
    · rintro L a W ho ⟨V, jb0, jb1, jb2, jb3, bb⟩ hn hd K hK
      have jh0 := hd.get 0 rfl
      clear hd
      refine Wants.free rfl ?_
      have jr48 := V.read 0 rfl rfl jh0
      have jc0 := jb2.at_ 0 _ rfl
      go_simp
      exact hK.out (.int .i64 p1) _ ⟨V.set 1 _ _ rfl rfl rfl, jb0, jb1, jb2, jb3, bb⟩
    · rintro L a W ho ⟨V, jb0, jb1, jb2, jb3, bb⟩ hn hd K hK
      clear hd
      refine Wants.free rfl ?_
      have jr5 : a.tmps[(5 : Nat)]?.getD undef = .pointer (some ⟨g3_4, 0, none⟩) := ho.slot 5 rfl
      go_simp
      exact hK.out (.pointer (some ⟨g3_4, 0, none⟩)) _ ⟨V.set 2 _ _ rfl rfl rfl, jb0, jb1, jb2, jb3, bb⟩
    · rintro L a W ho ⟨V, jb0, jb1, jb2, jb3, bb⟩ hn hd K hK
      have jh2 := hd.get 2 rfl
      clear hd
      refine Wants.free rfl ?_
      have jr50 := V.read 2 rfl rfl jh2
      have jc0 := jb2.at_ 0 _ rfl
      go_simp
      exact hK.out (.int .i64 p1) _ ⟨V.set 3 _ _ rfl rfl rfl, jb0, jb1, jb2, jb3, bb⟩
    · rintro L a W ho ⟨V, jb0, jb1, jb2, jb3, bb⟩ hn hd K hK
      have jh1 := hd.get 1 rfl
      have jh3 := hd.get 3 rfl
      clear hd
      refine Wants.free rfl ?_
      have jr49 := V.read 1 rfl rfl jh1
      have jr51 := V.read 3 rfl rfl jh3
      go_simp
      exact hK.out (.int .i64 (p1 * p1)) _ ⟨V.set 4 _ _ rfl rfl rfl, jb0, jb1, jb2, jb3, bb⟩
    · rintro L a W ho ⟨V, jb0, jb1, jb2, jb3, bb⟩ hn hd K hK
      clear hd
      refine Wants.free rfl ?_
      have jr5 : a.tmps[(5 : Nat)]?.getD undef = .pointer (some ⟨g3_4, 0, none⟩) := ho.slot 5 rfl
      go_simp
      exact hK.out (.pointer (some ⟨g3_4, 1, none⟩)) _ ⟨V.set 5 _ _ rfl rfl rfl, jb0, jb1, jb2, jb3, bb⟩
    · rintro L a W ho ⟨V, jb0, jb1, jb2, jb3, bb⟩ hn hd K hK
      have jh5 := hd.get 5 rfl
      clear hd
      refine Wants.free rfl ?_
      have jr53 := V.read 5 rfl rfl jh5
      have jc1 := jb2.at_ 1 _ rfl
      go_simp
      exact hK.out (.int .i64 p2) _ ⟨V.set 6 _ _ rfl rfl rfl, jb0, jb1, jb2, jb3, bb⟩
    · rintro L a W ho ⟨V, jb0, jb1, jb2, jb3, bb⟩ hn hd K hK
      clear hd
      refine Wants.free rfl ?_
      have jr5 : a.tmps[(5 : Nat)]?.getD undef = .pointer (some ⟨g3_4, 0, none⟩) := ho.slot 5 rfl
      go_simp
      exact hK.out (.pointer (some ⟨g3_4, 1, none⟩)) _ ⟨V.set 7 _ _ rfl rfl rfl, jb0, jb1, jb2, jb3, bb⟩
    · rintro L a W ho ⟨V, jb0, jb1, jb2, jb3, bb⟩ hn hd K hK
      have jh7 := hd.get 7 rfl
      clear hd
      refine Wants.free rfl ?_
      have jr55 := V.read 7 rfl rfl jh7
      have jc1 := jb2.at_ 1 _ rfl
      go_simp
      exact hK.out (.int .i64 p2) _ ⟨V.set 8 _ _ rfl rfl rfl, jb0, jb1, jb2, jb3, bb⟩
    · rintro L a W ho ⟨V, jb0, jb1, jb2, jb3, bb⟩ hn hd K hK
      have jh6 := hd.get 6 rfl
      have jh8 := hd.get 8 rfl
      clear hd
      refine Wants.free rfl ?_
      have jr54 := V.read 6 rfl rfl jh6
      have jr56 := V.read 8 rfl rfl jh8
      go_simp
      exact hK.out (.int .i64 (p2 * p2)) _ ⟨V.set 9 _ _ rfl rfl rfl, jb0, jb1, jb2, jb3, bb⟩
    · rintro L a W ho ⟨V, jb0, jb1, jb2, jb3, bb⟩ hn hd K hK
      have jh4 := hd.get 4 rfl
      have jh9 := hd.get 9 rfl
      clear hd
      refine Wants.free rfl ?_
      have jr52 := V.read 4 rfl rfl jh4
      have jr57 := V.read 9 rfl rfl jh9
      go_simp
      exact hK.out (.int .i64 ((p1 * p1) + (p2 * p2))) _ ⟨V.set 10 _ _ rfl rfl rfl, jb0, jb1, jb2, jb3, bb⟩
    · rintro L a W ho ⟨V, jb0, jb1, jb2, jb3, bb⟩ hn hd K hK
      clear hd
      refine Wants.free rfl ?_
      have jr6 : a.tmps[(6 : Nat)]?.getD undef = .pointer (some ⟨g3_5, 0, none⟩) := ho.slot 6 rfl
      go_simp
      exact hK.out (.pointer (some ⟨g3_5, 0, none⟩)) _ ⟨V.set 11 _ _ rfl rfl rfl, jb0, jb1, jb2, jb3, bb⟩
    · rintro L a W ho ⟨V, jb0, jb1, jb2, jb3, bb⟩ hn hd K hK
      have jh11 := hd.get 11 rfl
      clear hd
      refine Wants.free rfl ?_
      have jr59 := V.read 11 rfl rfl jh11
      have jc0 := jb3.at_ 0 _ rfl
      go_simp
      exact hK.out (.int .i64 q1) _ ⟨V.set 12 _ _ rfl rfl rfl, jb0, jb1, jb2, jb3, bb⟩
    · rintro L a W ho ⟨V, jb0, jb1, jb2, jb3, bb⟩ hn hd K hK
      clear hd
      refine Wants.free rfl ?_
      have jr6 : a.tmps[(6 : Nat)]?.getD undef = .pointer (some ⟨g3_5, 0, none⟩) := ho.slot 6 rfl
      go_simp
      exact hK.out (.pointer (some ⟨g3_5, 0, none⟩)) _ ⟨V.set 13 _ _ rfl rfl rfl, jb0, jb1, jb2, jb3, bb⟩
    · rintro L a W ho ⟨V, jb0, jb1, jb2, jb3, bb⟩ hn hd K hK
      have jh13 := hd.get 13 rfl
      clear hd
      refine Wants.free rfl ?_
      have jr61 := V.read 13 rfl rfl jh13
      have jc0 := jb3.at_ 0 _ rfl
      go_simp
      exact hK.out (.int .i64 q1) _ ⟨V.set 14 _ _ rfl rfl rfl, jb0, jb1, jb2, jb3, bb⟩
    · rintro L a W ho ⟨V, jb0, jb1, jb2, jb3, bb⟩ hn hd K hK
      have jh12 := hd.get 12 rfl
      have jh14 := hd.get 14 rfl
      clear hd
      refine Wants.free rfl ?_
      have jr60 := V.read 12 rfl rfl jh12
      have jr62 := V.read 14 rfl rfl jh14
      go_simp
      exact hK.out (.int .i64 (q1 * q1)) _ ⟨V.set 15 _ _ rfl rfl rfl, jb0, jb1, jb2, jb3, bb⟩
    · rintro L a W ho ⟨V, jb0, jb1, jb2, jb3, bb⟩ hn hd K hK
      clear hd
      refine Wants.free rfl ?_
      have jr6 : a.tmps[(6 : Nat)]?.getD undef = .pointer (some ⟨g3_5, 0, none⟩) := ho.slot 6 rfl
      go_simp
      exact hK.out (.pointer (some ⟨g3_5, 1, none⟩)) _ ⟨V.set 16 _ _ rfl rfl rfl, jb0, jb1, jb2, jb3, bb⟩
    · rintro L a W ho ⟨V, jb0, jb1, jb2, jb3, bb⟩ hn hd K hK
      have jh16 := hd.get 16 rfl
      clear hd
      refine Wants.free rfl ?_
      have jr64 := V.read 16 rfl rfl jh16
      have jc1 := jb3.at_ 1 _ rfl
      go_simp
      exact hK.out (.int .i64 q2) _ ⟨V.set 17 _ _ rfl rfl rfl, jb0, jb1, jb2, jb3, bb⟩
    · rintro L a W ho ⟨V, jb0, jb1, jb2, jb3, bb⟩ hn hd K hK
      clear hd
      refine Wants.free rfl ?_
      have jr6 : a.tmps[(6 : Nat)]?.getD undef = .pointer (some ⟨g3_5, 0, none⟩) := ho.slot 6 rfl
      go_simp
      exact hK.out (.pointer (some ⟨g3_5, 1, none⟩)) _ ⟨V.set 18 _ _ rfl rfl rfl, jb0, jb1, jb2, jb3, bb⟩
    · rintro L a W ho ⟨V, jb0, jb1, jb2, jb3, bb⟩ hn hd K hK
      have jh18 := hd.get 18 rfl
      clear hd
      refine Wants.free rfl ?_
      have jr66 := V.read 18 rfl rfl jh18
      have jc1 := jb3.at_ 1 _ rfl
      go_simp
      exact hK.out (.int .i64 q2) _ ⟨V.set 19 _ _ rfl rfl rfl, jb0, jb1, jb2, jb3, bb⟩
    · rintro L a W ho ⟨V, jb0, jb1, jb2, jb3, bb⟩ hn hd K hK
      have jh17 := hd.get 17 rfl
      have jh19 := hd.get 19 rfl
      clear hd
      refine Wants.free rfl ?_
      have jr65 := V.read 17 rfl rfl jh17
      have jr67 := V.read 19 rfl rfl jh19
      go_simp
      exact hK.out (.int .i64 (q2 * q2)) _ ⟨V.set 20 _ _ rfl rfl rfl, jb0, jb1, jb2, jb3, bb⟩
    · rintro L a W ho ⟨V, jb0, jb1, jb2, jb3, bb⟩ hn hd K hK
      have jh15 := hd.get 15 rfl
      have jh20 := hd.get 20 rfl
      clear hd
      refine Wants.free rfl ?_
      have jr63 := V.read 15 rfl rfl jh15
      have jr68 := V.read 20 rfl rfl jh20
      go_simp
      exact hK.out (.int .i64 ((q1 * q1) + (q2 * q2))) _ ⟨V.set 21 _ _ rfl rfl rfl, jb0, jb1, jb2, jb3, bb⟩
    · rintro L a W ho ⟨V, jb0, jb1, jb2, jb3, bb⟩ hn hd K hK
      have jh10 := hd.get 10 rfl
      clear hd
      refine Wants.free rfl ?_
      have jr58 := V.read 10 rfl rfl jh10
      go_simp
      exact hK.out (.int .i64 ((p1 * p1) + (p2 * p2))) _ ⟨V.set 22 _ _ rfl rfl rfl, jb0, jb1, jb2, jb3, bb⟩
    · rintro L a W ho ⟨V, jb0, jb1, jb2, jb3, bb⟩ hn hd K hK
      have jh21 := hd.get 21 rfl
      clear hd
      refine Wants.free rfl ?_
      have jr69 := V.read 21 rfl rfl jh21
      go_simp
      exact hK.out (.int .i64 ((q1 * q1) + (q2 * q2))) _ ⟨V.set 23 _ _ rfl rfl rfl, jb0, jb1, jb2, jb3, bb⟩
  rintro L σ W ⟨V, jb0, jb1, jb2, jb3, bb⟩ hL
  have jf0 := V 0 _ _ rfl rfl (hL 0 (by decide))
  have jf1 := V 1 _ _ rfl rfl (hL 1 (by decide))
  have jf2 := V 2 _ _ rfl rfl (hL 2 (by decide))
  have jf3 := V 3 _ _ rfl rfl (hL 3 (by decide))
  have jf4 := V 4 _ _ rfl rfl (hL 4 (by decide))
  have jf5 := V 5 _ _ rfl rfl (hL 5 (by decide))
  have jf6 := V 6 _ _ rfl rfl (hL 6 (by decide))
  have jf7 := V 7 _ _ rfl rfl (hL 7 (by decide))
  have jf8 := V 8 _ _ rfl rfl (hL 8 (by decide))
  have jf9 := V 9 _ _ rfl rfl (hL 9 (by decide))
  have jf10 := V 10 _ _ rfl rfl (hL 10 (by decide))
  have jf11 := V 11 _ _ rfl rfl (hL 11 (by decide))
  have jf12 := V 12 _ _ rfl rfl (hL 12 (by decide))
  have jf13 := V 13 _ _ rfl rfl (hL 13 (by decide))
  have jf14 := V 14 _ _ rfl rfl (hL 14 (by decide))
  have jf15 := V 15 _ _ rfl rfl (hL 15 (by decide))
  have jf16 := V 16 _ _ rfl rfl (hL 16 (by decide))
  have jf17 := V 17 _ _ rfl rfl (hL 17 (by decide))
  have jf18 := V 18 _ _ rfl rfl (hL 18 (by decide))
  have jf19 := V 19 _ _ rfl rfl (hL 19 (by decide))
  have jf20 := V 20 _ _ rfl rfl (hL 20 (by decide))
  have jf21 := V 21 _ _ rfl rfl (hL 21 (by decide))
  have jf22 := V 22 _ _ rfl rfl (hL 22 (by decide))
  have jf23 := V 23 _ _ rfl rfl (hL 23 (by decide))
  clear V
  clear hL
  rw [show List.map σ [48, 49, 50, 51, 52, 53, 54, 55, 56, 57, 58, 59, 60, 61, 62, 63, 64, 65, 66, 67, 68, 69, 12, 13] = [σ 48, σ 49, σ 50, σ 51, σ 52, σ 53, σ 54, σ 55, σ 56, σ 57, σ 58, σ 59, σ 60, σ 61, σ 62, σ 63, σ 64, σ 65, σ 66, σ 67, σ 68, σ 69, σ 12, σ 13] from rfl, jf0, jf1, jf2, jf3, jf4, jf5, jf6, jf7, jf8, jf9, jf10, jf11, jf12, jf13, jf14, jf15, jf16, jf17, jf18, jf19, jf20, jf21, jf22, jf23]
  clear jf0 jf1 jf2 jf3 jf4 jf5 jf6 jf7 jf8 jf9 jf10 jf11 jf12 jf13 jf14 jf15 jf16 jf17 jf18 jf19 jf20 jf21 jf22 jf23
  simp only [putAll, List.map, Act.put, List.setIfInBounds_toArray, List.set_cons_succ, List.set_cons_zero]
  replace K0 := Lib.hid jb0
  replace K1 := Lib.hid jb1
  replace K2 := Lib.hid jb2
  replace K3 := Lib.hid jb3
  replace B := Lib.hid bb
  clear bb jb0 jb1 jb2 jb3
  have c0_0 := K0.out.at_ 0 _ rfl
  have c0_1 := K0.out.at_ 1 _ rfl
  have c0_2 := K0.out.at_ 2 _ rfl
  have c0_3 := K0.out.at_ 3 _ rfl
  have c1_0 := K1.out.at_ 0 _ rfl
  have c1_1 := K1.out.at_ 1 _ rfl
  have c1_2 := K1.out.at_ 2 _ rfl
  have c1_3 := K1.out.at_ 3 _ rfl
  have c2_0 := K2.out.at_ 0 _ rfl
  have c2_1 := K2.out.at_ 1 _ rfl
  have c2_2 := K2.out.at_ 2 _ rfl
  have c3_0 := K3.out.at_ 0 _ rfl
  have c3_1 := K3.out.at_ 1 _ rfl
  have c3_2 := K3.out.at_ 2 _ rfl
  clear c0_0 c0_1 c0_2 c0_3 c1_0 c1_1 c1_2 c1_3
  rcases hc with ⟨a1, rfl⟩ | ⟨a1, a2, rfl⟩ | ⟨a1, a2, rfl⟩
  all_goals
    go_wp2
    go_ret
    exact ⟨rfl, B.out⟩

set_option maxRecDepth 100000 in
set_option maxHeartbeats 20000000 in
theorem plunges_ok (x1 y1 z1 b1 x2 y2 z2 b2 p1 p2 p3 q1 q2 q3 c ga gb gd : Int) (A1 A2 A3 C1 C2 C3 R : ByteArray) (w : World)
    (hc : (decide (gd < 0) = true ∧ c = -1) ∨ (decide (gd < 0) = false ∧ decide (gd > 0) = true ∧ c = 1) ∨ (decide (gd < 0) = false ∧ decide (gd > 0) = false ∧ c = 0))
    (hf : ((p1 * p1 + p2 * p2) == 0) = false)
    (k0 : IntKind.i64.wrap (p1 * p1) = p1 * p1)
    (k1 : IntKind.i64.wrap (p2 * p2) = p2 * p2)
    (k2 : IntKind.i64.wrap ((p1 * p1) + (p2 * p2)) = (p1 * p1) + (p2 * p2))
    (k3 : IntKind.i64.wrap (q1 * q1) = q1 * q1)
    (k4 : IntKind.i64.wrap (q2 * q2) = q2 * q2)
    (k5 : IntKind.i64.wrap ((q1 * q1) + (q2 * q2)) = (q1 * q1) + (q2 * q2))
    (k6 : IntKind.i64.wrap (p3 * p3) = p3 * p3)
    (k7 : IntKind.i64.wrap (q3 * q3) = q3 * q3)
    (k8 : IntKind.i64.wrap (p3 * p3 * (q1 * q1 + q2 * q2)) = ga)
    (k9 : IntKind.i64.wrap (q3 * q3 * (p1 * p1 + p2 * p2)) = gb)
    (k10 : IntKind.i64.wrap (ga - gb) = gd)
    (kn : ∀ W, Below w.heap.size w W → Calls Tryz.prog 12 #[] W fun e w' => e = .returned (.bool true) ∧ Below W.heap.size W w')
    (i1 : ∀ W, Below w.heap.size w W → Calls Tryz.prog 14 #[.agg #[.int .i8 x1, .int .i8 y1, .int .i8 z1, .int .u8 b1]] W fun e w' => e = .returned (.agg #[.int .i64 p1, .int .i64 p2, .int .i64 p3]) ∧ Below W.heap.size W w')
    (s1 : ∀ W, Below w.heap.size w W → Calls Tryz.prog 13 #[.agg #[.int .i64 p1, .int .i64 p2, .int .i64 p3]] W fun e w' => e = .returned (.bool false) ∧ Below W.heap.size W w')
    (i2 : ∀ W, Below w.heap.size w W → Calls Tryz.prog 14 #[.agg #[.int .i8 x2, .int .i8 y2, .int .i8 z2, .int .u8 b2]] W fun e w' => e = .returned (.agg #[.int .i64 q1, .int .i64 q2, .int .i64 q3]) ∧ Below W.heap.size W w')
    (s2 : ∀ W, Below w.heap.size w W → Calls Tryz.prog 13 #[.agg #[.int .i64 q1, .int .i64 q2, .int .i64 q3]] W fun e w' => e = .returned (.bool false) ∧ Below W.heap.size W w')
    (m1 : ∀ W, Below w.heap.size w W → Calls Tryz.prog 16 #[.agg #[.int .i8 x1, .int .i8 y1, .int .i8 z1, .int .u8 b1]] W fun e w' => e = .returned (.agg #[.string A1, .string A2, .string A3]) ∧ Below W.heap.size W w')
    (m2 : ∀ W, Below w.heap.size w W → Calls Tryz.prog 16 #[.agg #[.int .i8 x2, .int .i8 y2, .int .i8 z2, .int .u8 b2]] W fun e w' => e = .returned (.agg #[.string C1, .string C2, .string C3]) ∧ Below W.heap.size W w')
    (o1 : ∀ W, Below w.heap.size w W → Calls Tryz.prog 35 #[.agg #[.string A1, .string A2, .string A3]] W fun e w' => e = .returned (.tuple #[.string R, .bool false, .int .i64 0]) ∧ Below W.heap.size W w')
    (o2 : ∀ W, Below w.heap.size w W → Calls Tryz.prog 36 #[.agg #[.string A1, .string A2, .string A3], .agg #[.string C1, .string C2, .string C3]] W fun e w' => e = .returned (.tuple #[.int .i64 c, .int .i64 0]) ∧ Below W.heap.size W w')
    (qu : ∀ W, Below w.heap.size w W → Calls Tryz.prog 26 #[.int .i64 (p3 * p3), .int .i64 (p1 * p1 + p2 * p2)] W fun e w' => e = .returned (.string R) ∧ Below W.heap.size W w') :
    Calls Tryz.prog 10 #[.agg #[.int .i8 x1, .int .i8 y1, .int .i8 z1, .int .u8 b1], .agg #[.int .i8 x2, .int .i8 y2, .int .i8 z2, .int .u8 b2]] w fun e w' => e = .returned (.bool true) ∧ Below w.heap.size w w' := by
  have KN := Lib.hid kn
  have I1 := Lib.hid i1
  have S1 := Lib.hid s1
  have I2 := Lib.hid i2
  have S2 := Lib.hid s2
  have M1 := Lib.hid m1
  have M2 := Lib.hid m2
  have O1 := Lib.hid o1
  have O2 := Lib.hid o2
  have QU := Lib.hid qu
  clear kn i1 s1 i2 s2 m1 m2 o1 o2 qu
  have k0 := Blk.fresh w #[.int .i8 x1, .int .i8 y1, .int .i8 z1, .int .u8 b1] 24
  replace k0 := k0.alloc (Obj.cells #[.int .i8 x2, .int .i8 y2, .int .i8 z2, .int .u8 b2] 24)
  have k1 := Blk.fresh (w.alloc (Obj.cells #[.int .i8 x1, .int .i8 y1, .int .i8 z1, .int .u8 b1] 24)) #[.int .i8 x2, .int .i8 y2, .int .i8 z2, .int .u8 b2] 24
  rw [show (w.alloc (Obj.cells #[.int .i8 x1, .int .i8 y1, .int .i8 z1, .int .u8 b1] 24)).heap.size = w.heap.size + 1 from World.size_alloc ..] at k1
  have jb0 : Below w.heap.size w ((w.alloc (Obj.cells #[.int .i8 x1, .int .i8 y1, .int .i8 z1, .int .u8 b1] 24)).alloc (Obj.cells #[.int .i8 x2, .int .i8 y2, .int .i8 z2, .int .u8 b2] 24)) := (((Below.refl _ _).alloc (Nat.le_refl _) _).alloc (by simp; try omega) _)
  have K0 := Lib.hid k0
  have K1 := Lib.hid k1
  have B := Lib.hid jb0
  clear jb0 k0 k1
  go_enter Tryz.func10, Tryz.ntmps10
  go_upto_region 1 with (fail)
  generalize ((w.alloc (Obj.cells #[.int .i8 x1, .int .i8 y1, .int .i8 z1, .int .u8 b1] 24)).alloc (Obj.cells #[.int .i8 x2, .int .i8 y2, .int .i8 z2, .int .u8 b2] 24)) = W0 at *
  have c0_0 := K0.out.at_ 0 _ rfl
  have c0_1 := K0.out.at_ 1 _ rfl
  have c0_2 := K0.out.at_ 2 _ rfl
  have c0_3 := K0.out.at_ 3 _ rfl
  have c1_0 := K1.out.at_ 0 _ rfl
  have c1_1 := K1.out.at_ 1 _ rfl
  have c1_2 := K1.out.at_ 2 _ rfl
  have c1_3 := K1.out.at_ 3 _ rfl
  go_upto_region 3 with (
   (first
    | (go_at_call 12; with_reducible refine (KN.out _ (baseI B.out)).mono ?_)
    | (go_at_call 14; with_reducible refine (I1.out _ (baseI B.out)).mono ?_)
    | (go_at_call 13; with_reducible refine (S1.out _ (baseI B.out)).mono ?_)
    | (go_at_call 14; with_reducible refine (I2.out _ (baseI B.out)).mono ?_)
    | (go_at_call 13; with_reducible refine (S2.out _ (baseI B.out)).mono ?_)
    | fail "arm"); rintro e wx ⟨rfl, q⟩; replace K0 := Lib.hid (K0.out.nearI q); replace K1 := Lib.hid (K1.out.nearI q); replace B := Lib.hid (goI B.out q); clear q; replace c0_0 := K0.out.at_ 0 _ rfl; replace c0_1 := K0.out.at_ 1 _ rfl; replace c0_2 := K0.out.at_ 2 _ rfl; replace c0_3 := K0.out.at_ 3 _ rfl; replace c1_0 := K1.out.at_ 0 _ rfl; replace c1_1 := K1.out.at_ 1 _ rfl; replace c1_2 := K1.out.at_ 2 _ rfl; replace c1_3 := K1.out.at_ 3 _ rfl)
  clear c0_0 c0_1 c0_2 c0_3 c1_0 c1_1 c1_2 c1_3
  refine wp_region_par (by kernel_rfl) [29, 30, 31, 32, 5, 6] (fun L σ W => Vals [some 29, some 30, some 31, some 32, none, none, none, none] [(.agg #[.int .i8 x1, .int .i8 y1, .int .i8 z1, .int .u8 b1]), (.agg #[.int .i64 p1, .int .i64 p2, .int .i64 p3]), (.agg #[.int .i8 x2, .int .i8 y2, .int .i8 z2, .int .u8 b2]), (.agg #[.int .i64 q1, .int .i64 q2, .int .i64 q3]), undef, undef, undef, undef] L σ ∧ (L 4 → ∃ (g : Nat) (jy0 jy1 jy2 : Value), σ 5 = .pointer (some ⟨g, 0, none⟩) ∧ w.heap.size ≤ g ∧ Blk W g #[jy0, jy1, jy2] 27 ∧ (L 6 → #[jy0, jy1, jy2] = #[.int .i64 p1, .int .i64 p2, .int .i64 p3]) ∧ w.heap.size ≠ g ∧ w.heap.size + 1 ≠ g) ∧ (L 5 → ∃ (g : Nat) (jy0 jy1 jy2 : Value), σ 6 = .pointer (some ⟨g, 0, none⟩) ∧ w.heap.size ≤ g ∧ Blk W g #[jy0, jy1, jy2] 27 ∧ (L 7 → #[jy0, jy1, jy2] = #[.int .i64 q1, .int .i64 q2, .int .i64 q3]) ∧ w.heap.size ≠ g ∧ w.heap.size + 1 ≠ g) ∧ (L 6 → L 4) ∧ (L 7 → L 5) ∧ (L 4 → L 5 → σ 5 ≠ σ 6) ∧ Blk W (w.heap.size) #[.int .i8 x1, .int .i8 y1, .int .i8 z1, .int .u8 b1] 24 ∧ Blk W (w.heap.size + 1) #[.int .i8 x2, .int .i8 y2, .int .i8 z2, .int .u8 b2] 24 ∧ Below w.heap.size w W) (by kernel_rfl) (by kernel_rfl) (by kernel_rfl) ?_ ?_ ?_
  · exact fun σ => ⟨Vals.start, fun h => h.elim, fun h => h.elim, fun h => h.elim, fun h => h.elim, fun h => h.elim, K0.out.below (Below.refl _ _).drew, K1.out.below (Below.refl _ _).drew, B.out.drew⟩
  · refine ⟨?_, ?_, ?_, ?_, ?_, ?_, ?_, ?_, trivial⟩
    · rintro L a W ho ⟨V, jf4, jf5, js6, js7, jn4_5, jb0, jb1, bb⟩ hn hd K hK
      clear hd
      refine Wants.free rfl ?_
      have jr2 : a.tmps[(2 : Nat)]?.getD undef = .pointer (some ⟨w.heap.size, 0, none⟩) := ho.slot 2 rfl
      have jc0 := jb0.at_ 0 _ rfl
      have jc1 := jb0.at_ 1 _ rfl
      have jc2 := jb0.at_ 2 _ rfl
      have jc3 := jb0.at_ 3 _ rfl
      go_simp
      exact hK.out (.agg #[.int .i8 x1, .int .i8 y1, .int .i8 z1, .int .u8 b1]) _ ⟨V.set 0 _ _ rfl rfl rfl, fun h => (by obtain ⟨jg, ju0, ju1, ju2, je1, je2, je3, je4, jne0, jne1⟩ := old jf4 rfl h; exact ⟨jg, _, _, _, je1, je2, je3, fun h => je4 (h.resolve_right (by decide)), jne0, jne1⟩), fun h => (by obtain ⟨jg, ju0, ju1, ju2, je1, je2, je3, je4, jne0, jne1⟩ := old jf5 rfl h; exact ⟨jg, _, _, _, je1, je2, je3, fun h => je4 (h.resolve_right (by decide)), jne0, jne1⟩), fun h => .inl (old js6 rfl h), fun h => .inl (old js7 rfl h), fun h h2 => jn4_5 (h.resolve_right (by decide)) (h2.resolve_right (by decide)), jb0, jb1, bb⟩
    · rintro L a W ho ⟨V, jf4, jf5, js6, js7, jn4_5, jb0, jb1, bb⟩ hn hd K hK
      have jh0 := hd.get 0 rfl
      clear hd
      refine Wants.free rfl ?_
      have jr29 := V.read 0 rfl rfl jh0
      go_simp
      go_at_call 14
      with_reducible refine (I1.out _ bb).mono ?_
      rintro e wx ⟨rfl, q⟩
      go_simp
      exact hK.out (.agg #[.int .i64 p1, .int .i64 p2, .int .i64 p3]) _ ⟨V.set 1 _ _ rfl rfl rfl, fun h => (by obtain ⟨jg, ju0, ju1, ju2, je1, je2, je3, je4, jne0, jne1⟩ := old jf4 rfl h; exact ⟨jg, _, _, _, je1, je2, je3.below q, fun h => je4 (h.resolve_right (by decide)), jne0, jne1⟩), fun h => (by obtain ⟨jg, ju0, ju1, ju2, je1, je2, je3, je4, jne0, jne1⟩ := old jf5 rfl h; exact ⟨jg, _, _, _, je1, je2, je3.below q, fun h => je4 (h.resolve_right (by decide)), jne0, jne1⟩), fun h => .inl (old js6 rfl h), fun h => .inl (old js7 rfl h), fun h h2 => jn4_5 (h.resolve_right (by decide)) (h2.resolve_right (by decide)), jb0.below q, jb1.below q, bb.trans (q.mono bb.size)⟩
    · rintro L a W ho ⟨V, jf4, jf5, js6, js7, jn4_5, jb0, jb1, bb⟩ hn hd K hK
      clear hd
      refine Wants.free rfl ?_
      have jr3 : a.tmps[(3 : Nat)]?.getD undef = .pointer (some ⟨w.heap.size + 1, 0, none⟩) := ho.slot 3 rfl
      have jc0 := jb1.at_ 0 _ rfl
      have jc1 := jb1.at_ 1 _ rfl
      have jc2 := jb1.at_ 2 _ rfl
      have jc3 := jb1.at_ 3 _ rfl
      go_simp
      exact hK.out (.agg #[.int .i8 x2, .int .i8 y2, .int .i8 z2, .int .u8 b2]) _ ⟨V.set 2 _ _ rfl rfl rfl, fun h => (by obtain ⟨jg, ju0, ju1, ju2, je1, je2, je3, je4, jne0, jne1⟩ := old jf4 rfl h; exact ⟨jg, _, _, _, je1, je2, je3, fun h => je4 (h.resolve_right (by decide)), jne0, jne1⟩), fun h => (by obtain ⟨jg, ju0, ju1, ju2, je1, je2, je3, je4, jne0, jne1⟩ := old jf5 rfl h; exact ⟨jg, _, _, _, je1, je2, je3, fun h => je4 (h.resolve_right (by decide)), jne0, jne1⟩), fun h => .inl (old js6 rfl h), fun h => .inl (old js7 rfl h), fun h h2 => jn4_5 (h.resolve_right (by decide)) (h2.resolve_right (by decide)), jb0, jb1, bb⟩
    · rintro L a W ho ⟨V, jf4, jf5, js6, js7, jn4_5, jb0, jb1, bb⟩ hn hd K hK
      have jh2 := hd.get 2 rfl
      clear hd
      refine Wants.free rfl ?_
      have jr31 := V.read 2 rfl rfl jh2
      go_simp
      go_at_call 14
      with_reducible refine (I2.out _ bb).mono ?_
      rintro e wx ⟨rfl, q⟩
      go_simp
      exact hK.out (.agg #[.int .i64 q1, .int .i64 q2, .int .i64 q3]) _ ⟨V.set 3 _ _ rfl rfl rfl, fun h => (by obtain ⟨jg, ju0, ju1, ju2, je1, je2, je3, je4, jne0, jne1⟩ := old jf4 rfl h; exact ⟨jg, _, _, _, je1, je2, je3.below q, fun h => je4 (h.resolve_right (by decide)), jne0, jne1⟩), fun h => (by obtain ⟨jg, ju0, ju1, ju2, je1, je2, je3, je4, jne0, jne1⟩ := old jf5 rfl h; exact ⟨jg, _, _, _, je1, je2, je3.below q, fun h => je4 (h.resolve_right (by decide)), jne0, jne1⟩), fun h => .inl (old js6 rfl h), fun h => .inl (old js7 rfl h), fun h h2 => jn4_5 (h.resolve_right (by decide)) (h2.resolve_right (by decide)), jb0.below q, jb1.below q, bb.trans (q.mono bb.size)⟩
    · rintro L a W ho ⟨V, jf4, jf5, js6, js7, jn4_5, jb0, jb1, bb⟩ hn hd K hK
      clear hd
      refine Wants.free rfl ?_
      go_simp
      exact hK.out (.pointer (some ⟨W.heap.size, 0, none⟩)) _ ⟨V.apart 4 _ _ rfl rfl, fun _ => ⟨W.heap.size, .int .i64 0, .int .i64 0, .int .i64 0, rfl, bb.size, Blk.fresh W #[.int .i64 0, .int .i64 0, .int .i64 0] 27, fun h => absurd (old js6 rfl h) hn, (Nat.ne_of_lt jb0.lt), (Nat.ne_of_lt jb1.lt)⟩, fun h => (by obtain ⟨jg, ju0, ju1, ju2, je1, je2, je3, je4, jne0, jne1⟩ := old jf5 rfl h; exact ⟨jg, _, _, _, je1, je2, je3.alloc (Obj.cells #[.int .i64 0, .int .i64 0, .int .i64 0] 27), fun h => je4 (h.resolve_right (by decide)), jne0, jne1⟩), fun h => .inl (old js6 rfl h), fun h => .inl (old js7 rfl h), fun h h2 => (by obtain ⟨jg, ju0, ju1, ju2, je1, je2, je3, je4, jne0, jne1⟩ := jf5 (h2.resolve_right (by decide)); have jhlt := je3.lt; show (Value.pointer (some ⟨W.heap.size, 0, none⟩)) ≠ slotOf a 6; rw [je1]; intro e; injection e with e; injection e with e; injection e with e; omega), jb0.alloc (Obj.cells #[.int .i64 0, .int .i64 0, .int .i64 0] 27), jb1.alloc (Obj.cells #[.int .i64 0, .int .i64 0, .int .i64 0] 27), bb.trans ((below_new W (Obj.cells #[.int .i64 0, .int .i64 0, .int .i64 0] 27)).mono bb.size)⟩
    · rintro L a W ho ⟨V, jf4, jf5, js6, js7, jn4_5, jb0, jb1, bb⟩ hn hd K hK
      clear hd
      refine Wants.free rfl ?_
      go_simp
      exact hK.out (.pointer (some ⟨W.heap.size, 0, none⟩)) _ ⟨V.apart 5 _ _ rfl rfl, fun h => (by obtain ⟨jg, ju0, ju1, ju2, je1, je2, je3, je4, jne0, jne1⟩ := old jf4 rfl h; exact ⟨jg, _, _, _, je1, je2, je3.alloc (Obj.cells #[.int .i64 0, .int .i64 0, .int .i64 0] 27), fun h => je4 (h.resolve_right (by decide)), jne0, jne1⟩), fun _ => ⟨W.heap.size, .int .i64 0, .int .i64 0, .int .i64 0, rfl, bb.size, Blk.fresh W #[.int .i64 0, .int .i64 0, .int .i64 0] 27, fun h => absurd (old js7 rfl h) hn, (Nat.ne_of_lt jb0.lt), (Nat.ne_of_lt jb1.lt)⟩, fun h => .inl (old js6 rfl h), fun h => .inl (old js7 rfl h), fun h h2 => (by obtain ⟨jg, ju0, ju1, ju2, je1, je2, je3, je4, jne0, jne1⟩ := jf4 (h.resolve_right (by decide)); have jhlt := je3.lt; show slotOf a 5 ≠ (Value.pointer (some ⟨W.heap.size, 0, none⟩)); rw [je1]; intro e; injection e with e; injection e with e; injection e with e; omega), jb0.alloc (Obj.cells #[.int .i64 0, .int .i64 0, .int .i64 0] 27), jb1.alloc (Obj.cells #[.int .i64 0, .int .i64 0, .int .i64 0] 27), bb.trans ((below_new W (Obj.cells #[.int .i64 0, .int .i64 0, .int .i64 0] 27)).mono bb.size)⟩
    · rintro L a W ho ⟨V, jf4, jf5, js6, js7, jn4_5, jb0, jb1, bb⟩ hn hd K hK
      have jh4 := hd.get 4 rfl
      have jh1 := hd.get 1 rfl
      clear hd
      refine Wants.free rfl ?_
      have jr30 := V.read 1 rfl rfl jh1
      obtain ⟨jg, jy0, jy1, jy2, je1, je2, je3, je4, jne0, jne1⟩ := jf4 jh4
      have jr5 : a.tmps[(5 : Nat)]?.getD undef = .pointer (some ⟨jg, 0, none⟩) := je1
      have jc0 := je3.at_ 0 _ rfl
      have jz0 := je3.free 0
      have jc1 := je3.at_ 1 _ rfl
      have jz1 := je3.free 1
      have jc2 := je3.at_ 2 _ rfl
      have jz2 := je3.free 2
      go_simp
      exact hK.out (undef) _ ⟨V.same 6 _ rfl, fun _ => ⟨jg, .int .i64 p1, .int .i64 p2, .int .i64 p3, je1, je2, je3.set3 (.int .i64 p1) (.int .i64 p2) (.int .i64 p3), fun _ => rfl, jne0, jne1⟩, fun h => (by have jhne := jn4_5 jh4 (h.resolve_right (by decide)); obtain ⟨jg2, ju0, ju1, ju2, jt1, jq2, jq3, je4, jnq0, jnq1⟩ := old jf5 rfl h; exact ⟨jg2, _, _, _, jt1, jq2, jq3.else3 (fun e => jhne (by rw [jt1, je1, e])) (.int .i64 p1) (.int .i64 p2) (.int .i64 p3), fun h => je4 (h.resolve_right (by decide)), jnq0, jnq1⟩), fun _ => .inl jh4, fun h => .inl (old js7 rfl h), fun h h2 => jn4_5 (h.resolve_right (by decide)) (h2.resolve_right (by decide)), jb0.else3 jne0 (.int .i64 p1) (.int .i64 p2) (.int .i64 p3), jb1.else3 jne1 (.int .i64 p1) (.int .i64 p2) (.int .i64 p3), bb.trans (below_else3 W w.heap.size jg je2 (.int .i64 p1) (.int .i64 p2) (.int .i64 p3))⟩
    · rintro L a W ho ⟨V, jf4, jf5, js6, js7, jn4_5, jb0, jb1, bb⟩ hn hd K hK
      have jh5 := hd.get 5 rfl
      have jh3 := hd.get 3 rfl
      clear hd
      refine Wants.free rfl ?_
      have jr32 := V.read 3 rfl rfl jh3
      obtain ⟨jg, jy0, jy1, jy2, je1, je2, je3, je4, jne0, jne1⟩ := jf5 jh5
      have jr6 : a.tmps[(6 : Nat)]?.getD undef = .pointer (some ⟨jg, 0, none⟩) := je1
      have jc0 := je3.at_ 0 _ rfl
      have jz0 := je3.free 0
      have jc1 := je3.at_ 1 _ rfl
      have jz1 := je3.free 1
      have jc2 := je3.at_ 2 _ rfl
      have jz2 := je3.free 2
      go_simp
      exact hK.out (undef) _ ⟨V.same 7 _ rfl, fun h => (by have jhne := jn4_5 (h.resolve_right (by decide)) jh5; obtain ⟨jg2, ju0, ju1, ju2, jt1, jq2, jq3, je4, jnq0, jnq1⟩ := old jf4 rfl h; exact ⟨jg2, _, _, _, jt1, jq2, jq3.else3 (fun e => jhne (by rw [jt1, je1, e])) (.int .i64 q1) (.int .i64 q2) (.int .i64 q3), fun h => je4 (h.resolve_right (by decide)), jnq0, jnq1⟩), fun _ => ⟨jg, .int .i64 q1, .int .i64 q2, .int .i64 q3, je1, je2, je3.set3 (.int .i64 q1) (.int .i64 q2) (.int .i64 q3), fun _ => rfl, jne0, jne1⟩, fun h => .inl (old js6 rfl h), fun _ => .inl jh5, fun h h2 => jn4_5 (h.resolve_right (by decide)) (h2.resolve_right (by decide)), jb0.else3 jne0 (.int .i64 q1) (.int .i64 q2) (.int .i64 q3), jb1.else3 jne1 (.int .i64 q1) (.int .i64 q2) (.int .i64 q3), bb.trans (below_else3 W w.heap.size jg je2 (.int .i64 q1) (.int .i64 q2) (.int .i64 q3))⟩
  rintro L σ W ⟨V, jf4, jf5, js6, js7, jn4_5, jb0, jb1, bb⟩ hL
  have jf0 := V 0 _ _ rfl rfl (hL 0 (by decide))
  have jf1 := V 1 _ _ rfl rfl (hL 1 (by decide))
  have jf2 := V 2 _ _ rfl rfl (hL 2 (by decide))
  have jf3 := V 3 _ _ rfl rfl (hL 3 (by decide))
  clear V
  replace jn4_5 := jn4_5 (hL 4 (by decide)) (hL 5 (by decide))
  obtain ⟨g3_4, jy4_0, jy4_1, jy4_2, jf4, jl4, jv4, je4, jne4_0, jne4_1⟩ := jf4 (hL 4 (by decide))
  rw [je4 (hL 6 (by decide))] at jv4
  clear je4 jne4_0 jne4_1
  obtain ⟨g3_5, jy5_0, jy5_1, jy5_2, jf5, jl5, jv5, je5, jne5_0, jne5_1⟩ := jf5 (hL 5 (by decide))
  rw [je5 (hL 7 (by decide))] at jv5
  clear je5 jne5_0 jne5_1
  clear jn4_5
  clear hL js6 js7
  rw [show List.map σ [29, 30, 31, 32, 5, 6] = [σ 29, σ 30, σ 31, σ 32, σ 5, σ 6] from rfl, jf0, jf1, jf2, jf3, jf4, jf5]
  clear jf0 jf1 jf2 jf3 jf4 jf5
  simp only [putAll, List.map, Act.put, List.setIfInBounds_toArray, List.set_cons_succ, List.set_cons_zero]
  replace K0 := Lib.hid jb0
  replace K1 := Lib.hid jb1
  have K2 := Lib.hid jv4
  have K3 := Lib.hid jv5
  replace B := Lib.hid bb
  clear bb jb0 jb1 jv4 jl4 jv5 jl5
  have c0_0 := K0.out.at_ 0 _ rfl
  have c0_1 := K0.out.at_ 1 _ rfl
  have c0_2 := K0.out.at_ 2 _ rfl
  have c0_3 := K0.out.at_ 3 _ rfl
  have c1_0 := K1.out.at_ 0 _ rfl
  have c1_1 := K1.out.at_ 1 _ rfl
  have c1_2 := K1.out.at_ 2 _ rfl
  have c1_3 := K1.out.at_ 3 _ rfl
  have c2_0 := K2.out.at_ 0 _ rfl
  have c2_1 := K2.out.at_ 1 _ rfl
  have c2_2 := K2.out.at_ 2 _ rfl
  have c3_0 := K3.out.at_ 0 _ rfl
  have c3_1 := K3.out.at_ 1 _ rfl
  have c3_2 := K3.out.at_ 2 _ rfl
  go_upto_region 5 with (
   (first
    | (go_at_call 16; with_reducible refine (M1.out _ (baseI B.out)).mono ?_)
    | (go_at_call 35; with_reducible refine (O1.out _ (baseI B.out)).mono ?_)
    | fail "arm"); rintro e wx ⟨rfl, q⟩; replace K0 := Lib.hid (K0.out.nearI q); replace K1 := Lib.hid (K1.out.nearI q); replace K2 := Lib.hid (K2.out.nearI q); replace K3 := Lib.hid (K3.out.nearI q); replace B := Lib.hid (goI B.out q); clear q; replace c0_0 := K0.out.at_ 0 _ rfl; replace c0_1 := K0.out.at_ 1 _ rfl; replace c0_2 := K0.out.at_ 2 _ rfl; replace c0_3 := K0.out.at_ 3 _ rfl; replace c1_0 := K1.out.at_ 0 _ rfl; replace c1_1 := K1.out.at_ 1 _ rfl; replace c1_2 := K1.out.at_ 2 _ rfl; replace c1_3 := K1.out.at_ 3 _ rfl; replace c2_0 := K2.out.at_ 0 _ rfl; replace c2_1 := K2.out.at_ 1 _ rfl; replace c2_2 := K2.out.at_ 2 _ rfl; replace c3_0 := K3.out.at_ 0 _ rfl; replace c3_1 := K3.out.at_ 1 _ rfl; replace c3_2 := K3.out.at_ 2 _ rfl)
  clear c0_0 c0_1 c0_2 c0_3 c1_0 c1_1 c1_2 c1_3 c2_0 c2_1 c2_2 c3_0 c3_1 c3_2
  refine wp_region_par (by kernel_rfl) [41, 42, 43, 44, 45, 40, 46, 47, 10, 11] (fun L σ W => Vals [some 41, some 42, some 43, some 44, some 45, some 40, some 46, some 47, some 10, some 11] [(.agg #[.int .i8 x1, .int .i8 y1, .int .i8 z1, .int .u8 b1]), (.agg #[.string A1, .string A2, .string A3]), (.agg #[.int .i8 x2, .int .i8 y2, .int .i8 z2, .int .u8 b2]), (.agg #[.string C1, .string C2, .string C3]), (.tuple #[.int .i64 c, .int .i64 0]), (.tuple #[.int .i64 c, .int .i64 0]), (.int .i64 c), (.int .i64 0), (.int .i64 c), (.int .i64 0)] L σ ∧ Blk W (w.heap.size) #[.int .i8 x1, .int .i8 y1, .int .i8 z1, .int .u8 b1] 24 ∧ Blk W (w.heap.size + 1) #[.int .i8 x2, .int .i8 y2, .int .i8 z2, .int .u8 b2] 24 ∧ Blk W (g3_4) #[.int .i64 p1, .int .i64 p2, .int .i64 p3] 27 ∧ Blk W (g3_5) #[.int .i64 q1, .int .i64 q2, .int .i64 q3] 27 ∧ Below w.heap.size w W) (by kernel_rfl) (by kernel_rfl) (by kernel_rfl) ?_ ?_ ?_
  · exact fun σ => ⟨Vals.start, K0.out.below (Below.refl _ _).drew, K1.out.below (Below.refl _ _).drew, K2.out.below (Below.refl _ _).drew, K3.out.below (Below.refl _ _).drew, B.out.drew⟩
  · refine ⟨?_, ?_, ?_, ?_, ?_, ?_, ?_, ?_, ?_, ?_, trivial⟩
    · rintro L a W ho ⟨V, jb0, jb1, jb2, jb3, bb⟩ hn hd K hK
      clear hd
      refine Wants.free rfl ?_
      have jr2 : a.tmps[(2 : Nat)]?.getD undef = .pointer (some ⟨w.heap.size, 0, none⟩) := ho.slot 2 rfl
      have jc0 := jb0.at_ 0 _ rfl
      have jc1 := jb0.at_ 1 _ rfl
      have jc2 := jb0.at_ 2 _ rfl
      have jc3 := jb0.at_ 3 _ rfl
      go_simp
      exact hK.out (.agg #[.int .i8 x1, .int .i8 y1, .int .i8 z1, .int .u8 b1]) _ ⟨V.set 0 _ _ rfl rfl rfl, jb0, jb1, jb2, jb3, bb⟩
    · rintro L a W ho ⟨V, jb0, jb1, jb2, jb3, bb⟩ hn hd K hK
      have jh0 := hd.get 0 rfl
      clear hd
      refine Wants.free rfl ?_
      have jr41 := V.read 0 rfl rfl jh0
      go_simp
      go_at_call 16
      with_reducible refine (M1.out _ bb).mono ?_
      rintro e wx ⟨rfl, q⟩
      go_simp
      exact hK.out (.agg #[.string A1, .string A2, .string A3]) _ ⟨V.set 1 _ _ rfl rfl rfl, jb0.below q, jb1.below q, jb2.below q, jb3.below q, bb.trans (q.mono bb.size)⟩
    · rintro L a W ho ⟨V, jb0, jb1, jb2, jb3, bb⟩ hn hd K hK
      clear hd
      refine Wants.free rfl ?_
      have jr3 : a.tmps[(3 : Nat)]?.getD undef = .pointer (some ⟨w.heap.size + 1, 0, none⟩) := ho.slot 3 rfl
      have jc0 := jb1.at_ 0 _ rfl
      have jc1 := jb1.at_ 1 _ rfl
      have jc2 := jb1.at_ 2 _ rfl
      have jc3 := jb1.at_ 3 _ rfl
      go_simp
      exact hK.out (.agg #[.int .i8 x2, .int .i8 y2, .int .i8 z2, .int .u8 b2]) _ ⟨V.set 2 _ _ rfl rfl rfl, jb0, jb1, jb2, jb3, bb⟩
    · rintro L a W ho ⟨V, jb0, jb1, jb2, jb3, bb⟩ hn hd K hK
      have jh2 := hd.get 2 rfl
      clear hd
      refine Wants.free rfl ?_
      have jr43 := V.read 2 rfl rfl jh2
      go_simp
      go_at_call 16
      with_reducible refine (M2.out _ bb).mono ?_
      rintro e wx ⟨rfl, q⟩
      go_simp
      exact hK.out (.agg #[.string C1, .string C2, .string C3]) _ ⟨V.set 3 _ _ rfl rfl rfl, jb0.below q, jb1.below q, jb2.below q, jb3.below q, bb.trans (q.mono bb.size)⟩
    · rintro L a W ho ⟨V, jb0, jb1, jb2, jb3, bb⟩ hn hd K hK
      have jh1 := hd.get 1 rfl
      have jh3 := hd.get 3 rfl
      clear hd
      refine Wants.free rfl ?_
      have jr42 := V.read 1 rfl rfl jh1
      have jr44 := V.read 3 rfl rfl jh3
      go_simp
      go_at_call 36
      with_reducible refine (O2.out _ bb).mono ?_
      rintro e wx ⟨rfl, q⟩
      go_simp
      exact hK.out (.tuple #[.int .i64 c, .int .i64 0]) _ ⟨V.set 4 _ _ rfl rfl rfl, jb0.below q, jb1.below q, jb2.below q, jb3.below q, bb.trans (q.mono bb.size)⟩
    · rintro L a W ho ⟨V, jb0, jb1, jb2, jb3, bb⟩ hn hd K hK
      have jh4 := hd.get 4 rfl
      clear hd
      refine Wants.free rfl ?_
      have jr45 := V.read 4 rfl rfl jh4
      go_simp
      exact hK.out (.tuple #[.int .i64 c, .int .i64 0]) _ ⟨V.set 5 _ _ rfl rfl rfl, jb0, jb1, jb2, jb3, bb⟩
    · rintro L a W ho ⟨V, jb0, jb1, jb2, jb3, bb⟩ hn hd K hK
      have jh5 := hd.get 5 rfl
      clear hd
      refine Wants.free rfl ?_
      have jr40 := V.read 5 rfl rfl jh5
      go_simp
      exact hK.out (.int .i64 c) _ ⟨V.set 6 _ _ rfl rfl rfl, jb0, jb1, jb2, jb3, bb⟩
    · rintro L a W ho ⟨V, jb0, jb1, jb2, jb3, bb⟩ hn hd K hK
      have jh5 := hd.get 5 rfl
      clear hd
      refine Wants.free rfl ?_
      have jr40 := V.read 5 rfl rfl jh5
      go_simp
      exact hK.out (.int .i64 0) _ ⟨V.set 7 _ _ rfl rfl rfl, jb0, jb1, jb2, jb3, bb⟩
    · rintro L a W ho ⟨V, jb0, jb1, jb2, jb3, bb⟩ hn hd K hK
      have jh6 := hd.get 6 rfl
      clear hd
      refine Wants.free rfl ?_
      have jr46 := V.read 6 rfl rfl jh6
      go_simp
      exact hK.out (.int .i64 c) _ ⟨V.set 8 _ _ rfl rfl rfl, jb0, jb1, jb2, jb3, bb⟩
    · rintro L a W ho ⟨V, jb0, jb1, jb2, jb3, bb⟩ hn hd K hK
      have jh7 := hd.get 7 rfl
      clear hd
      refine Wants.free rfl ?_
      have jr47 := V.read 7 rfl rfl jh7
      go_simp
      exact hK.out (.int .i64 0) _ ⟨V.set 9 _ _ rfl rfl rfl, jb0, jb1, jb2, jb3, bb⟩
  rintro L σ W ⟨V, jb0, jb1, jb2, jb3, bb⟩ hL
  have jf0 := V 0 _ _ rfl rfl (hL 0 (by decide))
  have jf1 := V 1 _ _ rfl rfl (hL 1 (by decide))
  have jf2 := V 2 _ _ rfl rfl (hL 2 (by decide))
  have jf3 := V 3 _ _ rfl rfl (hL 3 (by decide))
  have jf4 := V 4 _ _ rfl rfl (hL 4 (by decide))
  have jf5 := V 5 _ _ rfl rfl (hL 5 (by decide))
  have jf6 := V 6 _ _ rfl rfl (hL 6 (by decide))
  have jf7 := V 7 _ _ rfl rfl (hL 7 (by decide))
  have jf8 := V 8 _ _ rfl rfl (hL 8 (by decide))
  have jf9 := V 9 _ _ rfl rfl (hL 9 (by decide))
  clear V
  clear hL
  rw [show List.map σ [41, 42, 43, 44, 45, 40, 46, 47, 10, 11] = [σ 41, σ 42, σ 43, σ 44, σ 45, σ 40, σ 46, σ 47, σ 10, σ 11] from rfl, jf0, jf1, jf2, jf3, jf4, jf5, jf6, jf7, jf8, jf9]
  clear jf0 jf1 jf2 jf3 jf4 jf5 jf6 jf7 jf8 jf9
  simp only [putAll, List.map, Act.put, List.setIfInBounds_toArray, List.set_cons_succ, List.set_cons_zero]
  replace K0 := Lib.hid jb0
  replace K1 := Lib.hid jb1
  replace K2 := Lib.hid jb2
  replace K3 := Lib.hid jb3
  replace B := Lib.hid bb
  clear bb jb0 jb1 jb2 jb3
  have c0_0 := K0.out.at_ 0 _ rfl
  have c0_1 := K0.out.at_ 1 _ rfl
  have c0_2 := K0.out.at_ 2 _ rfl
  have c0_3 := K0.out.at_ 3 _ rfl
  have c1_0 := K1.out.at_ 0 _ rfl
  have c1_1 := K1.out.at_ 1 _ rfl
  have c1_2 := K1.out.at_ 2 _ rfl
  have c1_3 := K1.out.at_ 3 _ rfl
  have c2_0 := K2.out.at_ 0 _ rfl
  have c2_1 := K2.out.at_ 1 _ rfl
  have c2_2 := K2.out.at_ 2 _ rfl
  have c3_0 := K3.out.at_ 0 _ rfl
  have c3_1 := K3.out.at_ 1 _ rfl
  have c3_2 := K3.out.at_ 2 _ rfl
  go_upto_region 6 with (fail)
  clear c0_0 c0_1 c0_2 c0_3 c1_0 c1_1 c1_2 c1_3 c2_0 c2_1 c2_2 c3_0 c3_1 c3_2
  refine wp_region_par (by kernel_rfl) [48, 49, 50, 51, 52, 53, 54, 55, 56, 57, 58, 59, 60, 61, 62, 63, 64, 65, 66, 67, 68, 69, 12, 13] (fun L σ W => Vals [some 48, some 49, some 50, some 51, some 52, some 53, some 54, some 55, some 56, some 57, some 58, some 59, some 60, some 61, some 62, some 63, some 64, some 65, some 66, some 67, some 68, some 69, some 12, some 13] [(.pointer (some ⟨g3_4, 0, none⟩)), (.int .i64 p1), (.pointer (some ⟨g3_4, 0, none⟩)), (.int .i64 p1), (.int .i64 (p1 * p1)), (.pointer (some ⟨g3_4, 1, none⟩)), (.int .i64 p2), (.pointer (some ⟨g3_4, 1, none⟩)), (.int .i64 p2), (.int .i64 (p2 * p2)), (.int .i64 ((p1 * p1) + (p2 * p2))), (.pointer (some ⟨g3_5, 0, none⟩)), (.int .i64 q1), (.pointer (some ⟨g3_5, 0, none⟩)), (.int .i64 q1), (.int .i64 (q1 * q1)), (.pointer (some ⟨g3_5, 1, none⟩)), (.int .i64 q2), (.pointer (some ⟨g3_5, 1, none⟩)), (.int .i64 q2), (.int .i64 (q2 * q2)), (.int .i64 ((q1 * q1) + (q2 * q2))), (.int .i64 ((p1 * p1) + (p2 * p2))), (.int .i64 ((q1 * q1) + (q2 * q2)))] L σ ∧ Blk W (w.heap.size) #[.int .i8 x1, .int .i8 y1, .int .i8 z1, .int .u8 b1] 24 ∧ Blk W (w.heap.size + 1) #[.int .i8 x2, .int .i8 y2, .int .i8 z2, .int .u8 b2] 24 ∧ Blk W (g3_4) #[.int .i64 p1, .int .i64 p2, .int .i64 p3] 27 ∧ Blk W (g3_5) #[.int .i64 q1, .int .i64 q2, .int .i64 q3] 27 ∧ Below w.heap.size w W) (by kernel_rfl) (by kernel_rfl) (by kernel_rfl) ?_ ?_ ?_
  · exact fun σ => ⟨Vals.start, K0.out.below (Below.refl _ _).drew, K1.out.below (Below.refl _ _).drew, K2.out.below (Below.refl _ _).drew, K3.out.below (Below.refl _ _).drew, B.out.drew⟩
  · refine ⟨?_, ?_, ?_, ?_, ?_, ?_, ?_, ?_, ?_, ?_, ?_, ?_, ?_, ?_, ?_, ?_, ?_, ?_, ?_, ?_, ?_, ?_, ?_, ?_, trivial⟩
    · rintro L a W ho ⟨V, jb0, jb1, jb2, jb3, bb⟩ hn hd K hK
      clear hd
      refine Wants.free rfl ?_
      have jr5 : a.tmps[(5 : Nat)]?.getD undef = .pointer (some ⟨g3_4, 0, none⟩) := ho.slot 5 rfl
      go_simp
      exact hK.out (.pointer (some ⟨g3_4, 0, none⟩)) _ ⟨V.set 0 _ _ rfl rfl rfl, jb0, jb1, jb2, jb3, bb⟩
    · rintro L a W ho ⟨V, jb0, jb1, jb2, jb3, bb⟩ hn hd K hK
      have jh0 := hd.get 0 rfl
      clear hd
      refine Wants.free rfl ?_
      have jr48 := V.read 0 rfl rfl jh0
      have jc0 := jb2.at_ 0 _ rfl
      go_simp
      exact hK.out (.int .i64 p1) _ ⟨V.set 1 _ _ rfl rfl rfl, jb0, jb1, jb2, jb3, bb⟩
    · rintro L a W ho ⟨V, jb0, jb1, jb2, jb3, bb⟩ hn hd K hK
      clear hd
      refine Wants.free rfl ?_
      have jr5 : a.tmps[(5 : Nat)]?.getD undef = .pointer (some ⟨g3_4, 0, none⟩) := ho.slot 5 rfl
      go_simp
      exact hK.out (.pointer (some ⟨g3_4, 0, none⟩)) _ ⟨V.set 2 _ _ rfl rfl rfl, jb0, jb1, jb2, jb3, bb⟩
    · rintro L a W ho ⟨V, jb0, jb1, jb2, jb3, bb⟩ hn hd K hK
      have jh2 := hd.get 2 rfl
      clear hd
      refine Wants.free rfl ?_
      have jr50 := V.read 2 rfl rfl jh2
      have jc0 := jb2.at_ 0 _ rfl
      go_simp
      exact hK.out (.int .i64 p1) _ ⟨V.set 3 _ _ rfl rfl rfl, jb0, jb1, jb2, jb3, bb⟩
    · rintro L a W ho ⟨V, jb0, jb1, jb2, jb3, bb⟩ hn hd K hK
      have jh1 := hd.get 1 rfl
      have jh3 := hd.get 3 rfl
      clear hd
      refine Wants.free rfl ?_
      have jr49 := V.read 1 rfl rfl jh1
      have jr51 := V.read 3 rfl rfl jh3
      go_simp
      exact hK.out (.int .i64 (p1 * p1)) _ ⟨V.set 4 _ _ rfl rfl rfl, jb0, jb1, jb2, jb3, bb⟩
    · rintro L a W ho ⟨V, jb0, jb1, jb2, jb3, bb⟩ hn hd K hK
      clear hd
      refine Wants.free rfl ?_
      have jr5 : a.tmps[(5 : Nat)]?.getD undef = .pointer (some ⟨g3_4, 0, none⟩) := ho.slot 5 rfl
      go_simp
      exact hK.out (.pointer (some ⟨g3_4, 1, none⟩)) _ ⟨V.set 5 _ _ rfl rfl rfl, jb0, jb1, jb2, jb3, bb⟩
    · rintro L a W ho ⟨V, jb0, jb1, jb2, jb3, bb⟩ hn hd K hK
      have jh5 := hd.get 5 rfl
      clear hd
      refine Wants.free rfl ?_
      have jr53 := V.read 5 rfl rfl jh5
      have jc1 := jb2.at_ 1 _ rfl
      go_simp
      exact hK.out (.int .i64 p2) _ ⟨V.set 6 _ _ rfl rfl rfl, jb0, jb1, jb2, jb3, bb⟩
    · rintro L a W ho ⟨V, jb0, jb1, jb2, jb3, bb⟩ hn hd K hK
      clear hd
      refine Wants.free rfl ?_
      have jr5 : a.tmps[(5 : Nat)]?.getD undef = .pointer (some ⟨g3_4, 0, none⟩) := ho.slot 5 rfl
      go_simp
      exact hK.out (.pointer (some ⟨g3_4, 1, none⟩)) _ ⟨V.set 7 _ _ rfl rfl rfl, jb0, jb1, jb2, jb3, bb⟩
    · rintro L a W ho ⟨V, jb0, jb1, jb2, jb3, bb⟩ hn hd K hK
      have jh7 := hd.get 7 rfl
      clear hd
      refine Wants.free rfl ?_
      have jr55 := V.read 7 rfl rfl jh7
      have jc1 := jb2.at_ 1 _ rfl
      go_simp
      exact hK.out (.int .i64 p2) _ ⟨V.set 8 _ _ rfl rfl rfl, jb0, jb1, jb2, jb3, bb⟩
    · rintro L a W ho ⟨V, jb0, jb1, jb2, jb3, bb⟩ hn hd K hK
      have jh6 := hd.get 6 rfl
      have jh8 := hd.get 8 rfl
      clear hd
      refine Wants.free rfl ?_
      have jr54 := V.read 6 rfl rfl jh6
      have jr56 := V.read 8 rfl rfl jh8
      go_simp
      exact hK.out (.int .i64 (p2 * p2)) _ ⟨V.set 9 _ _ rfl rfl rfl, jb0, jb1, jb2, jb3, bb⟩
    · rintro L a W ho ⟨V, jb0, jb1, jb2, jb3, bb⟩ hn hd K hK
      have jh4 := hd.get 4 rfl
      have jh9 := hd.get 9 rfl
      clear hd
      refine Wants.free rfl ?_
      have jr52 := V.read 4 rfl rfl jh4
      have jr57 := V.read 9 rfl rfl jh9
      go_simp
      exact hK.out (.int .i64 ((p1 * p1) + (p2 * p2))) _ ⟨V.set 10 _ _ rfl rfl rfl, jb0, jb1, jb2, jb3, bb⟩
    · rintro L a W ho ⟨V, jb0, jb1, jb2, jb3, bb⟩ hn hd K hK
      clear hd
      refine Wants.free rfl ?_
      have jr6 : a.tmps[(6 : Nat)]?.getD undef = .pointer (some ⟨g3_5, 0, none⟩) := ho.slot 6 rfl
      go_simp
      exact hK.out (.pointer (some ⟨g3_5, 0, none⟩)) _ ⟨V.set 11 _ _ rfl rfl rfl, jb0, jb1, jb2, jb3, bb⟩
    · rintro L a W ho ⟨V, jb0, jb1, jb2, jb3, bb⟩ hn hd K hK
      have jh11 := hd.get 11 rfl
      clear hd
      refine Wants.free rfl ?_
      have jr59 := V.read 11 rfl rfl jh11
      have jc0 := jb3.at_ 0 _ rfl
      go_simp
      exact hK.out (.int .i64 q1) _ ⟨V.set 12 _ _ rfl rfl rfl, jb0, jb1, jb2, jb3, bb⟩
    · rintro L a W ho ⟨V, jb0, jb1, jb2, jb3, bb⟩ hn hd K hK
      clear hd
      refine Wants.free rfl ?_
      have jr6 : a.tmps[(6 : Nat)]?.getD undef = .pointer (some ⟨g3_5, 0, none⟩) := ho.slot 6 rfl
      go_simp
      exact hK.out (.pointer (some ⟨g3_5, 0, none⟩)) _ ⟨V.set 13 _ _ rfl rfl rfl, jb0, jb1, jb2, jb3, bb⟩
    · rintro L a W ho ⟨V, jb0, jb1, jb2, jb3, bb⟩ hn hd K hK
      have jh13 := hd.get 13 rfl
      clear hd
      refine Wants.free rfl ?_
      have jr61 := V.read 13 rfl rfl jh13
      have jc0 := jb3.at_ 0 _ rfl
      go_simp
      exact hK.out (.int .i64 q1) _ ⟨V.set 14 _ _ rfl rfl rfl, jb0, jb1, jb2, jb3, bb⟩
    · rintro L a W ho ⟨V, jb0, jb1, jb2, jb3, bb⟩ hn hd K hK
      have jh12 := hd.get 12 rfl
      have jh14 := hd.get 14 rfl
      clear hd
      refine Wants.free rfl ?_
      have jr60 := V.read 12 rfl rfl jh12
      have jr62 := V.read 14 rfl rfl jh14
      go_simp
      exact hK.out (.int .i64 (q1 * q1)) _ ⟨V.set 15 _ _ rfl rfl rfl, jb0, jb1, jb2, jb3, bb⟩
    · rintro L a W ho ⟨V, jb0, jb1, jb2, jb3, bb⟩ hn hd K hK
      clear hd
      refine Wants.free rfl ?_
      have jr6 : a.tmps[(6 : Nat)]?.getD undef = .pointer (some ⟨g3_5, 0, none⟩) := ho.slot 6 rfl
      go_simp
      exact hK.out (.pointer (some ⟨g3_5, 1, none⟩)) _ ⟨V.set 16 _ _ rfl rfl rfl, jb0, jb1, jb2, jb3, bb⟩
    · rintro L a W ho ⟨V, jb0, jb1, jb2, jb3, bb⟩ hn hd K hK
      have jh16 := hd.get 16 rfl
      clear hd
      refine Wants.free rfl ?_
      have jr64 := V.read 16 rfl rfl jh16
      have jc1 := jb3.at_ 1 _ rfl
      go_simp
      exact hK.out (.int .i64 q2) _ ⟨V.set 17 _ _ rfl rfl rfl, jb0, jb1, jb2, jb3, bb⟩
    · rintro L a W ho ⟨V, jb0, jb1, jb2, jb3, bb⟩ hn hd K hK
      clear hd
      refine Wants.free rfl ?_
      have jr6 : a.tmps[(6 : Nat)]?.getD undef = .pointer (some ⟨g3_5, 0, none⟩) := ho.slot 6 rfl
      go_simp
      exact hK.out (.pointer (some ⟨g3_5, 1, none⟩)) _ ⟨V.set 18 _ _ rfl rfl rfl, jb0, jb1, jb2, jb3, bb⟩
    · rintro L a W ho ⟨V, jb0, jb1, jb2, jb3, bb⟩ hn hd K hK
      have jh18 := hd.get 18 rfl
      clear hd
      refine Wants.free rfl ?_
      have jr66 := V.read 18 rfl rfl jh18
      have jc1 := jb3.at_ 1 _ rfl
      go_simp
      exact hK.out (.int .i64 q2) _ ⟨V.set 19 _ _ rfl rfl rfl, jb0, jb1, jb2, jb3, bb⟩
    · rintro L a W ho ⟨V, jb0, jb1, jb2, jb3, bb⟩ hn hd K hK
      have jh17 := hd.get 17 rfl
      have jh19 := hd.get 19 rfl
      clear hd
      refine Wants.free rfl ?_
      have jr65 := V.read 17 rfl rfl jh17
      have jr67 := V.read 19 rfl rfl jh19
      go_simp
      exact hK.out (.int .i64 (q2 * q2)) _ ⟨V.set 20 _ _ rfl rfl rfl, jb0, jb1, jb2, jb3, bb⟩
    · rintro L a W ho ⟨V, jb0, jb1, jb2, jb3, bb⟩ hn hd K hK
      have jh15 := hd.get 15 rfl
      have jh20 := hd.get 20 rfl
      clear hd
      refine Wants.free rfl ?_
      have jr63 := V.read 15 rfl rfl jh15
      have jr68 := V.read 20 rfl rfl jh20
      go_simp
      exact hK.out (.int .i64 ((q1 * q1) + (q2 * q2))) _ ⟨V.set 21 _ _ rfl rfl rfl, jb0, jb1, jb2, jb3, bb⟩
    · rintro L a W ho ⟨V, jb0, jb1, jb2, jb3, bb⟩ hn hd K hK
      have jh10 := hd.get 10 rfl
      clear hd
      refine Wants.free rfl ?_
      have jr58 := V.read 10 rfl rfl jh10
      go_simp
      exact hK.out (.int .i64 ((p1 * p1) + (p2 * p2))) _ ⟨V.set 22 _ _ rfl rfl rfl, jb0, jb1, jb2, jb3, bb⟩
    · rintro L a W ho ⟨V, jb0, jb1, jb2, jb3, bb⟩ hn hd K hK
      have jh21 := hd.get 21 rfl
      clear hd
      refine Wants.free rfl ?_
      have jr69 := V.read 21 rfl rfl jh21
      go_simp
      exact hK.out (.int .i64 ((q1 * q1) + (q2 * q2))) _ ⟨V.set 23 _ _ rfl rfl rfl, jb0, jb1, jb2, jb3, bb⟩
  rintro L σ W ⟨V, jb0, jb1, jb2, jb3, bb⟩ hL
  have jf0 := V 0 _ _ rfl rfl (hL 0 (by decide))
  have jf1 := V 1 _ _ rfl rfl (hL 1 (by decide))
  have jf2 := V 2 _ _ rfl rfl (hL 2 (by decide))
  have jf3 := V 3 _ _ rfl rfl (hL 3 (by decide))
  have jf4 := V 4 _ _ rfl rfl (hL 4 (by decide))
  have jf5 := V 5 _ _ rfl rfl (hL 5 (by decide))
  have jf6 := V 6 _ _ rfl rfl (hL 6 (by decide))
  have jf7 := V 7 _ _ rfl rfl (hL 7 (by decide))
  have jf8 := V 8 _ _ rfl rfl (hL 8 (by decide))
  have jf9 := V 9 _ _ rfl rfl (hL 9 (by decide))
  have jf10 := V 10 _ _ rfl rfl (hL 10 (by decide))
  have jf11 := V 11 _ _ rfl rfl (hL 11 (by decide))
  have jf12 := V 12 _ _ rfl rfl (hL 12 (by decide))
  have jf13 := V 13 _ _ rfl rfl (hL 13 (by decide))
  have jf14 := V 14 _ _ rfl rfl (hL 14 (by decide))
  have jf15 := V 15 _ _ rfl rfl (hL 15 (by decide))
  have jf16 := V 16 _ _ rfl rfl (hL 16 (by decide))
  have jf17 := V 17 _ _ rfl rfl (hL 17 (by decide))
  have jf18 := V 18 _ _ rfl rfl (hL 18 (by decide))
  have jf19 := V 19 _ _ rfl rfl (hL 19 (by decide))
  have jf20 := V 20 _ _ rfl rfl (hL 20 (by decide))
  have jf21 := V 21 _ _ rfl rfl (hL 21 (by decide))
  have jf22 := V 22 _ _ rfl rfl (hL 22 (by decide))
  have jf23 := V 23 _ _ rfl rfl (hL 23 (by decide))
  clear V
  clear hL
  rw [show List.map σ [48, 49, 50, 51, 52, 53, 54, 55, 56, 57, 58, 59, 60, 61, 62, 63, 64, 65, 66, 67, 68, 69, 12, 13] = [σ 48, σ 49, σ 50, σ 51, σ 52, σ 53, σ 54, σ 55, σ 56, σ 57, σ 58, σ 59, σ 60, σ 61, σ 62, σ 63, σ 64, σ 65, σ 66, σ 67, σ 68, σ 69, σ 12, σ 13] from rfl, jf0, jf1, jf2, jf3, jf4, jf5, jf6, jf7, jf8, jf9, jf10, jf11, jf12, jf13, jf14, jf15, jf16, jf17, jf18, jf19, jf20, jf21, jf22, jf23]
  clear jf0 jf1 jf2 jf3 jf4 jf5 jf6 jf7 jf8 jf9 jf10 jf11 jf12 jf13 jf14 jf15 jf16 jf17 jf18 jf19 jf20 jf21 jf22 jf23
  simp only [putAll, List.map, Act.put, List.setIfInBounds_toArray, List.set_cons_succ, List.set_cons_zero]
  replace K0 := Lib.hid jb0
  replace K1 := Lib.hid jb1
  replace K2 := Lib.hid jb2
  replace K3 := Lib.hid jb3
  replace B := Lib.hid bb
  clear bb jb0 jb1 jb2 jb3
  have c0_0 := K0.out.at_ 0 _ rfl
  have c0_1 := K0.out.at_ 1 _ rfl
  have c0_2 := K0.out.at_ 2 _ rfl
  have c0_3 := K0.out.at_ 3 _ rfl
  have c1_0 := K1.out.at_ 0 _ rfl
  have c1_1 := K1.out.at_ 1 _ rfl
  have c1_2 := K1.out.at_ 2 _ rfl
  have c1_3 := K1.out.at_ 3 _ rfl
  have c2_0 := K2.out.at_ 0 _ rfl
  have c2_1 := K2.out.at_ 1 _ rfl
  have c2_2 := K2.out.at_ 2 _ rfl
  have c3_0 := K3.out.at_ 0 _ rfl
  have c3_1 := K3.out.at_ 1 _ rfl
  have c3_2 := K3.out.at_ 2 _ rfl
  clear c0_0 c0_1 c0_2 c0_3 c1_0 c1_1 c1_2 c1_3
  rcases hc with ⟨a1, rfl⟩ | ⟨a1, a2, rfl⟩ | ⟨a1, a2, rfl⟩
  all_goals
    go_wp2_with (
     (first
      | (go_at_call 26; with_reducible refine (QU.out _ (baseI B.out)).mono ?_)
      | fail "arm"); rintro e wx ⟨rfl, q⟩; replace K0 := Lib.hid (K0.out.nearI q); replace K1 := Lib.hid (K1.out.nearI q); replace K2 := Lib.hid (K2.out.nearI q); replace K3 := Lib.hid (K3.out.nearI q); replace B := Lib.hid (goI B.out q); clear q; replace c2_0 := K2.out.at_ 0 _ rfl; replace c2_1 := K2.out.at_ 1 _ rfl; replace c2_2 := K2.out.at_ 2 _ rfl; replace c3_0 := K3.out.at_ 0 _ rfl; replace c3_1 := K3.out.at_ 1 _ rfl; replace c3_2 := K3.out.at_ 2 _ rfl)
    go_ret
    exact ⟨rfl, B.out⟩

end Go.Proofs.YtajkeoapfkkjbaaGreatDoor
