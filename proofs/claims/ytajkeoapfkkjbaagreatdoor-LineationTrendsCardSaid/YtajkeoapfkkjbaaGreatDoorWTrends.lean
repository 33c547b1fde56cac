/- The walk of LineationTrends, over texts and ints. -/
import Derived.Test.YtajkeoapfkkjbaaGreatDoorShelf
import Derived.Test.YtajkeoapfkkjbaaGreatDoorPar
import Derived.Deep.RegionHeld3
import Derived.Laws.ResultCell
import Derived.Deep.Cut
import Derived.Deep.CutRange
import Derived.Deep.DeepCutAuto
import Derived.Outline
namespace Go.Proofs.YtajkeoapfkkjbaaGreatDoor
set_option linter.all false
open Go.RowKit

set_option maxRecDepth 100000 in
set_option maxHeartbeats 4000000 in
theorem trends_z1 (x1 y1 z1 b1 x2 y2 z2 b2 p1 p2 p3 : Int) (w : World)
    (kn : ∀ W, Below w.heap.size w W → Calls Tryz.prog 12 #[] W fun e w' => e = .returned (.bool true) ∧ Below W.heap.size W w')
    (i1 : ∀ W, Below w.heap.size w W → Calls Tryz.prog 14 #[.agg #[.int .i8 x1, .int .i8 y1, .int .i8 z1, .int .u8 b1]] W fun e w' => e = .returned (.agg #[.int .i64 p1, .int .i64 p2, .int .i64 p3]) ∧ Below W.heap.size W w')
    (s1 : ∀ W, Below w.heap.size w W → Calls Tryz.prog 13 #[.agg #[.int .i64 p1, .int .i64 p2, .int .i64 p3]] W fun e w' => e = .returned (.bool true) ∧ Below W.heap.size W w') :
    Calls Tryz.prog 8 #[.agg #[.int .i8 x1, .int .i8 y1, .int .i8 z1, .int .u8 b1], .agg #[.int .i8 x2, .int .i8 y2, .int .i8 z2, .int .u8 b2]] w fun e w' => e = .returned (.bool true) ∧ Below w.heap.size w w' := by
  have KN := Lib.hid kn
  have I1 := Lib.hid i1
  have S1 := Lib.hid s1
  clear kn i1 s1
  have k0 := Blk.fresh w #[.int .i8 x1, .int .i8 y1, .int .i8 z1, .int .u8 b1] 24
  replace k0 := k0.alloc (Obj.cells #[.int .i8 x2, .int .i8 y2, .int .i8 z2, .int .u8 b2] 24)
  have k1 := Blk.fresh (w.alloc (Obj.cells #[.int .i8 x1, .int .i8 y1, .int .i8 z1, .int .u8 b1] 24)) #[.int .i8 x2, .int .i8 y2, .int .i8 z2, .int .u8 b2] 24
  rw [show (w.alloc (Obj.cells #[.int .i8 x1, .int .i8 y1, .int .i8 z1, .int .u8 b1] 24)).heap.size = w.heap.size + 1 from World.size_alloc ..] at k1
  have jb0 : Below w.heap.size w ((w.alloc (Obj.cells #[.int .i8 x1, .int .i8 y1, .int .i8 z1, .int .u8 b1] 24)).alloc (Obj.cells #[.int .i8 x2, .int .i8 y2, .int .i8 z2, .int .u8 b2] 24)) := (((Below.refl _ _).alloc (Nat.le_refl _) _).alloc (by simp; try omega) _)
  have K0 := Lib.hid k0
  have K1 := Lib.hid k1
  have B := Lib.hid jb0
  clear jb0 k0 k1
  go_enter Tryz.func8, Tryz.ntmps8
  go_upto_region 1 with (fail)
  generalize ((w.alloc (Obj.cells #[.int .i8 x1, .int .i8 y1, .int .i8 z1, .int .u8 b1] 24)).alloc (Obj.cells #[.int .i8 x2, .int .i8 y2, .int .i8 z2, .int .u8 b2] 24)) = W0 at *
  have c0_0 := K0.out.at_ 0 _ rfl
  have c0_1 := K0.out.at_ 1 _ rfl
  have c0_2 := K0.out.at_ 2 _ rfl
  have c0_3 := K0.out.at_ 3 _ rfl
  have c1_0 := K1.out.at_ 0 _ rfl
  have c1_1 := K1.out.at_ 1 _ rfl
  have c1_2 := K1.out.at_ 2 _ rfl
  have c1_3 := K1.out.at_ 3 _ rfl
  go_wp2_with (
   (first
    | (go_at_call 12; with_reducible refine (KN.out _ (baseI B.out)).mono ?_)
    | (go_at_call 14; with_reducible refine (I1.out _ (baseI B.out)).mono ?_)
    | (go_at_call 13; with_reducible refine (S1.out _ (baseI B.out)).mono ?_)
    | fail "arm"); rintro e wx ⟨rfl, q⟩; replace K0 := Lib.hid (K0.out.nearI q); replace K1 := Lib.hid (K1.out.nearI q); replace B := Lib.hid (goI B.out q); clear q; replace c0_0 := K0.out.at_ 0 _ rfl; replace c0_1 := K0.out.at_ 1 _ rfl; replace c0_2 := K0.out.at_ 2 _ rfl; replace c0_3 := K0.out.at_ 3 _ rfl; replace c1_0 := K1.out.at_ 0 _ rfl; replace c1_1 := K1.out.at_ 1 _ rfl; replace c1_2 := K1.out.at_ 2 _ rfl; replace c1_3 := K1.out.at_ 3 _ rfl)
  go_ret
  exact ⟨rfl, B.out⟩

set_option maxRecDepth 100000 in
set_option maxHeartbeats 4000000 in
theorem trends_z2 (x1 y1 z1 b1 x2 y2 z2 b2 p1 p2 p3 q1 q2 q3 : Int) (w : World)
    (kn : ∀ W, Below w.heap.size w W → Calls Tryz.prog 12 #[] W fun e w' => e = .returned (.bool true) ∧ Below W.heap.size W w')
    (i1 : ∀ W, Below w.heap.size w W → Calls Tryz.prog 14 #[.agg #[.int .i8 x1, .int .i8 y1, .int .i8 z1, .int .u8 b1]] W fun e w' => e = .returned (.agg #[.int .i64 p1, .int .i64 p2, .int .i64 p3]) ∧ Below W.heap.size W w')
    (s1 : ∀ W, Below w.heap.size w W → Calls Tryz.prog 13 #[.agg #[.int .i64 p1, .int .i64 p2, .int .i64 p3]] W fun e w' => e = .returned (.bool false) ∧ Below W.heap.size W w')
    (i2 : ∀ W, Below w.heap.size w W → Calls Tryz.prog 14 #[.agg #[.int .i8 x2, .int .i8 y2, .int .i8 z2, .int .u8 b2]] W fun e w' => e = .returned (.agg #[.int .i64 q1, .int .i64 q2, .int .i64 q3]) ∧ Below W.heap.size W w')
    (s2 : ∀ W, Below w.heap.size w W → Calls Tryz.prog 13 #[.agg #[.int .i64 q1, .int .i64 q2, .int .i64 q3]] W fun e w' => e = .returned (.bool true) ∧ Below W.heap.size W w') :
    Calls Tryz.prog 8 #[.agg #[.int .i8 x1, .int .i8 y1, .int .i8 z1, .int .u8 b1], .agg #[.int .i8 x2, .int .i8 y2, .int .i8 z2, .int .u8 b2]] w fun e w' => e = .returned (.bool true) ∧ Below w.heap.size w w' := by
  have KN := Lib.hid kn
  have I1 := Lib.hid i1
  have S1 := Lib.hid s1
  have I2 := Lib.hid i2
  have S2 := Lib.hid s2
  clear kn i1 s1 i2 s2
  have k0 := Blk.fresh w #[.int .i8 x1, .int .i8 y1, .int .i8 z1, .int .u8 b1] 24
  replace k0 := k0.alloc (Obj.cells #[.int .i8 x2, .int .i8 y2, .int .i8 z2, .int .u8 b2] 24)
  have k1 := Blk.fresh (w.alloc (Obj.cells #[.int .i8 x1, .int .i8 y1, .int .i8 z1, .int .u8 b1] 24)) #[.int .i8 x2, .int .i8 y2, .int .i8 z2, .int .u8 b2] 24
  rw [show (w.alloc (Obj.cells #[.int .i8 x1, .int .i8 y1, .int .i8 z1, .int .u8 b1] 24)).heap.size = w.heap.size + 1 from World.size_alloc ..] at k1
  have jb0 : Below w.heap.size w ((w.alloc (Obj.cells #[.int .i8 x1, .int .i8 y1, .int .i8 z1, .int .u8 b1] 24)).alloc (Obj.cells #[.int .i8 x2, .int .i8 y2, .int .i8 z2, .int .u8 b2] 24)) := (((Below.refl _ _).alloc (Nat.le_refl _) _).alloc (by simp; try omega) _)
  have K0 := Lib.hid k0
  have K1 := Lib.hid k1
  have B := Lib.hid jb0
  clear jb0 k0 k1
  go_enter Tryz.func8, Tryz.ntmps8
  go_upto_region 1 with (fail)
  generalize ((w.alloc (Obj.cells #[.int .i8 x1, .int .i8 y1, .int .i8 z1, .int .u8 b1] 24)).alloc (Obj.cells #[.int .i8 x2, .int .i8 y2, .int .i8 z2, .int .u8 b2] 24)) = W0 at *
  have c0_0 := K0.out.at_ 0 _ rfl
  have c0_1 := K0.out.at_ 1 _ rfl
  have c0_2 := K0.out.at_ 2 _ rfl
  have c0_3 := K0.out.at_ 3 _ rfl
  have c1_0 := K1.out.at_ 0 _ rfl
  have c1_1 := K1.out.at_ 1 _ rfl
  have c1_2 := K1.out.at_ 2 _ rfl
  have c1_3 := K1.out.at_ 3 _ rfl
  go_wp2_with (
   (first
    | (go_at_call 12; with_reducible refine (KN.out _ (baseI B.out)).mono ?_)
    | (go_at_call 14; with_reducible refine (I1.out _ (baseI B.out)).mono ?_)
    | (go_at_call 13; with_reducible refine (S1.out _ (baseI B.out)).mono ?_)
    | (go_at_call 14; with_reducible refine (I2.out _ (baseI B.out)).mono ?_)
    | (go_at_call 13; with_reducible refine (S2.out _ (baseI B.out)).mono ?_)
    | fail "arm"); rintro e wx ⟨rfl, q⟩; replace K0 := Lib.hid (K0.out.nearI q); replace K1 := Lib.hid (K1.out.nearI q); replace B := Lib.hid (goI B.out q); clear q; replace c0_0 := K0.out.at_ 0 _ rfl; replace c0_1 := K0.out.at_ 1 _ rfl; replace c0_2 := K0.out.at_ 2 _ rfl; replace c0_3 := K0.out.at_ 3 _ rfl; replace c1_0 := K1.out.at_ 0 _ rfl; replace c1_1 := K1.out.at_ 1 _ rfl; replace c1_2 := K1.out.at_ 2 _ rfl; replace c1_3 := K1.out.at_ 3 _ rfl)
  go_ret
  exact ⟨rfl, B.out⟩

set_option maxRecDepth 100000 in
set_option maxHeartbeats 4000000 in
theorem trends_none1 (x1 y1 z1 b1 x2 y2 z2 b2 p1 p2 p3 q1 q2 q3 u3 v1 v2 v3 : Int) (A1 A2 A3 C1 C2 C3 : ByteArray) (w : World)
    (kn : ∀ W, Below w.heap.size w W → Calls Tryz.prog 12 #[] W fun e w' => e = .returned (.bool true) ∧ Below W.heap.size W w')
    (i1 : ∀ W, Below w.heap.size w W → Calls Tryz.prog 14 #[.agg #[.int .i8 x1, .int .i8 y1, .int .i8 z1, .int .u8 b1]] W fun e w' => e = .returned (.agg #[.int .i64 p1, .int .i64 p2, .int .i64 p3]) ∧ Below W.heap.size W w')
    (s1 : ∀ W, Below w.heap.size w W → Calls Tryz.prog 13 #[.agg #[.int .i64 p1, .int .i64 p2, .int .i64 p3]] W fun e w' => e = .returned (.bool false) ∧ Below W.heap.size W w')
    (i2 : ∀ W, Below w.heap.size w W → Calls Tryz.prog 14 #[.agg #[.int .i8 x2, .int .i8 y2, .int .i8 z2, .int .u8 b2]] W fun e w' => e = .returned (.agg #[.int .i64 q1, .int .i64 q2, .int .i64 q3]) ∧ Below W.heap.size W w')
    (s2 : ∀ W, Below w.heap.size w W → Calls Tryz.prog 13 #[.agg #[.int .i64 q1, .int .i64 q2, .int .i64 q3]] W fun e w' => e = .returned (.bool false) ∧ Below W.heap.size W w')
    (d1 : ∀ W, Below w.heap.size w W → Calls Tryz.prog 21 #[.agg #[.int .i64 p1, .int .i64 p2, .int .i64 p3]] W fun e w' => e = .returned (.agg #[.int .i64 0, .int .i64 0, .int .i64 u3]) ∧ Below W.heap.size W w')
    (d2 : ∀ W, Below w.heap.size w W → Calls Tryz.prog 21 #[.agg #[.int .i64 q1, .int .i64 q2, .int .i64 q3]] W fun e w' => e = .returned (.agg #[.int .i64 v1, .int .i64 v2, .int .i64 v3]) ∧ Below W.heap.size W w')
    (m1 : ∀ W, Below w.heap.size w W → Calls Tryz.prog 16 #[.agg #[.int .i8 x1, .int .i8 y1, .int .i8 z1, .int .u8 b1]] W fun e w' => e = .returned (.agg #[.string A1, .string A2, .string A3]) ∧ Below W.heap.size W w')
    (m2 : ∀ W, Below w.heap.size w W → Calls Tryz.prog 16 #[.agg #[.int .i8 x2, .int .i8 y2, .int .i8 z2, .int .u8 b2]] W fun e w' => e = .returned (.agg #[.string C1, .string C2, .string C3]) ∧ Below W.heap.size W w')
    (o1 : ∀ W, Below w.heap.size w W → Calls Tryz.prog 31 #[.agg #[.string A1, .string A2, .string A3]] W fun e w' => e = .returned (.tuple #[.int .i64 0, .int .i64 19]) ∧ Below W.heap.size W w')
    (o2 : ∀ W, Below w.heap.size w W → Calls Tryz.prog 32 #[.agg #[.string A1, .string A2, .string A3], .agg #[.string C1, .string C2, .string C3]] W fun e w' => e = .returned (.tuple #[.int .i64 0, .int .i64 19]) ∧ Below W.heap.size W w') :
    Calls Tryz.prog 8 #[.agg #[.int .i8 x1, .int .i8 y1, .int .i8 z1, .int .u8 b1], .agg #[.int .i8 x2, .int .i8 y2, .int .i8 z2, .int .u8 b2]] w fun e w' => e = .returned (.bool true) ∧ Below w.heap.size w w' := by
  have KN := Lib.hid kn
  have I1 := Lib.hid i1
  have S1 := Lib.hid s1
  have I2 := Lib.hid i2
  have S2 := Lib.hid s2
  have D1 := Lib.hid d1
  have D2 := Lib.hid d2
  have M1 := Lib.hid m1
  have M2 := Lib.hid m2
  have O1 := Lib.hid o1
  have O2 := Lib.hid o2
  clear kn i1 s1 i2 s2 d1 d2 m1 m2 o1 o2
  have k0 := Blk.fresh w #[.int .i8 x1, .int .i8 y1, .int .i8 z1, .int .u8 b1] 24
  replace k0 := k0.alloc (Obj.cells #[.int .i8 x2, .int .i8 y2, .int .i8 z2, .int .u8 b2] 24)
  have k1 := Blk.fresh (w.alloc (Obj.cells #[.int .i8 x1, .int .i8 y1, .int .i8 z1, .int .u8 b1] 24)) #[.int .i8 x2, .int .i8 y2, .int .i8 z2, .int .u8 b2] 24
  rw [show (w.alloc (Obj.cells #[.int .i8 x1, .int .i8 y1, .int .i8 z1, .int .u8 b1] 24)).heap.size = w.heap.size + 1 from World.size_alloc ..] at k1
  have jb0 : Below w.heap.size w ((w.alloc (Obj.cells #[.int .i8 x1, .int .i8 y1, .int .i8 z1, .int .u8 b1] 24)).alloc (Obj.cells #[.int .i8 x2, .int .i8 y2, .int .i8 z2, .int .u8 b2] 24)) := (((Below.refl _ _).alloc (Nat.le_refl _) _).alloc (by simp; try omega) _)
  have K0 := Lib.hid k0
  have K1 := Lib.hid k1
  have B := Lib.hid jb0
  clear jb0 k0 k1
  go_enter Tryz.func8, Tryz.ntmps8
  go_upto_region 1 with (fail)
  generalize ((w.alloc (Obj.cells #[.int .i8 x1, .int .i8 y1, .int .i8 z1, .int .u8 b1] 24)).alloc (Obj.cells #[.int .i8 x2, .int .i8 y2, .int .i8 z2, .int .u8 b2] 24)) = W0 at *
  have c0_0 := K0.out.at_ 0 _ rfl
  have c0_1 := K0.out.at_ 1 _ rfl
  have c0_2 := K0.out.at_ 2 _ rfl
  have c0_3 := K0.out.at_ 3 _ rfl
  have c1_0 := K1.out.at_ 0 _ rfl
  have c1_1 := K1.out.at_ 1 _ rfl
  have c1_2 := K1.out.at_ 2 _ rfl
  have c1_3 := K1.out.at_ 3 _ rfl
  go_upto_region 3 with (
   (first
    | (go_at_call 12; with_reducible refine (KN.out _ (baseI B.out)).mono ?_)
    | (go_at_call 14; with_reducible refine (I1.out _ (baseI B.out)).mono ?_)
    | (go_at_call 13; with_reducible refine (S1.out _ (baseI B.out)).mono ?_)
    | (go_at_call 14; with_reducible refine (I2.out _ (baseI B.out)).mono ?_)
    | (go_at_call 13; with_reducible refine (S2.out _ (baseI B.out)).mono ?_)
    | fail "arm"); rintro e wx ⟨rfl, q⟩; replace K0 := Lib.hid (K0.out.nearI q); replace K1 := Lib.hid (K1.out.nearI q); replace B := Lib.hid (goI B.out q); clear q; replace c0_0 := K0.out.at_ 0 _ rfl; replace c0_1 := K0.out.at_ 1 _ rfl; replace c0_2 := K0.out.at_ 2 _ rfl; replace c0_3 := K0.out.at_ 3 _ rfl; replace c1_0 := K1.out.at_ 0 _ rfl; replace c1_1 := K1.out.at_ 1 _ rfl; replace c1_2 := K1.out.at_ 2 _ rfl; replace c1_3 := K1.out.at_ 3 _ rfl)
  clear c0_0 c0_1 c0_2 c0_3 c1_0 c1_1 c1_2 c1_3
  refine wp_region_par (by kernel_rfl) [27, 28, 29, 30, 31, 32, 5, 6] (fun L σ W => Vals [some 27, some 28, some 29, some 30, some 31, some 32, none, none, none, none] [(.agg #[.int .i8 x1, .int .i8 y1, .int .i8 z1, .int .u8 b1]), (.agg #[.int .i64 p1, .int .i64 p2, .int .i64 p3]), (.agg #[.int .i64 0, .int .i64 0, .int .i64 u3]), (.agg #[.int .i8 x2, .int .i8 y2, .int .i8 z2, .int .u8 b2]), (.agg #[.int .i64 q1, .int .i64 q2, .int .i64 q3]), (.agg #[.int .i64 v1, .int .i64 v2, .int .i64 v3]), undef, undef, undef, undef] L σ ∧ (L 6 → ∃ (g : Nat) (jy0 jy1 jy2 : Value), σ 5 = .pointer (some ⟨g, 0, none⟩) ∧ w.heap.size ≤ g ∧ Blk W g #[jy0, jy1, jy2] 27 ∧ (L 8 → #[jy0, jy1, jy2] = #[.int .i64 0, .int .i64 0, .int .i64 u3]) ∧ w.heap.size ≠ g ∧ w.heap.size + 1 ≠ g) ∧ (L 7 → ∃ (g : Nat) (jy0 jy1 jy2 : Value), σ 6 = .pointer (some ⟨g, 0, none⟩) ∧ w.heap.size ≤ g ∧ Blk W g #[jy0, jy1, jy2] 27 ∧ (L 9 → #[jy0, jy1, jy2] = #[.int .i64 v1, .int .i64 v2, .int .i64 v3]) ∧ w.heap.size ≠ g ∧ w.heap.size + 1 ≠ g) ∧ (L 8 → L 6) ∧ (L 9 → L 7) ∧ (L 6 → L 7 → σ 5 ≠ σ 6) ∧ Blk W (w.heap.size) #[.int .i8 x1, .int .i8 y1, .int .i8 z1, .int .u8 b1] 24 ∧ Blk W (w.heap.size + 1) #[.int .i8 x2, .int .i8 y2, .int .i8 z2, .int .u8 b2] 24 ∧ Below w.heap.size w W) (by kernel_rfl) (by kernel_rfl) (by kernel_rfl) ?_ ?_ ?_
  · exact fun σ => ⟨Vals.start, fun h => h.elim, fun h => h.elim, fun h => h.elim, fun h => h.elim, fun h => h.elim, K0.out.below (Below.refl _ _).drew, K1.out.below (Below.refl _ _).drew, B.out.drew⟩
  · refine ⟨?_, ?_, ?_, ?_, ?_, ?_, ?_, ?_, ?_, ?_, trivial⟩
    · rintro L a W ho ⟨V, jf6, jf7, js8, js9, jn6_7, jb0, jb1, bb⟩ hn hd K hK
      clear hd
      refine Wants.free rfl ?_
      have jr2 : a.tmps[(2 : Nat)]?.getD undef = .pointer (some ⟨w.heap.size, 0, none⟩) := ho.slot 2 rfl
      have jc0 := jb0.at_ 0 _ rfl
      have jc1 := jb0.at_ 1 _ rfl
      have jc2 := jb0.at_ 2 _ rfl
      have jc3 := jb0.at_ 3 _ rfl
      go_simp
      exact hK.out (.agg #[.int .i8 x1, .int .i8 y1, .int .i8 z1, .int .u8 b1]) _ ⟨V.set 0 _ _ rfl rfl rfl, fun h => (by obtain ⟨jg, ju0, ju1, ju2, je1, je2, je3, je4, jne0, jne1⟩ := old jf6 rfl h; exact ⟨jg, _, _, _, je1, je2, je3, fun h => je4 (h.resolve_right (by decide)), jne0, jne1⟩), fun h => (by obtain ⟨jg, ju0, ju1, ju2, je1, je2, je3, je4, jne0, jne1⟩ := old jf7 rfl h; exact ⟨jg, _, _, _, je1, je2, je3, fun h => je4 (h.resolve_right (by decide)), jne0, jne1⟩), fun h => .inl (old js8 rfl h), fun h => .inl (old js9 rfl h), fun h h2 => jn6_7 (h.resolve_right (by decide)) (h2.resolve_right (by decide)), jb0, jb1, bb⟩
    · rintro L a W ho ⟨V, jf6, jf7, js8, js9, jn6_7, jb0, jb1, bb⟩ hn hd K hK
      have jh0 := hd.get 0 rfl
      clear hd
      refine Wants.free rfl ?_
      have jr27 := V.read 0 rfl rfl jh0
      go_simp
      go_at_call 14
      with_reducible refine (I1.out _ bb).mono ?_
      rintro e wx ⟨rfl, q⟩
      go_simp
      exact hK.out (.agg #[.int .i64 p1, .int .i64 p2, .int .i64 p3]) _ ⟨V.set 1 _ _ rfl rfl rfl, fun h => (by obtain ⟨jg, ju0, ju1, ju2, je1, je2, je3, je4, jne0, jne1⟩ := old jf6 rfl h; exact ⟨jg, _, _, _, je1, je2, je3.below q, fun h => je4 (h.resolve_right (by decide)), jne0, jne1⟩), fun h => (by obtain ⟨jg, ju0, ju1, ju2, je1, je2, je3, je4, jne0, jne1⟩ := old jf7 rfl h; exact ⟨jg, _, _, _, je1, je2, je3.below q, fun h => je4 (h.resolve_right (by decide)), jne0, jne1⟩), fun h => .inl (old js8 rfl h), fun h => .inl (old js9 rfl h), fun h h2 => jn6_7 (h.resolve_right (by decide)) (h2.resolve_right (by decide)), jb0.below q, jb1.below q, bb.trans (q.mono bb.size)⟩
    · rintro L a W ho ⟨V, jf6, jf7, js8, js9, jn6_7, jb0, jb1, bb⟩ hn hd K hK
      have jh1 := hd.get 1 rfl
      clear hd
      refine Wants.free rfl ?_
      have jr28 := V.read 1 rfl rfl jh1
      go_simp
      go_at_call 21
      with_reducible refine (D1.out _ bb).mono ?_
      rintro e wx ⟨rfl, q⟩
      go_simp
      exact hK.out (.agg #[.int .i64 0, .int .i64 0, .int .i64 u3]) _ ⟨V.set 2 _ _ rfl rfl rfl, fun h => (by obtain ⟨jg, ju0, ju1, ju2, je1, je2, je3, je4, jne0, jne1⟩ := old jf6 rfl h; exact ⟨jg, _, _, _, je1, je2, je3.below q, fun h => je4 (h.resolve_right (by decide)), jne0, jne1⟩), fun h => (by obtain ⟨jg, ju0, ju1, ju2, je1, je2, je3, je4, jne0, jne1⟩ := old jf7 rfl h; exact ⟨jg, _, _, _, je1, je2, je3.below q, fun h => je4 (h.resolve_right (by decide)), jne0, jne1⟩), fun h => .inl (old js8 rfl h), fun h => .inl (old js9 rfl h), fun h h2 => jn6_7 (h.resolve_right (by decide)) (h2.resolve_right (by decide)), jb0.below q, jb1.below q, bb.trans (q.mono bb.size)⟩
    · rintro L a W ho ⟨V, jf6, jf7, js8, js9, jn6_7, jb0, jb1, bb⟩ hn hd K hK
      clear hd
      refine Wants.free rfl ?_
      have jr3 : a.tmps[(3 : Nat)]?.getD undef = .pointer (some ⟨w.heap.size + 1, 0, none⟩) := ho.slot 3 rfl
      have jc0 := jb1.at_ 0 _ rfl
      have jc1 := jb1.at_ 1 _ rfl
      have jc2 := jb1.at_ 2 _ rfl
      have jc3 := jb1.at_ 3 _ rfl
      go_simp
      exact hK.out (.agg #[.int .i8 x2, .int .i8 y2, .int .i8 z2, .int .u8 b2]) _ ⟨V.set 3 _ _ rfl rfl rfl, fun h => (by obtain ⟨jg, ju0, ju1, ju2, je1, je2, je3, je4, jne0, jne1⟩ := old jf6 rfl h; exact ⟨jg, _, _, _, je1, je2, je3, fun h => je4 (h.resolve_right (by decide)), jne0, jne1⟩), fun h => (by obtain ⟨jg, ju0, ju1, ju2, je1, je2, je3, je4, jne0, jne1⟩ := old jf7 rfl h; exact ⟨jg, _, _, _, je1, je2, je3, fun h => je4 (h.resolve_right (by decide)), jne0, jne1⟩), fun h => .inl (old js8 rfl h), fun h => .inl (old js9 rfl h), fun h h2 => jn6_7 (h.resolve_right (by decide)) (h2.resolve_right (by decide)), jb0, jb1, bb⟩
    · rintro L a W ho ⟨V, jf6, jf7, js8, js9, jn6_7, jb0, jb1, bb⟩ hn hd K hK
      have jh3 := hd.get 3 rfl
      clear hd
      refine Wants.free rfl ?_
      have jr30 := V.read 3 rfl rfl jh3
      go_simp
      go_at_call 14
      with_reducible refine (I2.out _ bb).mono ?_
      rintro e wx ⟨rfl, q⟩
      go_simp
      exact hK.out (.agg #[.int .i64 q1, .int .i64 q2, .int .i64 q3]) _ ⟨V.set 4 _ _ rfl rfl rfl, fun h => (by obtain ⟨jg, ju0, ju1, ju2, je1, je2, je3, je4, jne0, jne1⟩ := old jf6 rfl h; exact ⟨jg, _, _, _, je1, je2, je3.below q, fun h => je4 (h.resolve_right (by decide)), jne0, jne1⟩), fun h => (by obtain ⟨jg, ju0, ju1, ju2, je1, je2, je3, je4, jne0, jne1⟩ := old jf7 rfl h; exact ⟨jg, _, _, _, je1, je2, je3.below q, fun h => je4 (h.resolve_right (by decide)), jne0, jne1⟩), fun h => .inl (old js8 rfl h), fun h => .inl (old js9 rfl h), fun h h2 => jn6_7 (h.resolve_right (by decide)) (h2.resolve_right (by decide)), jb0.below q, jb1.below q, bb.trans (q.mono bb.size)⟩
    · rintro L a W ho ⟨V, jf6, jf7, js8, js9, jn6_7, jb0, jb1, bb⟩ hn hd K hK
      have jh4 := hd.get 4 rfl
      clear hd
      refine Wants.free rfl ?_
      have jr31 := V.read 4 rfl rfl jh4
      go_simp
      go_at_call 21
      with_reducible refine (D2.out _ bb).mono ?_
      rintro e wx ⟨rfl, q⟩
      go_simp
      exact hK.out (.agg #[.int .i64 v1, .int .i64 v2, .int .i64 v3]) _ ⟨V.set 5 _ _ rfl rfl rfl, fun h => (by obtain ⟨jg, ju0, ju1, ju2, je1, je2, je3, je4, jne0, jne1⟩ := old jf6 rfl h; exact ⟨jg, _, _, _, je1, je2, je3.below q, fun h => je4 (h.resolve_right (by decide)), jne0, jne1⟩), fun h => (by obtain ⟨jg, ju0, ju1, ju2, je1, je2, je3, je4, jne0, jne1⟩ := old jf7 rfl h; exact ⟨jg, _, _, _, je1, je2, je3.below q, fun h => je4 (h.resolve_right (by decide)), jne0, jne1⟩), fun h => .inl (old js8 rfl h), fun h => .inl (old js9 rfl h), fun h h2 => jn6_7 (h.resolve_right (by decide)) (h2.resolve_right (by decide)), jb0.below q, jb1.below q, bb.trans (q.mono bb.size)⟩
    · rintro L a W ho ⟨V, jf6, jf7, js8, js9, jn6_7, jb0, jb1, bb⟩ hn hd K hK
      clear hd
      refine Wants.free rfl ?_
      go_simp
      exact hK.out (.pointer (some ⟨W.heap.size, 0, none⟩)) _ ⟨V.apart 6 _ _ rfl rfl, fun _ => ⟨W.heap.size, .int .i64 0, .int .i64 0, .int .i64 0, rfl, bb.size, Blk.fresh W #[.int .i64 0, .int .i64 0, .int .i64 0] 27, fun h => absurd (old js8 rfl h) hn, (Nat.ne_of_lt jb0.lt), (Nat.ne_of_lt jb1.lt)⟩, fun h => (by obtain ⟨jg, ju0, ju1, ju2, je1, je2, je3, je4, jne0, jne1⟩ := old jf7 rfl h; exact ⟨jg, _, _, _, je1, je2, je3.alloc (Obj.cells #[.int .i64 0, .int .i64 0, .int .i64 0] 27), fun h => je4 (h.resolve_right (by decide)), jne0, jne1⟩), fun h => .inl (old js8 rfl h), fun h => .inl (old js9 rfl h), fun h h2 => (by obtain ⟨jg, ju0, ju1, ju2, je1, je2, je3, je4, jne0, jne1⟩ := jf7 (h2.resolve_right (by decide)); have jhlt := je3.lt; show (Value.pointer (some ⟨W.heap.size, 0, none⟩)) ≠ slotOf a 6; rw [je1]; intro e; injection e with e; injection e with e; injection e with e; omega), jb0.alloc (Obj.cells #[.int .i64 0, .int .i64 0, .int .i64 0] 27), jb1.alloc (Obj.cells #[.int .i64 0, .int .i64 0, .int .i64 0] 27), bb.trans ((below_new W (Obj.cells #[.int .i64 0, .int .i64 0, .int .i64 0] 27)).mono bb.size)⟩
    · rintro L a W ho ⟨V, jf6, jf7, js8, js9, jn6_7, jb0, jb1, bb⟩ hn hd K hK
      clear hd
      refine Wants.free rfl ?_
      go_simp
      exact hK.out (.pointer (some ⟨W.heap.size, 0, none⟩)) _ ⟨V.apart 7 _ _ rfl rfl, fun h => (by obtain ⟨jg, ju0, ju1, ju2, je1, je2, je3, je4, jne0, jne1⟩ := old jf6 rfl h; exact ⟨jg, _, _, _, je1, je2, je3.alloc (Obj.cells #[.int .i64 0, .int .i64 0, .int .i64 0] 27), fun h => je4 (h.resolve_right (by decide)), jne0, jne1⟩), fun _ => ⟨W.heap.size, .int .i64 0, .int .i64 0, .int .i64 0, rfl, bb.size, Blk.fresh W #[.int .i64 0, .int .i64 0, .int .i64 0] 27, fun h => absurd (old js9 rfl h) hn, (Nat.ne_of_lt jb0.lt), (Nat.ne_of_lt jb1.lt)⟩, fun h => .inl (old js8 rfl h), fun h => .inl (old js9 rfl h), fun h h2 => (by obtain ⟨jg, ju0, ju1, ju2, je1, je2, je3, je4, jne0, jne1⟩ := jf6 (h.resolve_right (by decide)); have jhlt := je3.lt; show slotOf a 5 ≠ (Value.pointer (some ⟨W.heap.size, 0, none⟩)); rw [je1]; intro e; injection e with e; injection e with e; injection e with e; omega), jb0.alloc (Obj.cells #[.int .i64 0, .int .i64 0, .int .i64 0] 27), jb1.alloc (Obj.cells #[.int .i64 0, .int .i64 0, .int .i64 0] 27), bb.trans ((below_new W (Obj.cells #[.int .i64 0, .int .i64 0, .int .i64 0] 27)).mono bb.size)⟩
    · rintro L a W ho ⟨V, jf6, jf7, js8, js9, jn6_7, jb0, jb1, bb⟩ hn hd K hK
      have jh6 := hd.get 6 rfl
      have jh2 := hd.get 2 rfl
      clear hd
      refine Wants.free rfl ?_
      have jr29 := V.read 2 rfl rfl jh2
      obtain ⟨jg, jy0, jy1, jy2, je1, je2, je3, je4, jne0, jne1⟩ := jf6 jh6
      have jr5 : a.tmps[(5 : Nat)]?.getD undef = .pointer (some ⟨jg, 0, none⟩) := je1
      have jc0 := je3.at_ 0 _ rfl
      have jz0 := je3.free 0
      have jc1 := je3.at_ 1 _ rfl
      have jz1 := je3.free 1
      have jc2 := je3.at_ 2 _ rfl
      have jz2 := je3.free 2
      go_simp
      exact hK.out (undef) _ ⟨V.same 8 _ rfl, fun _ => ⟨jg, .int .i64 0, .int .i64 0, .int .i64 u3, je1, je2, je3.set3 (.int .i64 0) (.int .i64 0) (.int .i64 u3), fun _ => rfl, jne0, jne1⟩, fun h => (by have jhne := jn6_7 jh6 (h.resolve_right (by decide)); obtain ⟨jg2, ju0, ju1, ju2, jt1, jq2, jq3, je4, jnq0, jnq1⟩ := old jf7 rfl h; exact ⟨jg2, _, _, _, jt1, jq2, jq3.else3 (fun e => jhne (by rw [jt1, je1, e])) (.int .i64 0) (.int .i64 0) (.int .i64 u3), fun h => je4 (h.resolve_right (by decide)), jnq0, jnq1⟩), fun _ => .inl jh6, fun h => .inl (old js9 rfl h), fun h h2 => jn6_7 (h.resolve_right (by decide)) (h2.resolve_right (by decide)), jb0.else3 jne0 (.int .i64 0) (.int .i64 0) (.int .i64 u3), jb1.else3 jne1 (.int .i64 0) (.int .i64 0) (.int .i64 u3), bb.trans (below_else3 W w.heap.size jg je2 (.int .i64 0) (.int .i64 0) (.int .i64 u3))⟩
    · rintro L a W ho ⟨V, jf6, jf7, js8, js9, jn6_7, jb0, jb1, bb⟩ hn hd K hK
      have jh7 := hd.get 7 rfl
      have jh5 := hd.get 5 rfl
      clear hd
      refine Wants.free rfl ?_
      have jr32 := V.read 5 rfl rfl jh5
      obtain ⟨jg, jy0, jy1, jy2, je1, je2, je3, je4, jne0, jne1⟩ := jf7 jh7
      have jr6 : a.tmps[(6 : Nat)]?.getD undef = .pointer (some ⟨jg, 0, none⟩) := je1
      have jc0 := je3.at_ 0 _ rfl
      have jz0 := je3.free 0
      have jc1 := je3.at_ 1 _ rfl
      have jz1 := je3.free 1
      have jc2 := je3.at_ 2 _ rfl
      have jz2 := je3.free 2
      go_simp
      exact hK.out (undef) _ ⟨V.same 9 _ rfl, fun h => (by have jhne := jn6_7 (h.resolve_right (by decide)) jh7; obtain ⟨jg2, ju0, ju1, ju2, jt1, jq2, jq3, je4, jnq0, jnq1⟩ := old jf6 rfl h; exact ⟨jg2, _, _, _, jt1, jq2, jq3.else3 (fun e => jhne (by rw [jt1, je1, e])) (.int .i64 v1) (.int .i64 v2) (.int .i64 v3), fun h => je4 (h.resolve_right (by decide)), jnq0, jnq1⟩), fun _ => ⟨jg, .int .i64 v1, .int .i64 v2, .int .i64 v3, je1, je2, je3.set3 (.int .i64 v1) (.int .i64 v2) (.int .i64 v3), fun _ => rfl, jne0, jne1⟩, fun h => .inl (old js8 rfl h), fun _ => .inl jh7, fun h h2 => jn6_7 (h.resolve_right (by decide)) (h2.resolve_right (by decide)), jb0.else3 jne0 (.int .i64 v1) (.int .i64 v2) (.int .i64 v3), jb1.else3 jne1 (.int .i64 v1) (.int .i64 v2) (.int .i64 v3), bb.trans (below_else3 W w.heap.size jg je2 (.int .i64 v1) (.int .i64 v2) (.int .i64 v3))⟩
  rintro L σ W ⟨V, jf6, jf7, js8, js9, jn6_7, jb0, jb1, bb⟩ hL
  have jf0 := V 0 _ _ rfl rfl (hL 0 (by decide))
  have jf1 := V 1 _ _ rfl rfl (hL 1 (by decide))
  have jf2 := V 2 _ _ rfl rfl (hL 2 (by decide))
  have jf3 := V 3 _ _ rfl rfl (hL 3 (by decide))
  have jf4 := V 4 _ _ rfl rfl (hL 4 (by decide))
  have jf5 := V 5 _ _ rfl rfl (hL 5 (by decide))
  clear V
  replace jn6_7 := jn6_7 (hL 6 (by decide)) (hL 7 (by decide))
  obtain ⟨g3_6, jy6_0, jy6_1, jy6_2, jf6, jl6, jv6, je6, jne6_0, jne6_1⟩ := jf6 (hL 6 (by decide))
  rw [je6 (hL 8 (by decide))] at jv6
  clear je6 jne6_0 jne6_1
  obtain ⟨g3_7, jy7_0, jy7_1, jy7_2, jf7, jl7, jv7, je7, jne7_0, jne7_1⟩ := jf7 (hL 7 (by decide))
  rw [je7 (hL 9 (by decide))] at jv7
  clear je7 jne7_0 jne7_1
  clear jn6_7
  clear hL js8 js9
  rw [show List.map σ [27, 28, 29, 30, 31, 32, 5, 6] = [σ 27, σ 28, σ 29, σ 30, σ 31, σ 32, σ 5, σ 6] from rfl, jf0, jf1, jf2, jf3, jf4, jf5, jf6, jf7]
  clear jf0 jf1 jf2 jf3 jf4 jf5 jf6 jf7
  simp only [putAll, List.map, Act.put, List.setIfInBounds_toArray, List.set_cons_succ, List.set_cons_zero]
  replace K0 := Lib.hid jb0
  replace K1 := Lib.hid jb1
  have K2 := Lib.hid jv6
  have K3 := Lib.hid jv7
  replace B := Lib.hid bb
  clear bb jb0 jb1 jv6 jl6 jv7 jl7
  have c0_0 := K0.out.at_ 0 _ rfl
  have c0_1 := K0.out.at_ 1 _ rfl
  have c0_2 := K0.out.at_ 2 _ rfl
  have c0_3 := K0.out.at_ 3 _ rfl
  have c1_0 := K1.out.at_ 0 _ rfl
  have c1_1 := K1.out.at_ 1 _ rfl
  have c1_2 := K1.out.at_ 2 _ rfl
  have c1_3 := K1.out.at_ 3 _ rfl
  have c2_0 := K2.out.at_ 0 _ rfl
  have c2_1 := K2.out.at_ 1 _ rfl
  have c2_2 := K2.out.at_ 2 _ rfl
  have c3_0 := K3.out.at_ 0 _ rfl
  have c3_1 := K3.out.at_ 1 _ rfl
  have c3_2 := K3.out.at_ 2 _ rfl
  go_upto_region 5 with (
   (first
    | (go_at_call 16; with_reducible refine (M1.out _ (baseI B.out)).mono ?_)
    | (go_at_call 31; with_reducible refine (O1.out _ (baseI B.out)).mono ?_)
    | fail "arm"); rintro e wx ⟨rfl, q⟩; replace K0 := Lib.hid (K0.out.nearI q); replace K1 := Lib.hid (K1.out.nearI q); replace K2 := Lib.hid (K2.out.nearI q); replace K3 := Lib.hid (K3.out.nearI q); replace B := Lib.hid (goI B.out q); clear q; replace c0_0 := K0.out.at_ 0 _ rfl; replace c0_1 := K0.out.at_ 1 _ rfl; replace c0_2 := K0.out.at_ 2 _ rfl; replace c0_3 := K0.out.at_ 3 _ rfl; replace c1_0 := K1.out.at_ 0 _ rfl; replace c1_1 := K1.out.at_ 1 _ rfl; replace c1_2 := K1.out.at_ 2 _ rfl; replace c1_3 := K1.out.at_ 3 _ rfl; replace c2_0 := K2.out.at_ 0 _ rfl; replace c2_1 := K2.out.at_ 1 _ rfl; replace c2_2 := K2.out.at_ 2 _ rfl; replace c3_0 := K3.out.at_ 0 _ rfl; replace c3_1 := K3.out.at_ 1 _ rfl; replace c3_2 := K3.out.at_ 2 _ rfl)
  clear c0_0 c0_1 c0_2 c0_3 c1_0 c1_1 c1_2 c1_3 c2_0 c2_1 c2_2 c3_0 c3_1 c3_2
  refine wp_region_par (by kernel_rfl) [40, 41, 42, 43, 44, 39, 45, 46, 9, 10] (fun L σ W => Vals [some 40, some 41, some 42, some 43, some 44, some 39, some 45, some 46, some 9, some 10] [(.agg #[.int .i8 x1, .int .i8 y1, .int .i8 z1, .int .u8 b1]), (.agg #[.string A1, .string A2, .string A3]), (.agg #[.int .i8 x2, .int .i8 y2, .int .i8 z2, .int .u8 b2]), (.agg #[.string C1, .string C2, .string C3]), (.tuple #[.int .i64 0, .int .i64 19]), (.tuple #[.int .i64 0, .int .i64 19]), (.int .i64 0), (.int .i64 19), (.int .i64 0), (.int .i64 19)] L σ ∧ Blk W (w.heap.size) #[.int .i8 x1, .int .i8 y1, .int .i8 z1, .int .u8 b1] 24 ∧ Blk W (w.heap.size + 1) #[.int .i8 x2, .int .i8 y2, .int .i8 z2, .int .u8 b2] 24 ∧ Blk W (g3_6) #[.int .i64 0, .int .i64 0, .int .i64 u3] 27 ∧ Blk W (g3_7) #[.int .i64 v1, .int .i64 v2, .int .i64 v3] 27 ∧ Below w.heap.size w W) (by kernel_rfl) (by kernel_rfl) (by kernel_rfl) ?_ ?_ ?_
  · exact fun σ => ⟨Vals.start, K0.out.below (Below.refl _ _).drew, K1.out.below (Below.refl _ _).drew, K2.out.below (Below.refl _ _).drew, K3.out.below (Below.refl _ _).drew, B.out.drew⟩
  · refine ⟨?_, ?_, ?_, ?_, ?_, ?_, ?_, ?_, ?_, ?_, trivial⟩
    · rintro L a W ho ⟨V, jb0, jb1, jb2, jb3, bb⟩ hn hd K hK
      clear hd
      refine Wants.free rfl ?_
      have jr2 : a.tmps[(2 : Nat)]?.getD undef = .pointer (some ⟨w.heap.size, 0, none⟩) := ho.slot 2 rfl
      have jc0 := jb0.at_ 0 _ rfl
      have jc1 := jb0.at_ 1 _ rfl
      have jc2 := jb0.at_ 2 _ rfl
      have jc3 := jb0.at_ 3 _ rfl
      go_simp
      exact hK.out (.agg #[.int .i8 x1, .int .i8 y1, .int .i8 z1, .int .u8 b1]) _ ⟨V.set 0 _ _ rfl rfl rfl, jb0, jb1, jb2, jb3, bb⟩
    · rintro L a W ho ⟨V, jb0, jb1, jb2, jb3, bb⟩ hn hd K hK
      have jh0 := hd.get 0 rfl
      clear hd
      refine Wants.free rfl ?_
      have jr40 := V.read 0 rfl rfl jh0
      go_simp
      go_at_call 16
      with_reducible refine (M1.out _ bb).mono ?_
      rintro e wx ⟨rfl, q⟩
      go_simp
      exact hK.out (.agg #[.string A1, .string A2, .string A3]) _ ⟨V.set 1 _ _ rfl rfl rfl, jb0.below q, jb1.below q, jb2.below q, jb3.below q, bb.trans (q.mono bb.size)⟩
    · rintro L a W ho ⟨V, jb0, jb1, jb2, jb3, bb⟩ hn hd K hK
      clear hd
      refine Wants.free rfl ?_
      have jr3 : a.tmps[(3 : Nat)]?.getD undef = .pointer (some ⟨w.heap.size + 1, 0, none⟩) := ho.slot 3 rfl
      have jc0 := jb1.at_ 0 _ rfl
      have jc1 := jb1.at_ 1 _ rfl
      have jc2 := jb1.at_ 2 _ rfl
      have jc3 := jb1.at_ 3 _ rfl
      go_simp
      exact hK.out (.agg #[.int .i8 x2, .int .i8 y2, .int .i8 z2, .int .u8 b2]) _ ⟨V.set 2 _ _ rfl rfl rfl, jb0, jb1, jb2, jb3, bb⟩
    · rintro L a W ho ⟨V, jb0, jb1, jb2, jb3, bb⟩ hn hd K hK
      have jh2 := hd.get 2 rfl
      clear hd
      refine Wants.free rfl ?_
      have jr42 := V.read 2 rfl rfl jh2
      go_simp
      go_at_call 16
      with_reducible refine (M2.out _ bb).mono ?_
      rintro e wx ⟨rfl, q⟩
      go_simp
      exact hK.out (.agg #[.string C1, .string C2, .string C3]) _ ⟨V.set 3 _ _ rfl rfl rfl, jb0.below q, jb1.below q, jb2.below q, jb3.below q, bb.trans (q.mono bb.size)⟩
    · rintro L a W ho ⟨V, jb0, jb1, jb2, jb3, bb⟩ hn hd K hK
      have jh1 := hd.get 1 rfl
      have jh3 := hd.get 3 rfl
      clear hd
      refine Wants.free rfl ?_
      have jr41 := V.read 1 rfl rfl jh1
      have jr43 := V.read 3 rfl rfl jh3
      go_simp
      go_at_call 32
      with_reducible refine (O2.out _ bb).mono ?_
      rintro e wx ⟨rfl, q⟩
      go_simp
      exact hK.out (.tuple #[.int .i64 0, .int .i64 19]) _ ⟨V.set 4 _ _ rfl rfl rfl, jb0.below q, jb1.below q, jb2.below q, jb3.below q, bb.trans (q.mono bb.size)⟩
    · rintro L a W ho ⟨V, jb0, jb1, jb2, jb3, bb⟩ hn hd K hK
      have jh4 := hd.get 4 rfl
      clear hd
      refine Wants.free rfl ?_
      have jr44 := V.read 4 rfl rfl jh4
      go_simp
      exact hK.out (.tuple #[.int .i64 0, .int .i64 19]) _ ⟨V.set 5 _ _ rfl rfl rfl, jb0, jb1, jb2, jb3, bb⟩
    · rintro L a W ho ⟨V, jb0, jb1, jb2, jb3, bb⟩ hn hd K hK
      have jh5 := hd.get 5 rfl
      clear hd
      refine Wants.free rfl ?_
      have jr39 := V.read 5 rfl rfl jh5
      go_simp
      exact hK.out (.int .i64 0) _ ⟨V.set 6 _ _ rfl rfl rfl, jb0, jb1, jb2, jb3, bb⟩
    · rintro L a W ho ⟨V, jb0, jb1, jb2, jb3, bb⟩ hn hd K hK
      have jh5 := hd.get 5 rfl
      clear hd
      refine Wants.free rfl ?_
      have jr39 := V.read 5 rfl rfl jh5
      go_simp
      exact hK.out (.int .i64 19) _ ⟨V.set 7 _ _ rfl rfl rfl, jb0, jb1, jb2, jb3, bb⟩
    · rintro L a W ho ⟨V, jb0, jb1, jb2, jb3, bb⟩ hn hd K hK
      have jh6 := hd.get 6 rfl
      clear hd
      refine Wants.free rfl ?_
      have jr45 := V.read 6 rfl rfl jh6
      go_simp
      exact hK.out (.int .i64 0) _ ⟨V.set 8 _ _ rfl rfl rfl, jb0, jb1, jb2, jb3, bb⟩
    · rintro L a W ho ⟨V, jb0, jb1, jb2, jb3, bb⟩ hn hd K hK
      have jh7 := hd.get 7 rfl
      clear hd
      refine Wants.free rfl ?_
      have jr46 := V.read 7 rfl rfl jh7
      go_simp
      exact hK.out (.int .i64 19) _ ⟨V.set 9 _ _ rfl rfl rfl, jb0, jb1, jb2, jb3, bb⟩
  rintro L σ W ⟨V, jb0, jb1, jb2, jb3, bb⟩ hL
  have jf0 := V 0 _ _ rfl rfl (hL 0 (by decide))
  have jf1 := V 1 _ _ rfl rfl (hL 1 (by decide))
  have jf2 := V 2 _ _ rfl rfl (hL 2 (by decide))
  have jf3 := V 3 _ _ rfl rfl (hL 3 (by decide))
  have jf4 := V 4 _ _ rfl rfl (hL 4 (by decide))
  have jf5 := V 5 _ _ rfl rfl (hL 5 (by decide))
  have jf6 := V 6 _ _ rfl rfl (hL 6 (by decide))
  have jf7 := V 7 _ _ rfl rfl (hL 7 (by decide))
  have jf8 := V 8 _ _ rfl rfl (hL 8 (by decide))
  have jf9 := V 9 _ _ rfl rfl (hL 9 (by decide))
  clear V
  clear hL
  rw [show List.map σ [40, 41, 42, 43, 44, 39, 45, 46, 9, 10] = [σ 40, σ 41, σ 42, σ 43, σ 44, σ 39, σ 45, σ 46, σ 9, σ 10] from rfl, jf0, jf1, jf2, jf3, jf4, jf5, jf6, jf7, jf8, jf9]
  clear jf0 jf1 jf2 jf3 jf4 jf5 jf6 jf7 jf8 jf9
  simp only [putAll, List.map, Act.put, List.setIfInBounds_toArray, List.set_cons_succ, List.set_cons_zero]
  replace K0 := Lib.hid jb0
  replace K1 := Lib.hid jb1
  replace K2 := Lib.hid jb2
  replace K3 := Lib.hid jb3
  replace B := Lib.hid bb
  clear bb jb0 jb1 jb2 jb3
  have c0_0 := K0.out.at_ 0 _ rfl
  have c0_1 := K0.out.at_ 1 _ rfl
  have c0_2 := K0.out.at_ 2 _ rfl
  have c0_3 := K0.out.at_ 3 _ rfl
  have c1_0 := K1.out.at_ 0 _ rfl
  have c1_1 := K1.out.at_ 1 _ rfl
  have c1_2 := K1.out.at_ 2 _ rfl
  have c1_3 := K1.out.at_ 3 _ rfl
  have c2_0 := K2.out.at_ 0 _ rfl
  have c2_1 := K2.out.at_ 1 _ rfl
  have c2_2 := K2.out.at_ 2 _ rfl
  have c3_0 := K3.out.at_ 0 _ rfl
  have c3_1 := K3.out.at_ 1 _ rfl
  have c3_2 := K3.out.at_ 2 _ rfl
  go_wp2
  go_ret
  exact ⟨rfl, B.out⟩

set_option maxRecDepth 100000 in
set_option maxHeartbeats 4000000 in
theorem trends_none2 (x1 y1 z1 b1 x2 y2 z2 b2 p1 p2 p3 q1 q2 q3 u1 u2 u3 v3 : Int) (A1 A2 A3 C1 C2 C3 : ByteArray) (n : Int) (w : World)
    (hu : ((u1 == 0) = false) ∨ ((u1 == 0) = true ∧ (u2 == 0) = false))
    (kn : ∀ W, Below w.heap.size w W → Calls Tryz.prog 12 #[] W fun e w' => e = .returned (.bool true) ∧ Below W.heap.size W w')
    (i1 : ∀ W, Below w.heap.size w W → Calls Tryz.prog 14 #[.agg #[.int .i8 x1, .int .i8 y1, .int .i8 z1, .int .u8 b1]] W fun e w' => e = .returned (.agg #[.int .i64 p1, .int .i64 p2, .int .i64 p3]) ∧ Below W.heap.size W w')
    (s1 : ∀ W, Below w.heap.size w W → Calls Tryz.prog 13 #[.agg #[.int .i64 p1, .int .i64 p2, .int .i64 p3]] W fun e w' => e = .returned (.bool false) ∧ Below W.heap.size W w')
    (i2 : ∀ W, Below w.heap.size w W → Calls Tryz.prog 14 #[.agg #[.int .i8 x2, .int .i8 y2, .int .i8 z2, .int .u8 b2]] W fun e w' => e = .returned (.agg #[.int .i64 q1, .int .i64 q2, .int .i64 q3]) ∧ Below W.heap.size W w')
    (s2 : ∀ W, Below w.heap.size w W → Calls Tryz.prog 13 #[.agg #[.int .i64 q1, .int .i64 q2, .int .i64 q3]] W fun e w' => e = .returned (.bool false) ∧ Below W.heap.size W w')
    (d1 : ∀ W, Below w.heap.size w W → Calls Tryz.prog 21 #[.agg #[.int .i64 p1, .int .i64 p2, .int .i64 p3]] W fun e w' => e = .returned (.agg #[.int .i64 u1, .int .i64 u2, .int .i64 u3]) ∧ Below W.heap.size W w')
    (d2 : ∀ W, Below w.heap.size w W → Calls Tryz.prog 21 #[.agg #[.int .i64 q1, .int .i64 q2, .int .i64 q3]] W fun e w' => e = .returned (.agg #[.int .i64 0, .int .i64 0, .int .i64 v3]) ∧ Below W.heap.size W w')
    (m1 : ∀ W, Below w.heap.size w W → Calls Tryz.prog 16 #[.agg #[.int .i8 x1, .int .i8 y1, .int .i8 z1, .int .u8 b1]] W fun e w' => e = .returned (.agg #[.string A1, .string A2, .string A3]) ∧ Below W.heap.size W w')
    (m2 : ∀ W, Below w.heap.size w W → Calls Tryz.prog 16 #[.agg #[.int .i8 x2, .int .i8 y2, .int .i8 z2, .int .u8 b2]] W fun e w' => e = .returned (.agg #[.string C1, .string C2, .string C3]) ∧ Below W.heap.size W w')
    (o1 : ∀ W, Below w.heap.size w W → Calls Tryz.prog 31 #[.agg #[.string A1, .string A2, .string A3]] W fun e w' => e = .returned (.tuple #[.int .i64 n, .int .i64 0]) ∧ Below W.heap.size W w')
    (o2 : ∀ W, Below w.heap.size w W → Calls Tryz.prog 32 #[.agg #[.string A1, .string A2, .string A3], .agg #[.string C1, .string C2, .string C3]] W fun e w' => e = .returned (.tuple #[.int .i64 0, .int .i64 19]) ∧ Below W.heap.size W w')
    (oc1 : ∀ W, Below w.heap.size w W → Calls Tryz.prog 33 #[.int .i64 u1, .int .i64 u2] W fun e w' => e = .returned (.int .i64 n) ∧ Below W.heap.size W w') :
    Calls Tryz.prog 8 #[.agg #[.int .i8 x1, .int .i8 y1, .int .i8 z1, .int .u8 b1], .agg #[.int .i8 x2, .int .i8 y2, .int .i8 z2, .int .u8 b2]] w fun e w' => e = .returned (.bool true) ∧ Below w.heap.size w w' := by
  have KN := Lib.hid kn
  have I1 := Lib.hid i1
  have S1 := Lib.hid s1
  have I2 := Lib.hid i2
  have S2 := Lib.hid s2
  have D1 := Lib.hid d1
  have D2 := Lib.hid d2
  have M1 := Lib.hid m1
  have M2 := Lib.hid m2
  have O1 := Lib.hid o1
  have O2 := Lib.hid o2
  have OC1 := Lib.hid oc1
  clear kn i1 s1 i2 s2 d1 d2 m1 m2 o1 o2 oc1
  have k0 := Blk.fresh w #[.int .i8 x1, .int .i8 y1, .int .i8 z1, .int .u8 b1] 24
  replace k0 := k0.alloc (Obj.cells #[.int .i8 x2, .int .i8 y2, .int .i8 z2, .int .u8 b2] 24)
  have k1 := Blk.fresh (w.alloc (Obj.cells #[.int .i8 x1, .int .i8 y1, .int .i8 z1, .int .u8 b1] 24)) #[.int .i8 x2, .int .i8 y2, .int .i8 z2, .int .u8 b2] 24
  rw [show (w.alloc (Obj.cells #[.int .i8 x1, .int .i8 y1, .int .i8 z1, .int .u8 b1] 24)).heap.size = w.heap.size + 1 from World.size_alloc ..] at k1
  have jb0 : Below w.heap.size w ((w.alloc (Obj.cells #[.int .i8 x1, .int .i8 y1, .int .i8 z1, .int .u8 b1] 24)).alloc (Obj.cells #[.int .i8 x2, .int .i8 y2, .int .i8 z2, .int .u8 b2] 24)) := (((Below.refl _ _).alloc (Nat.le_refl _) _).alloc (by simp; try omega) _)
  have K0 := Lib.hid k0
  have K1 := Lib.hid k1
  have B := Lib.hid jb0
  clear jb0 k0 k1
  go_enter Tryz.func8, Tryz.ntmps8
  go_upto_region 1 with (fail)
  generalize ((w.alloc (Obj.cells #[.int .i8 x1, .int .i8 y1, .int .i8 z1, .int .u8 b1] 24)).alloc (Obj.cells #[.int .i8 x2, .int .i8 y2, .int .i8 z2, .int .u8 b2] 24)) = W0 at *
  have c0_0 := K0.out.at_ 0 _ rfl
  have c0_1 := K0.out.at_ 1 _ rfl
  have c0_2 := K0.out.at_ 2 _ rfl
  have c0_3 := K0.out.at_ 3 _ rfl
  have c1_0 := K1.out.at_ 0 _ rfl
  have c1_1 := K1.out.at_ 1 _ rfl
  have c1_2 := K1.out.at_ 2 _ rfl
  have c1_3 := K1.out.at_ 3 _ rfl
  go_upto_region 3 with (
   (first
    | (go_at_call 12; with_reducible refine (KN.out _ (baseI B.out)).mono ?_)
    | (go_at_call 14; with_reducible refine (I1.out _ (baseI B.out)).mono ?_)
    | (go_at_call 13; with_reducible refine (S1.out _ (baseI B.out)).mono ?_)
    | (go_at_call 14; with_reducible refine (I2.out _ (baseI B.out)).mono ?_)
    | (go_at_call 13; with_reducible refine (S2.out _ (baseI B.out)).mono ?_)
    | fail "arm"); rintro e wx ⟨rfl, q⟩; replace K0 := Lib.hid (K0.out.nearI q); replace K1 := Lib.hid (K1.out.nearI q); replace B := Lib.hid (goI B.out q); clear q; replace c0_0 := K0.out.at_ 0 _ rfl; replace c0_1 := K0.out.at_ 1 _ rfl; replace c0_2 := K0.out.at_ 2 _ rfl; replace c0_3 := K0.out.at_ 3 _ rfl; replace c1_0 := K1.out.at_ 0 _ rfl; replace c1_1 := K1.out.at_ 1 _ rfl; replace c1_2 := K1.out.at_ 2 _ rfl; replace c1_3 := K1.out.at_ 3 _ rfl)
  clear c0_0 c0_1 c0_2 c0_3 c1_0 c1_1 c1_2 c1_3
  refine wp_region_par (by kernel_rfl) [27, 28, 29, 30, 31, 32, 5, 6] (fun L σ W => Vals [some 27, some 28, some 29, some 30, some 31, some 32, none, none, none, none] [(.agg #[.int .i8 x1, .int .i8 y1, .int .i8 z1, .int .u8 b1]), (.agg #[.int .i64 p1, .int .i64 p2, .int .i64 p3]), (.agg #[.int .i64 u1, .int .i64 u2, .int .i64 u3]), (.agg #[.int .i8 x2, .int .i8 y2, .int .i8 z2, .int .u8 b2]), (.agg #[.int .i64 q1, .int .i64 q2, .int .i64 q3]), (.agg #[.int .i64 0, .int .i64 0, .int .i64 v3]), undef, undef, undef, undef] L σ ∧ (L 6 → ∃ (g : Nat) (jy0 jy1 jy2 : Value), σ 5 = .pointer (some ⟨g, 0, none⟩) ∧ w.heap.size ≤ g ∧ Blk W g #[jy0, jy1, jy2] 27 ∧ (L 8 → #[jy0, jy1, jy2] = #[.int .i64 u1, .int .i64 u2, .int .i64 u3]) ∧ w.heap.size ≠ g ∧ w.heap.size + 1 ≠ g) ∧ (L 7 → ∃ (g : Nat) (jy0 jy1 jy2 : Value), σ 6 = .pointer (some ⟨g, 0, none⟩) ∧ w.heap.size ≤ g ∧ Blk W g #[jy0, jy1, jy2] 27 ∧ (L 9 → #[jy0, jy1, jy2] = #[.int .i64 0, .int .i64 0, .int .i64 v3]) ∧ w.heap.size ≠ g ∧ w.heap.size + 1 ≠ g) ∧ (L 8 → L 6) ∧ (L 9 → L 7) ∧ (L 6 → L 7 → σ 5 ≠ σ 6) ∧ Blk W (w.heap.size) #[.int .i8 x1, .int .i8 y1, .int .i8 z1, .int .u8 b1] 24 ∧ Blk W (w.heap.size + 1) #[.int .i8 x2, .int .i8 y2, .int .i8 z2, .int .u8 b2] 24 ∧ Below w.heap.size w W) (by kernel_rfl) (by kernel_rfl) (by kernel_rfl) ?_ ?_ ?_
  · exact fun σ => ⟨Vals.start, fun h => h.elim, fun h => h.elim, fun h => h.elim, fun h => h.elim, fun h => h.elim, K0.out.below (Below.refl _ _).drew, K1.out.below (Below.refl _ _).drew, B.out.drew⟩
  · refine ⟨?_, ?_, ?_, ?_, ?_, ?_, ?_, ?_, ?_, ?_, trivial⟩
    · rintro L a W ho ⟨V, jf6, jf7, js8, js9, jn6_7, jb0, jb1, bb⟩ hn hd K hK
      clear hd
      refine Wants.free rfl ?_
      have jr2 : a.tmps[(2 : Nat)]?.getD undef = .pointer (some ⟨w.heap.size, 0, none⟩) := ho.slot 2 rfl
      have jc0 := jb0.at_ 0 _ rfl
      have jc1 := jb0.at_ 1 _ rfl
      have jc2 := jb0.at_ 2 _ rfl
      have jc3 := jb0.at_ 3 _ rfl
      go_simp
      exact hK.out (.agg #[.int .i8 x1, .int .i8 y1, .int .i8 z1, .int .u8 b1]) _ ⟨V.set 0 _ _ rfl rfl rfl, fun h => (by obtain ⟨jg, ju0, ju1, ju2, je1, je2, je3, je4, jne0, jne1⟩ := old jf6 rfl h; exact ⟨jg, _, _, _, je1, je2, je3, fun h => je4 (h.resolve_right (by decide)), jne0, jne1⟩), fun h => (by obtain ⟨jg, ju0, ju1, ju2, je1, je2, je3, je4, jne0, jne1⟩ := old jf7 rfl h; exact ⟨jg, _, _, _, je1, je2, je3, fun h => je4 (h.resolve_right (by decide)), jne0, jne1⟩), fun h => .inl (old js8 rfl h), fun h => .inl (old js9 rfl h), fun h h2 => jn6_7 (h.resolve_right (by decide)) (h2.resolve_right (by decide)), jb0, jb1, bb⟩
    · rintro L a W ho ⟨V, jf6, jf7, js8, js9, jn6_7, jb0, jb1, bb⟩ hn hd K hK
      have jh0 := hd.get 0 rfl
      clear hd
      refine Wants.free rfl ?_
      have jr27 := V.read 0 rfl rfl jh0
      go_simp
      go_at_call 14
      with_reducible refine (I1.out _ bb).mono ?_
      rintro e wx ⟨rfl, q⟩
      go_simp
      exact hK.out (.agg #[.int .i64 p1, .int .i64 p2, .int .i64 p3]) _ ⟨V.set 1 _ _ rfl rfl rfl, fun h => (by obtain ⟨jg, ju0, ju1, ju2, je1, je2, je3, je4, jne0, jne1⟩ := old jf6 rfl h; exact ⟨jg, _, _, _, je1, je2, je3.below q, fun h => je4 (h.resolve_right (by decide)), jne0, jne1⟩), fun h => (by obtain ⟨jg, ju0, ju1, ju2, je1, je2, je3, je4, jne0, jne1⟩ := old jf7 rfl h; exact ⟨jg, _, _, _, je1, je2, je3.below q, fun h => je4 (h.resolve_right (by decide)), jne0, jne1⟩), fun h => .inl (old js8 rfl h), fun h => .inl (old js9 rfl h), fun h h2 => jn6_7 (h.resolve_right (by decide)) (h2.resolve_right (by decide)), jb0.below q, jb1.below q, bb.trans (q.mono bb.size)⟩
    · rintro L a W ho ⟨V, jf6, jf7, js8, js9, jn6_7, jb0, jb1, bb⟩ hn hd K hK
      have jh1 := hd.get 1 rfl
      clear hd
      refine Wants.free rfl ?_
      have jr28 := V.read 1 rfl rfl jh1
      go_simp
      go_at_call 21
      with_reducible refine (D1.out _ bb).mono ?_
      rintro e wx ⟨rfl, q⟩
      go_simp
      exact hK.out (.agg #[.int .i64 u1, .int .i64 u2, .int .i64 u3]) _ ⟨V.set 2 _ _ rfl rfl rfl, fun h => (by obtain ⟨jg, ju0, ju1, ju2, je1, je2, je3, je4, jne0, jne1⟩ := old jf6 rfl h; exact ⟨jg, _, _, _, je1, je2, je3.below q, fun h => je4 (h.resolve_right (by decide)), jne0, jne1⟩), fun h => (by obtain ⟨jg, ju0, ju1, ju2, je1, je2, je3, je4, jne0, jne1⟩ := old jf7 rfl h; exact ⟨jg, _, _, _, je1, je2, je3.below q, fun h => je4 (h.resolve_right (by decide)), jne0, jne1⟩), fun h => .inl (old js8 rfl h), fun h => .inl (old js9 rfl h), fun h h2 => jn6_7 (h.resolve_right (by decide)) (h2.resolve_right (by decide)), jb0.below q, jb1.below q, bb.trans (q.mono bb.size)⟩
    · rintro L a W ho ⟨V, jf6, jf7, js8, js9, jn6_7, jb0, jb1, bb⟩ hn hd K hK
      clear hd
      refine Wants.free rfl ?_
      have jr3 : a.tmps[(3 : Nat)]?.getD undef = .pointer (some ⟨w.heap.size + 1, 0, none⟩) := ho.slot 3 rfl
      have jc0 := jb1.at_ 0 _ rfl
      have jc1 := jb1.at_ 1 _ rfl
      have jc2 := jb1.at_ 2 _ rfl
      have jc3 := jb1.at_ 3 _ rfl
      go_simp
      exact hK.out (.agg #[.int .i8 x2, .int .i8 y2, .int .i8 z2, .int .u8 b2]) _ ⟨V.set 3 _ _ rfl rfl rfl, fun h => (by obtain ⟨jg, ju0, ju1, ju2, je1, je2, je3, je4, jne0, jne1⟩ := old jf6 rfl h; exact ⟨jg, _, _, _, je1, je2, je3, fun h => je4 (h.resolve_right (by decide)), jne0, jne1⟩), fun h => (by obtain ⟨jg, ju0, ju1, ju2, je1, je2, je3, je4, jne0, jne1⟩ := old jf7 rfl h; exact ⟨jg, _, _, _, je1, je2, je3, fun h => je4 (h.resolve_right (by decide)), jne0, jne1⟩), fun h => .inl (old js8 rfl h), fun h => .inl (old js9 rfl h), fun h h2 => jn6_7 (h.resolve_right (by decide)) (h2.resolve_right (by decide)), jb0, jb1, bb⟩
    · rintro L a W ho ⟨V, jf6, jf7, js8, js9, jn6_7, jb0, jb1, bb⟩ hn hd K hK
      have jh3 := hd.get 3 rfl
      clear hd
      refine Wants.free rfl ?_
      have jr30 := V.read 3 rfl rfl jh3
      go_simp
      go_at_call 14
      with_reducible refine (I2.out _ bb).mono ?_
      rintro e wx ⟨rfl, q⟩
      go_simp
      exact hK.out (.agg #[.int .i64 q1, .int .i64 q2, .int .i64 q3]) _ ⟨V.set 4 _ _ rfl rfl rfl, fun h => (by obtain ⟨jg, ju0, ju1, ju2, je1, je2, je3, je4, jne0, jne1⟩ := old jf6 rfl h; exact ⟨jg, _, _, _, je1, je2, je3.below q, fun h => je4 (h.resolve_right (by decide)), jne0, jne1⟩), fun h => (by obtain ⟨jg, ju0, ju1, ju2, je1, je2, je3, je4, jne0, jne1⟩ := old jf7 rfl h; exact ⟨jg, _, _, _, je1, je2, je3.below q, fun h => je4 (h.resolve_right (by decide)), jne0, jne1⟩), fun h => .inl (old js8 rfl h), fun h => .inl (old js9 rfl h), fun h h2 => jn6_7 (h.resolve_right (by decide)) (h2.resolve_right (by decide)), jb0.below q, jb1.below q, bb.trans (q.mono bb.size)⟩
    · rintro L a W ho ⟨V, jf6, jf7, js8, js9, jn6_7, jb0, jb1, bb⟩ hn hd K hK
      have jh4 := hd.get 4 rfl
      clear hd
      refine Wants.free rfl ?_
      have jr31 := V.read 4 rfl rfl jh4
      go_simp
      go_at_call 21
      with_reducible refine (D2.out _ bb).mono ?_
      rintro e wx ⟨rfl, q⟩
      go_simp
      exact hK.out (.agg #[.int .i64 0, .int .i64 0, .int .i64 v3]) _ ⟨V.set 5 _ _ rfl rfl rfl, fun h => (by obtain ⟨jg, ju0, ju1, ju2, je1, je2, je3, je4, jne0, jne1⟩ := old jf6 rfl h; exact ⟨jg, _, _, _, je1, je2, je3.below q, fun h => je4 (h.resolve_right (by decide)), jne0, jne1⟩), fun h => (by obtain ⟨jg, ju0, ju1, ju2, je1, je2, je3, je4, jne0, jne1⟩ := old jf7 rfl h; exact ⟨jg, _, _, _, je1, je2, je3.below q, fun h => je4 (h.resolve_right (by decide)), jne0, jne1⟩), fun h => .inl (old js8 rfl h), fun h => .inl (old js9 rfl h), fun h h2 => jn6_7 (h.resolve_right (by decide)) (h2.resolve_right (by decide)), jb0.below q, jb1.below q, bb.trans (q.mono bb.size)⟩
    · rintro L a W ho ⟨V, jf6, jf7, js8, js9, jn6_7, jb0, jb1, bb⟩ hn hd K hK
      clear hd
      refine Wants.free rfl ?_
      go_simp
      exact hK.out (.pointer (some ⟨W.heap.size, 0, none⟩)) _ ⟨V.apart 6 _ _ rfl rfl, fun _ => ⟨W.heap.size, .int .i64 0, .int .i64 0, .int .i64 0, rfl, bb.size, Blk.fresh W #[.int .i64 0, .int .i64 0, .int .i64 0] 27, fun h => absurd (old js8 rfl h) hn, (Nat.ne_of_lt jb0.lt), (Nat.ne_of_lt jb1.lt)⟩, fun h => (by obtain ⟨jg, ju0, ju1, ju2, je1, je2, je3, je4, jne0, jne1⟩ := old jf7 rfl h; exact ⟨jg, _, _, _, je1, je2, je3.alloc (Obj.cells #[.int .i64 0, .int .i64 0, .int .i64 0] 27), fun h => je4 (h.resolve_right (by decide)), jne0, jne1⟩), fun h => .inl (old js8 rfl h), fun h => .inl (old js9 rfl h), fun h h2 => (by obtain ⟨jg, ju0, ju1, ju2, je1, je2, je3, je4, jne0, jne1⟩ := jf7 (h2.resolve_right (by decide)); have jhlt := je3.lt; show (Value.pointer (some ⟨W.heap.size, 0, none⟩)) ≠ slotOf a 6; rw [je1]; intro e; injection e with e; injection e with e; injection e with e; omega), jb0.alloc (Obj.cells #[.int .i64 0, .int .i64 0, .int .i64 0] 27), jb1.alloc (Obj.cells #[.int .i64 0, .int .i64 0, .int .i64 0] 27), bb.trans ((below_new W (Obj.cells #[.int .i64 0, .int .i64 0, .int .i64 0] 27)).mono bb.size)⟩
    · rintro L a W ho ⟨V, jf6, jf7, js8, js9, jn6_7, jb0, jb1, bb⟩ hn hd K hK
      clear hd
      refine Wants.free rfl ?_
      go_simp
      exact hK.out (.pointer (some ⟨W.heap.size, 0, none⟩)) _ ⟨V.apart 7 _ _ rfl rfl, fun h => (by obtain ⟨jg, ju0, ju1, ju2, je1, je2, je3, je4, jne0, jne1⟩ := old jf6 rfl h; exact ⟨jg, _, _, _, je1, je2, je3.alloc (Obj.cells #[.int .i64 0, .int .i64 0, .int .i64 0] 27), fun h => je4 (h.resolve_right (by decide)), jne0, jne1⟩), fun _ => ⟨W.heap.size, .int .i64 0, .int .i64 0, .int .i64 0, rfl, bb.size, Blk.fresh W #[.int .i64 0, .int .i64 0, .int .i64 0] 27, fun h => absurd (old js9 rfl h) hn, (Nat.ne_of_lt jb0.lt), (Nat.ne_of_lt jb1.lt)⟩, fun h => .inl (old js8 rfl h), fun h => .inl (old js9 rfl h), fun h h2 => (by obtain ⟨jg, ju0, ju1, ju2, je1, je2, je3, je4, jne0, jne1⟩ := jf6 (h.resolve_right (by decide)); have jhlt := je3.lt; show slotOf a 5 ≠ (Value.pointer (some ⟨W.heap.size, 0, none⟩)); rw [je1]; intro e; injection e with e; injection e with e; injection e with e; omega), jb0.alloc (Obj.cells #[.int .i64 0, .int .i64 0, .int .i64 0] 27), jb1.alloc (Obj.cells #[.int .i64 0, .int .i64 0, .int .i64 0] 27), bb.trans ((below_new W (Obj.cells #[.int .i64 0, .int .i64 0, .int .i64 0] 27)).mono bb.size)⟩
    · rintro L a W ho ⟨V, jf6, jf7, js8, js9, jn6_7, jb0, jb1, bb⟩ hn hd K hK
      have jh6 := hd.get 6 rfl
      have jh2 := hd.get 2 rfl
      clear hd
      refine Wants.free rfl ?_
      have jr29 := V.read 2 rfl rfl jh2
      obtain ⟨jg, jy0, jy1, jy2, je1, je2, je3, je4, jne0, jne1⟩ := jf6 jh6
      have jr5 : a.tmps[(5 : Nat)]?.getD undef = .pointer (some ⟨jg, 0, none⟩) := je1
      have jc0 := je3.at_ 0 _ rfl
      have jz0 := je3.free 0
      have jc1 := je3.at_ 1 _ rfl
      have jz1 := je3.free 1
      have jc2 := je3.at_ 2 _ rfl
      have jz2 := je3.free 2
      go_simp
      exact hK.out (undef) _ ⟨V.same 8 _ rfl, fun _ => ⟨jg, .int .i64 u1, .int .i64 u2, .int .i64 u3, je1, je2, je3.set3 (.int .i64 u1) (.int .i64 u2) (.int .i64 u3), fun _ => rfl, jne0, jne1⟩, fun h => (by have jhne := jn6_7 jh6 (h.resolve_right (by decide)); obtain ⟨jg2, ju0, ju1, ju2, jt1, jq2, jq3, je4, jnq0, jnq1⟩ := old jf7 rfl h; exact ⟨jg2, _, _, _, jt1, jq2, jq3.else3 (fun e => jhne (by rw [jt1, je1, e])) (.int .i64 u1) (.int .i64 u2) (.int .i64 u3), fun h => je4 (h.resolve_right (by decide)), jnq0, jnq1⟩), fun _ => .inl jh6, fun h => .inl (old js9 rfl h), fun h h2 => jn6_7 (h.resolve_right (by decide)) (h2.resolve_right (by decide)), jb0.else3 jne0 (.int .i64 u1) (.int .i64 u2) (.int .i64 u3), jb1.else3 jne1 (.int .i64 u1) (.int .i64 u2) (.int .i64 u3), bb.trans (below_else3 W w.heap.size jg je2 (.int .i64 u1) (.int .i64 u2) (.int .i64 u3))⟩
    · rintro L a W ho ⟨V, jf6, jf7, js8, js9, jn6_7, jb0, jb1, bb⟩ hn hd K hK
      have jh7 := hd.get 7 rfl
      have jh5 := hd.get 5 rfl
      clear hd
      refine Wants.free rfl ?_
      have jr32 := V.read 5 rfl rfl jh5
      obtain ⟨jg, jy0, jy1, jy2, je1, je2, je3, je4, jne0, jne1⟩ := jf7 jh7
      have jr6 : a.tmps[(6 : Nat)]?.getD undef = .pointer (some ⟨jg, 0, none⟩) := je1
      have jc0 := je3.at_ 0 _ rfl
      have jz0 := je3.free 0
      have jc1 := je3.at_ 1 _ rfl
      have jz1 := je3.free 1
      have jc2 := je3.at_ 2 _ rfl
      have jz2 := je3.free 2
      go_simp
      exact hK.out (undef) _ ⟨V.same 9 _ rfl, fun h => (by have jhne := jn6_7 (h.resolve_right (by decide)) jh7; obtain ⟨jg2, ju0, ju1, ju2, jt1, jq2, jq3, je4, jnq0, jnq1⟩ := old jf6 rfl h; exact ⟨jg2, _, _, _, jt1, jq2, jq3.else3 (fun e => jhne (by rw [jt1, je1, e])) (.int .i64 0) (.int .i64 0) (.int .i64 v3), fun h => je4 (h.resolve_right (by decide)), jnq0, jnq1⟩), fun _ => ⟨jg, .int .i64 0, .int .i64 0, .int .i64 v3, je1, je2, je3.set3 (.int .i64 0) (.int .i64 0) (.int .i64 v3), fun _ => rfl, jne0, jne1⟩, fun h => .inl (old js8 rfl h), fun _ => .inl jh7, fun h h2 => jn6_7 (h.resolve_right (by decide)) (h2.resolve_right (by decide)), jb0.else3 jne0 (.int .i64 0) (.int .i64 0) (.int .i64 v3), jb1.else3 jne1 (.int .i64 0) (.int .i64 0) (.int .i64 v3), bb.trans (below_else3 W w.heap.size jg je2 (.int .i64 0) (.int .i64 0) (.int .i64 v3))⟩
  rintro L σ W ⟨V, jf6, jf7, js8, js9, jn6_7, jb0, jb1, bb⟩ hL
  have jf0 := V 0 _ _ rfl rfl (hL 0 (by decide))
  have jf1 := V 1 _ _ rfl rfl (hL 1 (by decide))
  have jf2 := V 2 _ _ rfl rfl (hL 2 (by decide))
  have jf3 := V 3 _ _ rfl rfl (hL 3 (by decide))
  have jf4 := V 4 _ _ rfl rfl (hL 4 (by decide))
  have jf5 := V 5 _ _ rfl rfl (hL 5 (by decide))
  clear V
  replace jn6_7 := jn6_7 (hL 6 (by decide)) (hL 7 (by decide))
  obtain ⟨g3_6, jy6_0, jy6_1, jy6_2, jf6, jl6, jv6, je6, jne6_0, jne6_1⟩ := jf6 (hL 6 (by decide))
  rw [je6 (hL 8 (by decide))] at jv6
  clear je6 jne6_0 jne6_1
  obtain ⟨g3_7, jy7_0, jy7_1, jy7_2, jf7, jl7, jv7, je7, jne7_0, jne7_1⟩ := jf7 (hL 7 (by decide))
  rw [je7 (hL 9 (by decide))] at jv7
  clear je7 jne7_0 jne7_1
  clear jn6_7
  clear hL js8 js9
  rw [show List.map σ [27, 28, 29, 30, 31, 32, 5, 6] = [σ 27, σ 28, σ 29, σ 30, σ 31, σ 32, σ 5, σ 6] from rfl, jf0, jf1, jf2, jf3, jf4, jf5, jf6, jf7]
  clear jf0 jf1 jf2 jf3 jf4 jf5 jf6 jf7
  simp only [putAll, List.map, Act.put, List.setIfInBounds_toArray, List.set_cons_succ, List.set_cons_zero]
  replace K0 := Lib.hid jb0
  replace K1 := Lib.hid jb1
  have K2 := Lib.hid jv6
  have K3 := Lib.hid jv7
  replace B := Lib.hid bb
  clear bb jb0 jb1 jv6 jl6 jv7 jl7
  have c0_0 := K0.out.at_ 0 _ rfl
  have c0_1 := K0.out.at_ 1 _ rfl
  have c0_2 := K0.out.at_ 2 _ rfl
  have c0_3 := K0.out.at_ 3 _ rfl
  have c1_0 := K1.out.at_ 0 _ rfl
  have c1_1 := K1.out.at_ 1 _ rfl
  have c1_2 := K1.out.at_ 2 _ rfl
  have c1_3 := K1.out.at_ 3 _ rfl
  have c2_0 := K2.out.at_ 0 _ rfl
  have c2_1 := K2.out.at_ 1 _ rfl
  have c2_2 := K2.out.at_ 2 _ rfl
  have c3_0 := K3.out.at_ 0 _ rfl
  have c3_1 := K3.out.at_ 1 _ rfl
  have c3_2 := K3.out.at_ 2 _ rfl
  go_upto_region 5 with (
   (first
    | (go_at_call 16; with_reducible refine (M1.out _ (baseI B.out)).mono ?_)
    | (go_at_call 31; with_reducible refine (O1.out _ (baseI B.out)).mono ?_)
    | fail "arm"); rintro e wx ⟨rfl, q⟩; replace K0 := Lib.hid (K0.out.nearI q); replace K1 := Lib.hid (K1.out.nearI q); replace K2 := Lib.hid (K2.out.nearI q); replace K3 := Lib.hid (K3.out.nearI q); replace B := Lib.hid (goI B.out q); clear q; replace c0_0 := K0.out.at_ 0 _ rfl; replace c0_1 := K0.out.at_ 1 _ rfl; replace c0_2 := K0.out.at_ 2 _ rfl; replace c0_3 := K0.out.at_ 3 _ rfl; replace c1_0 := K1.out.at_ 0 _ rfl; replace c1_1 := K1.out.at_ 1 _ rfl; replace c1_2 := K1.out.at_ 2 _ rfl; replace c1_3 := K1.out.at_ 3 _ rfl; replace c2_0 := K2.out.at_ 0 _ rfl; replace c2_1 := K2.out.at_ 1 _ rfl; replace c2_2 := K2.out.at_ 2 _ rfl; replace c3_0 := K3.out.at_ 0 _ rfl; replace c3_1 := K3.out.at_ 1 _ rfl; replace c3_2 := K3.out.at_ 2 _ rfl)
  clear c0_0 c0_1 c0_2 c0_3 c1_0 c1_1 c1_2 c1_3 c2_0 c2_1 c2_2 c3_0 c3_1 c3_2
  refine wp_region_par (by kernel_rfl) [40, 41, 42, 43, 44, 39, 45, 46, 9, 10] (fun L σ W => Vals [some 40, some 41, some 42, some 43, some 44, some 39, some 45, some 46, some 9, some 10] [(.agg #[.int .i8 x1, .int .i8 y1, .int .i8 z1, .int .u8 b1]), (.agg #[.string A1, .string A2, .string A3]), (.agg #[.int .i8 x2, .int .i8 y2, .int .i8 z2, .int .u8 b2]), (.agg #[.string C1, .string C2, .string C3]), (.tuple #[.int .i64 0, .int .i64 19]), (.tuple #[.int .i64 0, .int .i64 19]), (.int .i64 0), (.int .i64 19), (.int .i64 0), (.int .i64 19)] L σ ∧ Blk W (w.heap.size) #[.int .i8 x1, .int .i8 y1, .int .i8 z1, .int .u8 b1] 24 ∧ Blk W (w.heap.size + 1) #[.int .i8 x2, .int .i8 y2, .int .i8 z2, .int .u8 b2] 24 ∧ Blk W (g3_6) #[.int .i64 u1, .int .i64 u2, .int .i64 u3] 27 ∧ Blk W (g3_7) #[.int .i64 0, .int .i64 0, .int .i64 v3] 27 ∧ Below w.heap.size w W) (by kernel_rfl) (by kernel_rfl) (by kernel_rfl) ?_ ?_ ?_
  · exact fun σ => ⟨Vals.start, K0.out.below (Below.refl _ _).drew, K1.out.below (Below.refl _ _).drew, K2.out.below (Below.refl _ _).drew, K3.out.below (Below.refl _ _).drew, B.out.drew⟩
  · refine ⟨?_, ?_, ?_, ?_, ?_, ?_, ?_, ?_, ?_, ?_, trivial⟩
    · rintro L a W ho ⟨V, jb0, jb1, jb2, jb3, bb⟩ hn hd K hK
      clear hd
      refine Wants.free rfl ?_
      have jr2 : a.tmps[(2 : Nat)]?.getD undef = .pointer (some ⟨w.heap.size, 0, none⟩) := ho.slot 2 rfl
      have jc0 := jb0.at_ 0 _ rfl
      have jc1 := jb0.at_ 1 _ rfl
      have jc2 := jb0.at_ 2 _ rfl
      have jc3 := jb0.at_ 3 _ rfl
      go_simp
      exact hK.out (.agg #[.int .i8 x1, .int .i8 y1, .int .i8 z1, .int .u8 b1]) _ ⟨V.set 0 _ _ rfl rfl rfl, jb0, jb1, jb2, jb3, bb⟩
    · rintro L a W ho ⟨V, jb0, jb1, jb2, jb3, bb⟩ hn hd K hK
      have jh0 := hd.get 0 rfl
      clear hd
      refine Wants.free rfl ?_
      have jr40 := V.read 0 rfl rfl jh0
      go_simp
      go_at_call 16
      with_reducible refine (M1.out _ bb).mono ?_
      rintro e wx ⟨rfl, q⟩
      go_simp
      exact hK.out (.agg #[.string A1, .string A2, .string A3]) _ ⟨V.set 1 _ _ rfl rfl rfl, jb0.below q, jb1.below q, jb2.below q, jb3.below q, bb.trans (q.mono bb.size)⟩
    · rintro L a W ho ⟨V, jb0, jb1, jb2, jb3, bb⟩ hn hd K hK
      clear hd
      refine Wants.free rfl ?_
      have jr3 : a.tmps[(3 : Nat)]?.getD undef = .pointer (some ⟨w.heap.size + 1, 0, none⟩) := ho.slot 3 rfl
      have jc0 := jb1.at_ 0 _ rfl
      have jc1 := jb1.at_ 1 _ rfl
      have jc2 := jb1.at_ 2 _ rfl
      have jc3 := jb1.at_ 3 _ rfl
      go_simp
      exact hK.out (.agg #[.int .i8 x2, .int .i8 y2, .int .i8 z2, .int .u8 b2]) _ ⟨V.set 2 _ _ rfl rfl rfl, jb0, jb1, jb2, jb3, bb⟩
    · rintro L a W ho ⟨V, jb0, jb1, jb2, jb3, bb⟩ hn hd K hK
      have jh2 := hd.get 2 rfl
      clear hd
      refine Wants.free rfl ?_
      have jr42 := V.read 2 rfl rfl jh2
      go_simp
      go_at_call 16
      with_reducible refine (M2.out _ bb).mono ?_
      rintro e wx ⟨rfl, q⟩
      go_simp
      exact hK.out (.agg #[.string C1, .string C2, .string C3]) _ ⟨V.set 3 _ _ rfl rfl rfl, jb0.below q, jb1.below q, jb2.below q, jb3.below q, bb.trans (q.mono bb.size)⟩
    · rintro L a W ho ⟨V, jb0, jb1, jb2, jb3, bb⟩ hn hd K hK
      have jh1 := hd.get 1 rfl
      have jh3 := hd.get 3 rfl
      clear hd
      refine Wants.free rfl ?_
      have jr41 := V.read 1 rfl rfl jh1
      have jr43 := V.read 3 rfl rfl jh3
      go_simp
      go_at_call 32
      with_reducible refine (O2.out _ bb).mono ?_
      rintro e wx ⟨rfl, q⟩
      go_simp
      exact hK.out (.tuple #[.int .i64 0, .int .i64 19]) _ ⟨V.set 4 _ _ rfl rfl rfl, jb0.below q, jb1.below q, jb2.below q, jb3.below q, bb.trans (q.mono bb.size)⟩
    · rintro L a W ho ⟨V, jb0, jb1, jb2, jb3, bb⟩ hn hd K hK
      have jh4 := hd.get 4 rfl
      clear hd
      refine Wants.free rfl ?_
      have jr44 := V.read 4 rfl rfl jh4
      go_simp
      exact hK.out (.tuple #[.int .i64 0, .int .i64 19]) _ ⟨V.set 5 _ _ rfl rfl rfl, jb0, jb1, jb2, jb3, bb⟩
    · rintro L a W ho ⟨V, jb0, jb1, jb2, jb3, bb⟩ hn hd K hK
      have jh5 := hd.get 5 rfl
      clear hd
      refine Wants.free rfl ?_
      have jr39 := V.read 5 rfl rfl jh5
      go_simp
      exact hK.out (.int .i64 0) _ ⟨V.set 6 _ _ rfl rfl rfl, jb0, jb1, jb2, jb3, bb⟩
    · rintro L a W ho ⟨V, jb0, jb1, jb2, jb3, bb⟩ hn hd K hK
      have jh5 := hd.get 5 rfl
      clear hd
      refine Wants.free rfl ?_
      have jr39 := V.read 5 rfl rfl jh5
      go_simp
      exact hK.out (.int .i64 19) _ ⟨V.set 7 _ _ rfl rfl rfl, jb0, jb1, jb2, jb3, bb⟩
    · rintro L a W ho ⟨V, jb0, jb1, jb2, jb3, bb⟩ hn hd K hK
      have jh6 := hd.get 6 rfl
      clear hd
      refine Wants.free rfl ?_
      have jr45 := V.read 6 rfl rfl jh6
      go_simp
      exact hK.out (.int .i64 0) _ ⟨V.set 8 _ _ rfl rfl rfl, jb0, jb1, jb2, jb3, bb⟩
    · rintro L a W ho ⟨V, jb0, jb1, jb2, jb3, bb⟩ hn hd K hK
      have jh7 := hd.get 7 rfl
      clear hd
      refine Wants.free rfl ?_
      have jr46 := V.read 7 rfl rfl jh7
      go_simp
      exact hK.out (.int .i64 19) _ ⟨V.set 9 _ _ rfl rfl rfl, jb0, jb1, jb2, jb3, bb⟩
  rintro L σ W ⟨V, jb0, jb1, jb2, jb3, bb⟩ hL
  have jf0 := V 0 _ _ rfl rfl (hL 0 (by decide))
  have jf1 := V 1 _ _ rfl rfl (hL 1 (by decide))
  have jf2 := V 2 _ _ rfl rfl (hL 2 (by decide))
  have jf3 := V 3 _ _ rfl rfl (hL 3 (by decide))
  have jf4 := V 4 _ _ rfl rfl (hL 4 (by decide))
  have jf5 := V 5 _ _ rfl rfl (hL 5 (by decide))
  have jf6 := V 6 _ _ rfl rfl (hL 6 (by decide))
  have jf7 := V 7 _ _ rfl rfl (hL 7 (by decide))
  have jf8 := V 8 _ _ rfl rfl (hL 8 (by decide))
  have jf9 := V 9 _ _ rfl rfl (hL 9 (by decide))
  clear V
  clear hL
  rw [show List.map σ [40, 41, 42, 43, 44, 39, 45, 46, 9, 10] = [σ 40, σ 41, σ 42, σ 43, σ 44, σ 39, σ 45, σ 46, σ 9, σ 10] from rfl, jf0, jf1, jf2, jf3, jf4, jf5, jf6, jf7, jf8, jf9]
  clear jf0 jf1 jf2 jf3 jf4 jf5 jf6 jf7 jf8 jf9
  simp only [putAll, List.map, Act.put, List.setIfInBounds_toArray, List.set_cons_succ, List.set_cons_zero]
  replace K0 := Lib.hid jb0
  replace K1 := Lib.hid jb1
  replace K2 := Lib.hid jb2
  replace K3 := Lib.hid jb3
  replace B := Lib.hid bb
  clear bb jb0 jb1 jb2 jb3
  have c0_0 := K0.out.at_ 0 _ rfl
  have c0_1 := K0.out.at_ 1 _ rfl
  have c0_2 := K0.out.at_ 2 _ rfl
  have c0_3 := K0.out.at_ 3 _ rfl
  have c1_0 := K1.out.at_ 0 _ rfl
  have c1_1 := K1.out.at_ 1 _ rfl
  have c1_2 := K1.out.at_ 2 _ rfl
  have c1_3 := K1.out.at_ 3 _ rfl
  have c2_0 := K2.out.at_ 0 _ rfl
  have c2_1 := K2.out.at_ 1 _ rfl
  have c2_2 := K2.out.at_ 2 _ rfl
  have c3_0 := K3.out.at_ 0 _ rfl
  have c3_1 := K3.out.at_ 1 _ rfl
  have c3_2 := K3.out.at_ 2 _ rfl
  rcases hu with t1 | ⟨t1, t2⟩
  all_goals
    go_wp2_with (
     (first
      | (go_at_call 33; with_reducible refine (OC1.out _ (baseI B.out)).mono ?_)
      | fail "arm"); rintro e wx ⟨rfl, q⟩; replace K0 := Lib.hid (K0.out.nearI q); replace K1 := Lib.hid (K1.out.nearI q); replace K2 := Lib.hid (K2.out.nearI q); replace K3 := Lib.hid (K3.out.nearI q); replace B := Lib.hid (goI B.out q); clear q; replace c0_0 := K0.out.at_ 0 _ rfl; replace c0_1 := K0.out.at_ 1 _ rfl; replace c0_2 := K0.out.at_ 2 _ rfl; replace c0_3 := K0.out.at_ 3 _ rfl; replace c1_0 := K1.out.at_ 0 _ rfl; replace c1_1 := K1.out.at_ 1 _ rfl; replace c1_2 := K1.out.at_ 2 _ rfl; replace c1_3 := K1.out.at_ 3 _ rfl; replace c2_0 := K2.out.at_ 0 _ rfl; replace c2_1 := K2.out.at_ 1 _ rfl; replace c2_2 := K2.out.at_ 2 _ rfl; replace c3_0 := K3.out.at_ 0 _ rfl; replace c3_1 := K3.out.at_ 1 _ rfl; replace c3_2 := K3.out.at_ 2 _ rfl)
    go_ret
    exact ⟨rfl, B.out⟩

set_option maxRecDepth 100000 in
set_option maxHeartbeats 20000000 in
theorem trends_ok (x1 y1 z1 b1 x2 y2 z2 b2 p1 p2 p3 q1 q2 q3 u1 u2 u3 v1 v2 v3 : Int) (A1 A2 A3 C1 C2 C3 : ByteArray) (n m c ga gb gd : Int) (w : World)
    (hu : ((u1 == 0) = false) ∨ ((u1 == 0) = true ∧ (u2 == 0) = false))
    (hv : ((v1 == 0) = false) ∨ ((v1 == 0) = true ∧ (v2 == 0) = false))
    (hc : (decide (n < m) = true ∧ c = -1) ∨ (decide (n < m) = false ∧ (n == m) = false ∧ decide (n > m) = true ∧ c = 1) ∨
      (decide (n < m) = false ∧ (n == m) = true ∧ decide (n > m) = false ∧ decide (gd < 0) = true ∧ c = -1) ∨
      (decide (n < m) = false ∧ (n == m) = true ∧ decide (n > m) = false ∧ decide (gd < 0) = false ∧ decide (gd > 0) = true ∧ c = 1) ∨
      (decide (n < m) = false ∧ (n == m) = true ∧ decide (n > m) = false ∧ decide (gd < 0) = false ∧ decide (gd > 0) = false ∧ c = 0))
    (k1 : IntKind.i64.wrap (u1 * v2) = ga)
    (k2 : IntKind.i64.wrap (u2 * v1) = gb)
    (k3 : IntKind.i64.wrap (ga - gb) = gd)
    (kn : ∀ W, Below w.heap.size w W → Calls Tryz.prog 12 #[] W fun e w' => e = .returned (.bool true) ∧ Below W.heap.size W w')
    (i1 : ∀ W, Below w.heap.size w W → Calls Tryz.prog 14 #[.agg #[.int .i8 x1, .int .i8 y1, .int .i8 z1, .int .u8 b1]] W fun e w' => e = .returned (.agg #[.int .i64 p1, .int .i64 p2, .int .i64 p3]) ∧ Below W.heap.size W w')
    (s1 : ∀ W, Below w.heap.size w W → Calls Tryz.prog 13 #[.agg #[.int .i64 p1, .int .i64 p2, .int .i64 p3]] W fun e w' => e = .returned (.bool false) ∧ Below W.heap.size W w')
    (i2 : ∀ W, Below w.heap.size w W → Calls Tryz.prog 14 #[.agg #[.int .i8 x2, .int .i8 y2, .int .i8 z2, .int .u8 b2]] W fun e w' => e = .returned (.agg #[.int .i64 q1, .int .i64 q2, .int .i64 q3]) ∧ Below W.heap.size W w')
    (s2 : ∀ W, Below w.heap.size w W → Calls Tryz.prog 13 #[.agg #[.int .i64 q1, .int .i64 q2, .int .i64 q3]] W fun e w' => e = .returned (.bool false) ∧ Below W.heap.size W w')
    (d1 : ∀ W, Below w.heap.size w W → Calls Tryz.prog 21 #[.agg #[.int .i64 p1, .int .i64 p2, .int .i64 p3]] W fun e w' => e = .returned (.agg #[.int .i64 u1, .int .i64 u2, .int .i64 u3]) ∧ Below W.heap.size W w')
    (d2 : ∀ W, Below w.heap.size w W → Calls Tryz.prog 21 #[.agg #[.int .i64 q1, .int .i64 q2, .int .i64 q3]] W fun e w' => e = .returned (.agg #[.int .i64 v1, .int .i64 v2, .int .i64 v3]) ∧ Below W.heap.size W w')
    (m1 : ∀ W, Below w.heap.size w W → Calls Tryz.prog 16 #[.agg #[.int .i8 x1, .int .i8 y1, .int .i8 z1, .int .u8 b1]] W fun e w' => e = .returned (.agg #[.string A1, .string A2, .string A3]) ∧ Below W.heap.size W w')
    (m2 : ∀ W, Below w.heap.size w W → Calls Tryz.prog 16 #[.agg #[.int .i8 x2, .int .i8 y2, .int .i8 z2, .int .u8 b2]] W fun e w' => e = .returned (.agg #[.string C1, .string C2, .string C3]) ∧ Below W.heap.size W w')
    (o1 : ∀ W, Below w.heap.size w W → Calls Tryz.prog 31 #[.agg #[.string A1, .string A2, .string A3]] W fun e w' => e = .returned (.tuple #[.int .i64 n, .int .i64 0]) ∧ Below W.heap.size W w')
    (o2 : ∀ W, Below w.heap.size w W → Calls Tryz.prog 32 #[.agg #[.string A1, .string A2, .string A3], .agg #[.string C1, .string C2, .string C3]] W fun e w' => e = .returned (.tuple #[.int .i64 c, .int .i64 0]) ∧ Below W.heap.size W w')
    (oc1 : ∀ W, Below w.heap.size w W → Calls Tryz.prog 33 #[.int .i64 u1, .int .i64 u2] W fun e w' => e = .returned (.int .i64 n) ∧ Below W.heap.size W w')
    (oc2 : ∀ W, Below w.heap.size w W → Calls Tryz.prog 33 #[.int .i64 v1, .int .i64 v2] W fun e w' => e = .returned (.int .i64 m) ∧ Below W.heap.size W w') :
    Calls Tryz.prog 8 #[.agg #[.int .i8 x1, .int .i8 y1, .int .i8 z1, .int .u8 b1], .agg #[.int .i8 x2, .int .i8 y2, .int .i8 z2, .int .u8 b2]] w fun e w' => e = .returned (.bool true) ∧ Below w.heap.size w w' := by
  have KN := Lib.hid kn
  have I1 := Lib.hid i1
  have S1 := Lib.hid s1
  have I2 := Lib.hid i2
  have S2 := Lib.hid s2
  have D1 := Lib.hid d1
  have D2 := Lib.hid d2
  have M1 := Lib.hid m1
  have M2 := Lib.hid m2
  have O1 := Lib.hid o1
  have O2 := Lib.hid o2
  have OC1 := Lib.hid oc1
  have OC2 := Lib.hid oc2
  clear kn i1 s1 i2 s2 d1 d2 m1 m2 o1 o2 oc1 oc2
  have k0 := Blk.fresh w #[.int .i8 x1, .int .i8 y1, .int .i8 z1, .int .u8 b1] 24
  replace k0 := k0.alloc (Obj.cells #[.int .i8 x2, .int .i8 y2, .int .i8 z2, .int .u8 b2] 24)
  have k1 := Blk.fresh (w.alloc (Obj.cells #[.int .i8 x1, .int .i8 y1, .int .i8 z1, .int .u8 b1] 24)) #[.int .i8 x2, .int .i8 y2, .int .i8 z2, .int .u8 b2] 24
  rw [show (w.alloc (Obj.cells #[.int .i8 x1, .int .i8 y1, .int .i8 z1, .int .u8 b1] 24)).heap.size = w.heap.size + 1 from World.size_alloc ..] at k1
  have jb0 : Below w.heap.size w ((w.alloc (Obj.cells #[.int .i8 x1, .int .i8 y1, .int .i8 z1, .int .u8 b1] 24)).alloc (Obj.cells #[.int .i8 x2, .int .i8 y2, .int .i8 z2, .int .u8 b2] 24)) := (((Below.refl _ _).alloc (Nat.le_refl _) _).alloc (by simp; try omega) _)
  have K0 := Lib.hid k0
  have K1 := Lib.hid k1
  have B := Lib.hid jb0
  clear jb0 k0 k1
  go_enter Tryz.func8, Tryz.ntmps8
  go_upto_region 1 with (fail)
  generalize ((w.alloc (Obj.cells #[.int .i8 x1, .int .i8 y1, .int .i8 z1, .int .u8 b1] 24)).alloc (Obj.cells #[.int .i8 x2, .int .i8 y2, .int .i8 z2, .int .u8 b2] 24)) = W0 at *
  have c0_0 := K0.out.at_ 0 _ rfl
  have c0_1 := K0.out.at_ 1 _ rfl
  have c0_2 := K0.out.at_ 2 _ rfl
  have c0_3 := K0.out.at_ 3 _ rfl
  have c1_0 := K1.out.at_ 0 _ rfl
  have c1_1 := K1.out.at_ 1 _ rfl
  have c1_2 := K1.out.at_ 2 _ rfl
  have c1_3 := K1.out.at_ 3 _ rfl
  go_upto_region 3 with (
   (first
    | (go_at_call 12; with_reducible refine (KN.out _ (baseI B.out)).mono ?_)
    | (go_at_call 14; with_reducible refine (I1.out _ (baseI B.out)).mono ?_)
    | (go_at_call 13; with_reducible refine (S1.out _ (baseI B.out)).mono ?_)
    | (go_at_call 14; with_reducible refine (I2.out _ (baseI B.out)).mono ?_)
    | (go_at_call 13; with_reducible refine (S2.out _ (baseI B.out)).mono ?_)
    | fail "arm"); rintro e wx ⟨rfl, q⟩; replace K0 := Lib.hid (K0.out.nearI q); replace K1 := Lib.hid (K1.out.nearI q); replace B := Lib.hid (goI B.out q); clear q; replace c0_0 := K0.out.at_ 0 _ rfl; replace c0_1 := K0.out.at_ 1 _ rfl; replace c0_2 := K0.out.at_ 2 _ rfl; replace c0_3 := K0.out.at_ 3 _ rfl; replace c1_0 := K1.out.at_ 0 _ rfl; replace c1_1 := K1.out.at_ 1 _ rfl; replace c1_2 := K1.out.at_ 2 _ rfl; replace c1_3 := K1.out.at_ 3 _ rfl)
  clear c0_0 c0_1 c0_2 c0_3 c1_0 c1_1 c1_2 c1_3
  refine wp_region_par (by kernel_rfl) [27, 28, 29, 30, 31, 32, 5, 6] (fun L σ W => Vals [some 27, some 28, some 29, some 30, some 31, some 32, none, none, none, none] [(.agg #[.int .i8 x1, .int .i8 y1, .int .i8 z1, .int .u8 b1]), (.agg #[.int .i64 p1, .int .i64 p2, .int .i64 p3]), (.agg #[.int .i64 u1, .int .i64 u2, .int .i64 u3]), (.agg #[.int .i8 x2, .int .i8 y2, .int .i8 z2, .int .u8 b2]), (.agg #[.int .i64 q1, .int .i64 q2, .int .i64 q3]), (.agg #[.int .i64 v1, .int .i64 v2, .int .i64 v3]), undef, undef, undef, undef] L σ ∧ (L 6 → ∃ (g : Nat) (jy0 jy1 jy2 : Value), σ 5 = .pointer (some ⟨g, 0, none⟩) ∧ w.heap.size ≤ g ∧ Blk W g #[jy0, jy1, jy2] 27 ∧ (L 8 → #[jy0, jy1, jy2] = #[.int .i64 u1, .int .i64 u2, .int .i64 u3]) ∧ w.heap.size ≠ g ∧ w.heap.size + 1 ≠ g) ∧ (L 7 → ∃ (g : Nat) (jy0 jy1 jy2 : Value), σ 6 = .pointer (some ⟨g, 0, none⟩) ∧ w.heap.size ≤ g ∧ Blk W g #[jy0, jy1, jy2] 27 ∧ (L 9 → #[jy0, jy1, jy2] = #[.int .i64 v1, .int .i64 v2, .int .i64 v3]) ∧ w.heap.size ≠ g ∧ w.heap.size + 1 ≠ g) ∧ (L 8 → L 6) ∧ (L 9 → L 7) ∧ (L 6 → L 7 → σ 5 ≠ σ 6) ∧ Blk W (w.heap.size) #[.int .i8 x1, .int .i8 y1, .int .i8 z1, .int .u8 b1] 24 ∧ Blk W (w.heap.size + 1) #[.int .i8 x2, .int .i8 y2, .int .i8 z2, .int .u8 b2] 24 ∧ Below w.heap.size w W) (by kernel_rfl) (by kernel_rfl) (by kernel_rfl) ?_ ?_ ?_
  · exact fun σ => ⟨Vals.start, fun h => h.elim, fun h => h.elim, fun h => h.elim, fun h => h.elim, fun h => h.elim, K0.out.below (Below.refl _ _).drew, K1.out.below (Below.refl _ _).drew, B.out.drew⟩
  · refine ⟨?_, ?_, ?_, ?_, ?_, ?_, ?_, ?_, ?_, ?_, trivial⟩
    · rintro L a W ho ⟨V, jf6, jf7, js8, js9, jn6_7, jb0, jb1, bb⟩ hn hd K hK
      clear hd
      refine Wants.free rfl ?_
      have jr2 : a.tmps[(2 : Nat)]?.getD undef = .pointer (some ⟨w.heap.size, 0, none⟩) := ho.slot 2 rfl
      have jc0 := jb0.at_ 0 _ rfl
      have jc1 := jb0.at_ 1 _ rfl
      have jc2 := jb0.at_ 2 _ rfl
      have jc3 := jb0.at_ 3 _ rfl
      go_simp
      exact hK.out (.agg #[.int .i8 x1, .int .i8 y1, .int .i8 z1, .int .u8 b1]) _ ⟨V.set 0 _ _ rfl rfl rfl, fun h => (by obtain ⟨jg, ju0, ju1, ju2, je1, je2, je3, je4, jne0, jne1⟩ := old jf6 rfl h; exact ⟨jg, _, _, _, je1, je2, je3, fun h => je4 (h.resolve_right (by decide)), jne0, jne1⟩), fun h => (by obtain ⟨jg, ju0, ju1, ju2, je1, je2, je3, je4, jne0, jne1⟩ := old jf7 rfl h; exact ⟨jg, _, _, _, je1, je2, je3, fun h => je4 (h.resolve_right (by decide)), jne0, jne1⟩), fun h => .inl (old js8 rfl h), fun h => .inl (old js9 rfl h), fun h h2 => jn6_7 (h.resolve_right (by decide)) (h2.resolve_right (by decide)), jb0, jb1, bb⟩
    · rintro L a W ho ⟨V, jf6, jf7, js8, js9, jn6_7, jb0, jb1, bb⟩ hn hd K hK
      have jh0 := hd.get 0 rfl
      clear hd
      refine Wants.free rfl ?_
      have jr27 := V.read 0 rfl rfl jh0
      go_simp
      go_at_call 14
      with_reducible refine (I1.out _ bb).mono ?_
      rintro e wx ⟨rfl, q⟩
      go_simp
      exact hK.out (.agg #[.int .i64 p1, .int .i64 p2, .int .i64 p3]) _ ⟨V.set 1 _ _ rfl rfl rfl, fun h => (by obtain ⟨jg, ju0, ju1, ju2, je1, je2, je3, je4, jne0, jne1⟩ := old jf6 rfl h; exact ⟨jg, _, _, _, je1, je2, je3.below q, fun h => je4 (h.resolve_right (by decide)), jne0, jne1⟩), fun h => (by obtain ⟨jg, ju0, ju1, ju2, je1, je2, je3, je4, jne0, jne1⟩ := old jf7 rfl h; exact ⟨jg, _, _, _, je1, je2, je3.below q, fun h => je4 (h.resolve_right (by decide)), jne0, jne1⟩), fun h => .inl (old js8 rfl h), fun h => .inl (old js9 rfl h), fun h h2 => jn6_7 (h.resolve_right (by decide)) (h2.resolve_right (by decide)), jb0.below q, jb1.below q, bb.trans (q.mono bb.size)⟩
    · rintro L a W ho ⟨V, jf6, jf7, js8, js9, jn6_7, jb0, jb1, bb⟩ hn hd K hK
      have jh1 := hd.get 1 rfl
      clear hd
      refine Wants.free rfl ?_
      have jr28 := V.read 1 rfl rfl jh1
      go_simp
      go_at_call 21
      with_reducible refine (D1.out _ bb).mono ?_
      rintro e wx ⟨rfl, q⟩
      go_simp
      exact hK.out (.agg #[.int .i64 u1, .int .i64 u2, .int .i64 u3]) _ ⟨V.set 2 _ _ rfl rfl rfl, fun h => (by obtain ⟨jg, ju0, ju1, ju2, je1, je2, je3, je4, jne0, jne1⟩ := old jf6 rfl h; exact ⟨jg, _, _, _, je1, je2, je3.below q, fun h => je4 (h.resolve_right (by decide)), jne0, jne1⟩), fun h => (by obtain ⟨jg, ju0, ju1, ju2, je1, je2, je3, je4, jne0, jne1⟩ := old jf7 rfl h; exact ⟨jg, _, _, _, je1, je2, je3.below q, fun h => je4 (h.resolve_right (by decide)), jne0, jne1⟩), fun h => .inl (old js8 rfl h), fun h => .inl (old js9 rfl h), fun h h2 => jn6_7 (h.resolve_right (by decide)) (h2.resolve_right (by decide)), jb0.below q, jb1.below q, bb.trans (q.mono bb.size)⟩
    · rintro L a W ho ⟨V, jf6, jf7, js8, js9, jn6_7, jb0, jb1, bb⟩ hn hd K hK
      clear hd
      refine Wants.free rfl ?_
      have jr3 : a.tmps[(3 : Nat)]?.getD undef = .pointer (some ⟨w.heap.size + 1, 0, none⟩) := ho.slot 3 rfl
      have jc0 := jb1.at_ 0 _ rfl
      have jc1 := jb1.at_ 1 _ rfl
      have jc2 := jb1.at_ 2 _ rfl
      have jc3 := jb1.at_ 3 _ rfl
      go_simp
      exact hK.out (.agg #[.int .i8 x2, .int .i8 y2, .int .i8 z2, .int .u8 b2]) _ ⟨V.set 3 _ _ rfl rfl rfl, fun h => (by obtain ⟨jg, ju0, ju1, ju2, je1, je2, je3, je4, jne0, jne1⟩ := old jf6 rfl h; exact ⟨jg, _, _, _, je1, je2, je3, fun h => je4 (h.resolve_right (by decide)), jne0, jne1⟩), fun h => (by obtain ⟨jg, ju0, ju1, ju2, je1, je2, je3, je4, jne0, jne1⟩ := old jf7 rfl h; exact ⟨jg, _, _, _, je1, je2, je3, fun h => je4 (h.resolve_right (by decide)), jne0, jne1⟩), fun h => .inl (old js8 rfl h), fun h => .inl (old js9 rfl h), fun h h2 => jn6_7 (h.resolve_right (by decide)) (h2.resolve_right (by decide)), jb0, jb1, bb⟩
    · rintro L a W ho ⟨V, jf6, jf7, js8, js9, jn6_7, jb0, jb1, bb⟩ hn hd K hK
      have jh3 := hd.get 3 rfl
      clear hd
      refine Wants.free rfl ?_
      have jr30 := V.read 3 rfl rfl jh3
      go_simp
      go_at_call 14
      with_reducible refine (I2.out _ bb).mono ?_
      rintro e wx ⟨rfl, q⟩
      go_simp
      exact hK.out (.agg #[.int .i64 q1, .int .i64 q2, .int .i64 q3]) _ ⟨V.set 4 _ _ rfl rfl rfl, fun h => (by obtain ⟨jg, ju0, ju1, ju2, je1, je2, je3, je4, jne0, jne1⟩ := old jf6 rfl h; exact ⟨jg, _, _, _, je1, je2, je3.below q, fun h => je4 (h.resolve_right (by decide)), jne0, jne1⟩), fun h => (by obtain ⟨jg, ju0, ju1, ju2, je1, je2, je3, je4, jne0, jne1⟩ := old jf7 rfl h; exact ⟨jg, _, _, _, je1, je2, je3.below q, fun h => je4 (h.resolve_right (by decide)), jne0, jne1⟩), fun h => .inl (old js8 rfl h), fun h => .inl (old js9 rfl h), fun h h2 => jn6_7 (h.resolve_right (by decide)) (h2.resolve_right (by decide)), jb0.below q, jb1.below q, bb.trans (q.mono bb.size)⟩
    · rintro L a W ho ⟨V, jf6, jf7, js8, js9, jn6_7, jb0, jb1, bb⟩ hn hd K hK
      have jh4 := hd.get 4 rfl
      clear hd
      refine Wants.free rfl ?_
      have jr31 := V.read 4 rfl rfl jh4
      go_simp
      go_at_call 21
      with_reducible refine (D2.out _ bb).mono ?_
      rintro e wx ⟨rfl, q⟩
      go_simp
      exact hK.out (.agg #[.int .i64 v1, .int .i64 v2, .int .i64 v3]) _ ⟨V.set 5 _ _ rfl rfl rfl, fun h => (by obtain ⟨jg, ju0, ju1, ju2, je1, je2, je3, je4, jne0, jne1⟩ := old jf6 rfl h; exact ⟨jg, _, _, _, je1, je2, je3.below q, fun h => je4 (h.resolve_right (by decide)), jne0, jne1⟩), fun h => (by obtain ⟨jg, ju0, ju1, ju2, je1, je2, je3, je4, jne0, jne1⟩ := old jf7 rfl h; exact ⟨jg, _, _, _, je1, je2, je3.below q, fun h => je4 (h.resolve_right (by decide)), jne0, jne1⟩), fun h => .inl (old js8 rfl h), fun h => .inl (old js9 rfl h), fun h h2 => jn6_7 (h.resolve_right (by decide)) (h2.resolve_right (by decide)), jb0.below q, jb1.below q, bb.trans (q.mono bb.size)⟩
    · rintro L a W ho ⟨V, jf6, jf7, js8, js9, jn6_7, jb0, jb1, bb⟩ hn hd K hK
      clear hd
      refine Wants.free rfl ?_
      go_simp
      exact hK.out (.pointer (some ⟨W.heap.size, 0, none⟩)) _ ⟨V.apart 6 _ _ rfl rfl, fun _ => ⟨W.heap.size, .int .i64 0, .int .i64 0, .int .i64 0, rfl, bb.size, Blk.fresh W #[.int .i64 0, .int .i64 0, .int .i64 0] 27, fun h => absurd (old js8 rfl h) hn, (Nat.ne_of_lt jb0.lt), (Nat.ne_of_lt jb1.lt)⟩, fun h => (by obtain ⟨jg, ju0, ju1, ju2, je1, je2, je3, je4, jne0, jne1⟩ := old jf7 rfl h; exact ⟨jg, _, _, _, je1, je2, je3.alloc (Obj.cells #[.int .i64 0, .int .i64 0, .int .i64 0] 27), fun h => je4 (h.resolve_right (by decide)), jne0, jne1⟩), fun h => .inl (old js8 rfl h), fun h => .inl (old js9 rfl h), fun h h2 => (by obtain ⟨jg, ju0, ju1, ju2, je1, je2, je3, je4, jne0, jne1⟩ := jf7 (h2.resolve_right (by decide)); have jhlt := je3.lt; show (Value.pointer (some ⟨W.heap.size, 0, none⟩)) ≠ slotOf a 6; rw [je1]; intro e; injection e with e; injection e with e; injection e with e; omega), jb0.alloc (Obj.cells #[.int .i64 0, .int .i64 0, .int .i64 0] 27), jb1.alloc (Obj.cells #[.int .i64 0, .int .i64 0, .int .i64 0] 27), bb.trans ((below_new W (Obj.cells #[.int .i64 0, .int .i64 0, .int .i64 0] 27)).mono bb.size)⟩
    · rintro L a W ho ⟨V, jf6, jf7, js8, js9, jn6_7, jb0, jb1, bb⟩ hn hd K hK
      clear hd
      refine Wants.free rfl ?_
      go_simp
      exact hK.out (.pointer (some ⟨W.heap.size, 0, none⟩)) _ ⟨V.apart 7 _ _ rfl rfl, fun h => (by obtain ⟨jg, ju0, ju1, ju2, je1, je2, je3, je4, jne0, jne1⟩ := old jf6 rfl h; exact ⟨jg, _, _, _, je1, je2, je3.alloc (Obj.cells #[.int .i64 0, .int .i64 0, .int .i64 0] 27), fun h => je4 (h.resolve_right (by decide)), jne0, jne1⟩), fun _ => ⟨W.heap.size, .int .i64 0, .int .i64 0, .int .i64 0, rfl, bb.size, Blk.fresh W #[.int .i64 0, .int .i64 0, .int .i64 0] 27, fun h => absurd (old js9 rfl h) hn, (Nat.ne_of_lt jb0.lt), (Nat.ne_of_lt jb1.lt)⟩, fun h => .inl (old js8 rfl h), fun h => .inl (old js9 rfl h), fun h h2 => (by obtain ⟨jg, ju0, ju1, ju2, je1, je2, je3, je4, jne0, jne1⟩ := jf6 (h.resolve_right (by decide)); have jhlt := je3.lt; show slotOf a 5 ≠ (Value.pointer (some ⟨W.heap.size, 0, none⟩)); rw [je1]; intro e; injection e with e; injection e with e; injection e with e; omega), jb0.alloc (Obj.cells #[.int .i64 0, .int .i64 0, .int .i64 0] 27), jb1.alloc (Obj.cells #[.int .i64 0, .int .i64 0, .int .i64 0] 27), bb.trans ((below_new W (Obj.cells #[.int .i64 0, .int .i64 0, .int .i64 0] 27)).mono bb.size)⟩
    · rintro L a W ho ⟨V, jf6, jf7, js8, js9, jn6_7, jb0, jb1, bb⟩ hn hd K hK
      have jh6 := hd.get 6 rfl
      have jh2 := hd.get 2 rfl
      clear hd
      refine Wants.free rfl ?_
      have jr29 := V.read 2 rfl rfl jh2
      obtain ⟨jg, jy0, jy1, jy2, je1, je2, je3, je4, jne0, jne1⟩ := jf6 jh6
      have jr5 : a.tmps[(5 : Nat)]?.getD undef = .pointer (some ⟨jg, 0, none⟩) := je1
      have jc0 := je3.at_ 0 _ rfl
      have jz0 := je3.free 0
      have jc1 := je3.at_ 1 _ rfl
      have jz1 := je3.free 1
      have jc2 := je3.at_ 2 _ rfl
      have jz2 := je3.free 2
      go_simp
      exact hK.out (undef) _ ⟨V.same 8 _ rfl, fun _ => ⟨jg, .int .i64 u1, .int .i64 u2, .int .i64 u3, je1, je2, je3.set3 (.int .i64 u1) (.int .i64 u2) (.int .i64 u3), fun _ => rfl, jne0, jne1⟩, fun h => (by have jhne := jn6_7 jh6 (h.resolve_right (by decide)); obtain ⟨jg2, ju0, ju1, ju2, jt1, jq2, jq3, je4, jnq0, jnq1⟩ := old jf7 rfl h; exact ⟨jg2, _, _, _, jt1, jq2, jq3.else3 (fun e => jhne (by rw [jt1, je1, e])) (.int .i64 u1) (.int .i64 u2) (.int .i64 u3), fun h => je4 (h.resolve_right (by decide)), jnq0, jnq1⟩), fun _ => .inl jh6, fun h => .inl (old js9 rfl h), fun h h2 => jn6_7 (h.resolve_right (by decide)) (h2.resolve_right (by decide)), jb0.else3 jne0 (.int .i64 u1) (.int .i64 u2) (.int .i64 u3), jb1.else3 jne1 (.int .i64 u1) (.int .i64 u2) (.int .i64 u3), bb.trans (below_else3 W w.heap.size jg je2 (.int .i64 u1) (.int .i64 u2) (.int .i64 u3))⟩
    · rintro L a W ho ⟨V, jf6, jf7, js8, js9, jn6_7, jb0, jb1, bb⟩ hn hd K hK
      have jh7 := hd.get 7 rfl
      have jh5 := hd.get 5 rfl
      clear hd
      refine Wants.free rfl ?_
      have jr32 := V.read 5 rfl rfl jh5
      obtain ⟨jg, jy0, jy1, jy2, je1, je2, je3, je4, jne0, jne1⟩ := jf7 jh7
      have jr6 : a.tmps[(6 : Nat)]?.getD undef = .pointer (some ⟨jg, 0, none⟩) := je1
      have jc0 := je3.at_ 0 _ rfl
      have jz0 := je3.free 0
      have jc1 := je3.at_ 1 _ rfl
      have jz1 := je3.free 1
      have jc2 := je3.at_ 2 _ rfl
      have jz2 := je3.free 2
      go_simp
      exact hK.out (undef) _ ⟨V.same 9 _ rfl, fun h => (by have jhne := jn6_7 (h.resolve_right (by decide)) jh7; obtain ⟨jg2, ju0, ju1, ju2, jt1, jq2, jq3, je4, jnq0, jnq1⟩ := old jf6 rfl h; exact ⟨jg2, _, _, _, jt1, jq2, jq3.else3 (fun e => jhne (by rw [jt1, je1, e])) (.int .i64 v1) (.int .i64 v2) (.int .i64 v3), fun h => je4 (h.resolve_right (by decide)), jnq0, jnq1⟩), fun _ => ⟨jg, .int .i64 v1, .int .i64 v2, .int .i64 v3, je1, je2, je3.set3 (.int .i64 v1) (.int .i64 v2) (.int .i64 v3), fun _ => rfl, jne0, jne1⟩, fun h => .inl (old js8 rfl h), fun _ => .inl jh7, fun h h2 => jn6_7 (h.resolve_right (by decide)) (h2.resolve_right (by decide)), jb0.else3 jne0 (.int .i64 v1) (.int .i64 v2) (.int .i64 v3), jb1.else3 jne1 (.int .i64 v1) (.int .i64 v2) (.int .i64 v3), bb.trans (below_else3 W w.heap.size jg je2 (.int .i64 v1) (.int .i64 v2) (.int .i64 v3))⟩
  rintro L σ W ⟨V, jf6, jf7, js8, js9, jn6_7, jb0, jb1, bb⟩ hL
  have jf0 := V 0 _ _ rfl rfl (hL 0 (by decide))
  have jf1 := V 1 _ _ rfl rfl (hL 1 (by decide))
  have jf2 := V 2 _ _ rfl rfl (hL 2 (by decide))
  have jf3 := V 3 _ _ rfl rfl (hL 3 (by decide))
  have jf4 := V 4 _ _ rfl rfl (hL 4 (by decide))
  have jf5 := V 5 _ _ rfl rfl (hL 5 (by decide))
  clear V
  replace jn6_7 := jn6_7 (hL 6 (by decide)) (hL 7 (by decide))
  obtain ⟨g3_6, jy6_0, jy6_1, jy6_2, jf6, jl6, jv6, je6, jne6_0, jne6_1⟩ := jf6 (hL 6 (by decide))
  rw [je6 (hL 8 (by decide))] at jv6
  clear je6 jne6_0 jne6_1
  obtain ⟨g3_7, jy7_0, jy7_1, jy7_2, jf7, jl7, jv7, je7, jne7_0, jne7_1⟩ := jf7 (hL 7 (by decide))
  rw [je7 (hL 9 (by decide))] at jv7
  clear je7 jne7_0 jne7_1
  clear jn6_7
  clear hL js8 js9
  rw [show List.map σ [27, 28, 29, 30, 31, 32, 5, 6] = [σ 27, σ 28, σ 29, σ 30, σ 31, σ 32, σ 5, σ 6] from rfl, jf0, jf1, jf2, jf3, jf4, jf5, jf6, jf7]
  clear jf0 jf1 jf2 jf3 jf4 jf5 jf6 jf7
  simp only [putAll, List.map, Act.put, List.setIfInBounds_toArray, List.set_cons_succ, List.set_cons_zero]
  replace K0 := Lib.hid jb0
  replace K1 := Lib.hid jb1
  have K2 := Lib.hid jv6
  have K3 := Lib.hid jv7
  replace B := Lib.hid bb
  clear bb jb0 jb1 jv6 jl6 jv7 jl7
  have c0_0 := K0.out.at_ 0 _ rfl
  have c0_1 := K0.out.at_ 1 _ rfl
  have c0_2 := K0.out.at_ 2 _ rfl
  have c0_3 := K0.out.at_ 3 _ rfl
  have c1_0 := K1.out.at_ 0 _ rfl
  have c1_1 := K1.out.at_ 1 _ rfl
  have c1_2 := K1.out.at_ 2 _ rfl
  have c1_3 := K1.out.at_ 3 _ rfl
  have c2_0 := K2.out.at_ 0 _ rfl
  have c2_1 := K2.out.at_ 1 _ rfl
  have c2_2 := K2.out.at_ 2 _ rfl
  have c3_0 := K3.out.at_ 0 _ rfl
  have c3_1 := K3.out.at_ 1 _ rfl
  have c3_2 := K3.out.at_ 2 _ rfl
  go_upto_region 5 with (
   (first
    | (go_at_call 16; with_reducible refine (M1.out _ (baseI B.out)).mono ?_)
    | (go_at_call 31; with_reducible refine (O1.out _ (baseI B.out)).mono ?_)
    | fail "arm"); rintro e wx ⟨rfl, q⟩; replace K0 := Lib.hid (K0.out.nearI q); replace K1 := Lib.hid (K1.out.nearI q); replace K2 := Lib.hid (K2.out.nearI q); replace K3 := Lib.hid (K3.out.nearI q); replace B := Lib.hid (goI B.out q); clear q; replace c0_0 := K0.out.at_ 0 _ rfl; replace c0_1 := K0.out.at_ 1 _ rfl; replace c0_2 := K0.out.at_ 2 _ rfl; replace c0_3 := K0.out.at_ 3 _ rfl; replace c1_0 := K1.out.at_ 0 _ rfl; replace c1_1 := K1.out.at_ 1 _ rfl; replace c1_2 := K1.out.at_ 2 _ rfl; replace c1_3 := K1.out.at_ 3 _ rfl; replace c2_0 := K2.out.at_ 0 _ rfl; replace c2_1 := K2.out.at_ 1 _ rfl; replace c2_2 := K2.out.at_ 2 _ rfl; replace c3_0 := K3.out.at_ 0 _ rfl; replace c3_1 := K3.out.at_ 1 _ rfl; replace c3_2 := K3.out.at_ 2 _ rfl)
  clear c0_0 c0_1 c0_2 c0_3 c1_0 c1_1 c1_2 c1_3 c2_0 c2_1 c2_2 c3_0 c3_1 c3_2
  refine wp_region_par (by kernel_rfl) [40, 41, 42, 43, 44, 39, 45, 46, 9, 10] (fun L σ W => Vals [some 40, some 41, some 42, some 43, some 44, some 39, some 45, some 46, some 9, some 10] [(.agg #[.int .i8 x1, .int .i8 y1, .int .i8 z1, .int .u8 b1]), (.agg #[.string A1, .string A2, .string A3]), (.agg #[.int .i8 x2, .int .i8 y2, .int .i8 z2, .int .u8 b2]), (.agg #[.string C1, .string C2, .string C3]), (.tuple #[.int .i64 c, .int .i64 0]), (.tuple #[.int .i64 c, .int .i64 0]), (.int .i64 c), (.int .i64 0), (.int .i64 c), (.int .i64 0)] L σ ∧ Blk W (w.heap.size) #[.int .i8 x1, .int .i8 y1, .int .i8 z1, .int .u8 b1] 24 ∧ Blk W (w.heap.size + 1) #[.int .i8 x2, .int .i8 y2, .int .i8 z2, .int .u8 b2] 24 ∧ Blk W (g3_6) #[.int .i64 u1, .int .i64 u2, .int .i64 u3] 27 ∧ Blk W (g3_7) #[.int .i64 v1, .int .i64 v2, .int .i64 v3] 27 ∧ Below w.heap.size w W) (by kernel_rfl) (by kernel_rfl) (by kernel_rfl) ?_ ?_ ?_
  · exact fun σ => ⟨Vals.start, K0.out.below (Below.refl _ _).drew, K1.out.below (Below.refl _ _).drew, K2.out.below (Below.refl _ _).drew, K3.out.below (Below.refl _ _).drew, B.out.drew⟩
  · refine ⟨?_, ?_, ?_, ?_, ?_, ?_, ?_, ?_, ?_, ?_, trivial⟩
    · rintro L a W ho ⟨V, jb0, jb1, jb2, jb3, bb⟩ hn hd K hK
      clear hd
      refine Wants.free rfl ?_
      have jr2 : a.tmps[(2 : Nat)]?.getD undef = .pointer (some ⟨w.heap.size, 0, none⟩) := ho.slot 2 rfl
      have jc0 := jb0.at_ 0 _ rfl
      have jc1 := jb0.at_ 1 _ rfl
      have jc2 := jb0.at_ 2 _ rfl
      have jc3 := jb0.at_ 3 _ rfl
      go_simp
      exact hK.out (.agg #[.int .i8 x1, .int .i8 y1, .int .i8 z1, .int .u8 b1]) _ ⟨V.set 0 _ _ rfl rfl rfl, jb0, jb1, jb2, jb3, bb⟩
    · rintro L a W ho ⟨V, jb0, jb1, jb2, jb3, bb⟩ hn hd K hK
      have jh0 := hd.get 0 rfl
      clear hd
      refine Wants.free rfl ?_
      have jr40 := V.read 0 rfl rfl jh0
      go_simp
      go_at_call 16
      with_reducible refine (M1.out _ bb).mono ?_
      rintro e wx ⟨rfl, q⟩
      go_simp
      exact hK.out (.agg #[.string A1, .string A2, .string A3]) _ ⟨V.set 1 _ _ rfl rfl rfl, jb0.below q, jb1.below q, jb2.below q, jb3.below q, bb.trans (q.mono bb.size)⟩
    · rintro L a W ho ⟨V, jb0, jb1, jb2, jb3, bb⟩ hn hd K hK
      clear hd
      refine Wants.free rfl ?_
      have jr3 : a.tmps[(3 : Nat)]?.getD undef = .pointer (some ⟨w.heap.size + 1, 0, none⟩) := ho.slot 3 rfl
      have jc0 := jb1.at_ 0 _ rfl
      have jc1 := jb1.at_ 1 _ rfl
      have jc2 := jb1.at_ 2 _ rfl
      have jc3 := jb1.at_ 3 _ rfl
      go_simp
      exact hK.out (.agg #[.int .i8 x2, .int .i8 y2, .int .i8 z2, .int .u8 b2]) _ ⟨V.set 2 _ _ rfl rfl rfl, jb0, jb1, jb2, jb3, bb⟩
    · rintro L a W ho ⟨V, jb0, jb1, jb2, jb3, bb⟩ hn hd K hK
      have jh2 := hd.get 2 rfl
      clear hd
      refine Wants.free rfl ?_
      have jr42 := V.read 2 rfl rfl jh2
      go_simp
      go_at_call 16
      with_reducible refine (M2.out _ bb).mono ?_
      rintro e wx ⟨rfl, q⟩
      go_simp
      exact hK.out (.agg #[.string C1, .string C2, .string C3]) _ ⟨V.set 3 _ _ rfl rfl rfl, jb0.below q, jb1.below q, jb2.below q, jb3.below q, bb.trans (q.mono bb.size)⟩
    · rintro L a W ho ⟨V, jb0, jb1, jb2, jb3, bb⟩ hn hd K hK
      have jh1 := hd.get 1 rfl
      have jh3 := hd.get 3 rfl
      clear hd
      refine Wants.free rfl ?_
      have jr41 := V.read 1 rfl rfl jh1
      have jr43 := V.read 3 rfl rfl jh3
      go_simp
      go_at_call 32
      with_reducible refine (O2.out _ bb).mono ?_
      rintro e wx ⟨rfl, q⟩
      go_simp
      exact hK.out (.tuple #[.int .i64 c, .int .i64 0]) _ ⟨V.set 4 _ _ rfl rfl rfl, jb0.below q, jb1.below q, jb2.below q, jb3.below q, bb.trans (q.mono bb.size)⟩
    · rintro L a W ho ⟨V, jb0, jb1, jb2, jb3, bb⟩ hn hd K hK
      have jh4 := hd.get 4 rfl
      clear hd
      refine Wants.free rfl ?_
      have jr44 := V.read 4 rfl rfl jh4
      go_simp
      exact hK.out (.tuple #[.int .i64 c, .int .i64 0]) _ ⟨V.set 5 _ _ rfl rfl rfl, jb0, jb1, jb2, jb3, bb⟩
    · rintro L a W ho ⟨V, jb0, jb1, jb2, jb3, bb⟩ hn hd K hK
      have jh5 := hd.get 5 rfl
      clear hd
      refine Wants.free rfl ?_
      have jr39 := V.read 5 rfl rfl jh5
      go_simp
      exact hK.out (.int .i64 c) _ ⟨V.set 6 _ _ rfl rfl rfl, jb0, jb1, jb2, jb3, bb⟩
    · rintro L a W ho ⟨V, jb0, jb1, jb2, jb3, bb⟩ hn hd K hK
      have jh5 := hd.get 5 rfl
      clear hd
      refine Wants.free rfl ?_
      have jr39 := V.read 5 rfl rfl jh5
      go_simp
      exact hK.out (.int .i64 0) _ ⟨V.set 7 _ _ rfl rfl rfl, jb0, jb1, jb2, jb3, bb⟩
    · rintro L a W ho ⟨V, jb0, jb1, jb2, jb3, bb⟩ hn hd K hK
      have jh6 := hd.get 6 rfl
      clear hd
      refine Wants.free rfl ?_
      have jr45 := V.read 6 rfl rfl jh6
      go_simp
      exact hK.out (.int .i64 c) _ ⟨V.set 8 _ _ rfl rfl rfl, jb0, jb1, jb2, jb3, bb⟩
    · rintro L a W ho ⟨V, jb0, jb1, jb2, jb3, bb⟩ hn hd K hK
      have jh7 := hd.get 7 rfl
      clear hd
      refine Wants.free rfl ?_
      have jr46 := V.read 7 rfl rfl jh7
      go_simp
      exact hK.out (.int .i64 0) _ ⟨V.set 9 _ _ rfl rfl rfl, jb0, jb1, jb2, jb3, bb⟩
  rintro L σ W ⟨V, jb0, jb1, jb2, jb3, bb⟩ hL
  have jf0 := V 0 _ _ rfl rfl (hL 0 (by decide))
  have jf1 := V 1 _ _ rfl rfl (hL 1 (by decide))
  have jf2 := V 2 _ _ rfl rfl (hL 2 (by decide))
  have jf3 := V 3 _ _ rfl rfl (hL 3 (by decide))
  have jf4 := V 4 _ _ rfl rfl (hL 4 (by decide))
  have jf5 := V 5 _ _ rfl rfl (hL 5 (by decide))
  have jf6 := V 6 _ _ rfl rfl (hL 6 (by decide))
  have jf7 := V 7 _ _ rfl rfl (hL 7 (by decide))
  have jf8 := V 8 _ _ rfl rfl (hL 8 (by decide))
  have jf9 := V 9 _ _ rfl rfl (hL 9 (by decide))
  clear V
  clear hL
  rw [show List.map σ [40, 41, 42, 43, 44, 39, 45, 46, 9, 10] = [σ 40, σ 41, σ 42, σ 43, σ 44, σ 39, σ 45, σ 46, σ 9, σ 10] from rfl, jf0, jf1, jf2, jf3, jf4, jf5, jf6, jf7, jf8, jf9]
  clear jf0 jf1 jf2 jf3 jf4 jf5 jf6 jf7 jf8 jf9
  simp only [putAll, List.map, Act.put, List.setIfInBounds_toArray, List.set_cons_succ, List.set_cons_zero]
  replace K0 := Lib.hid jb0
  replace K1 := Lib.hid jb1
  replace K2 := Lib.hid jb2
  replace K3 := Lib.hid jb3
  replace B := Lib.hid bb
  clear bb jb0 jb1 jb2 jb3
  have c0_0 := K0.out.at_ 0 _ rfl
  have c0_1 := K0.out.at_ 1 _ rfl
  have c0_2 := K0.out.at_ 2 _ rfl
  have c0_3 := K0.out.at_ 3 _ rfl
  have c1_0 := K1.out.at_ 0 _ rfl
  have c1_1 := K1.out.at_ 1 _ rfl
  have c1_2 := K1.out.at_ 2 _ rfl
  have c1_3 := K1.out.at_ 3 _ rfl
  have c2_0 := K2.out.at_ 0 _ rfl
  have c2_1 := K2.out.at_ 1 _ rfl
  have c2_2 := K2.out.at_ 2 _ rfl
  have c3_0 := K3.out.at_ 0 _ rfl
  have c3_1 := K3.out.at_ 1 _ rfl
  have c3_2 := K3.out.at_ 2 _ rfl
  clear c0_0 c0_1 c0_2 c0_3 c1_0 c1_1 c1_2 c1_3
  rcases hu with t1 | ⟨t1, t2⟩ <;> rcases hv with t3 | ⟨t3, t4⟩ <;> rcases hc with ⟨a1, rfl⟩ | ⟨a1, a2, a3, rfl⟩ | ⟨a1, a2, a3, a4, rfl⟩ | ⟨a1, a2, a3, a4, a5, rfl⟩ | ⟨a1, a2, a3, a4, a5, rfl⟩
  all_goals
    go_wp2_with (
     (first
      | (go_at_call 33; with_reducible refine (OC1.out _ (baseI B.out)).mono ?_)
      | (go_at_call 33; with_reducible refine (OC2.out _ (baseI B.out)).mono ?_)
      | fail "arm"); rintro e wx ⟨rfl, q⟩; replace K0 := Lib.hid (K0.out.nearI q); replace K1 := Lib.hid (K1.out.nearI q); replace K2 := Lib.hid (K2.out.nearI q); replace K3 := Lib.hid (K3.out.nearI q); replace B := Lib.hid (goI B.out q); clear q; replace c2_0 := K2.out.at_ 0 _ rfl; replace c2_1 := K2.out.at_ 1 _ rfl; replace c2_2 := K2.out.at_ 2 _ rfl; replace c3_0 := K3.out.at_ 0 _ rfl; replace c3_1 := K3.out.at_ 1 _ rfl; replace c3_2 := K3.out.at_ 2 _ rfl)
    go_ret
    exact ⟨rfl, B.out⟩

end Go.Proofs.YtajkeoapfkkjbaaGreatDoor
