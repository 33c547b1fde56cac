/- The walk of LineationChecks, over texts. -/
import Derived.Test.YtajkeoapfkkjbaaGreatDoorShelf
import Derived.Test.YtajkeoapfkkjbaaGreatDoorPar
import Derived.Deep.RegionHeld3
import Derived.Laws.ResultCell
import Derived.Deep.Cut
import Derived.Deep.CutRange
import Derived.Deep.DeepCutAuto
import Derived.Outline
namespace Go.Proofs.YtajkeoapfkkjbaaGreatDoor
set_option linter.all false
open Go.RowKit

set_option maxRecDepth 100000 in
set_option maxHeartbeats 4000000 in
theorem checks_l1 (X1 X2 X3 Y1 Y2 Y3 : ByteArray) (w : World)
    (kn : ∀ W, Below w.heap.size w W → Calls Tryz.prog 12 #[] W fun e w' => e = .returned (.bool true) ∧ Below W.heap.size W w')
    (l0 : ∀ W, Below w.heap.size w W → Calls Tryz.prog 37 #[.agg #[.string X1, .string X2, .string X3]] W fun e w' => e = .returned (.bool true) ∧ Below W.heap.size W w') :
    Calls Tryz.prog 11 #[.agg #[.string X1, .string X2, .string X3], .agg #[.string Y1, .string Y2, .string Y3]] w fun e w' => e = .returned (.bool true) ∧ Below w.heap.size w w' := by
  have KN := Lib.hid kn
  have L0 := Lib.hid l0
  clear kn l0
  have k0 := Blk.fresh w #[.string X1, .string X2, .string X3] 34
  replace k0 := k0.alloc (Obj.cells #[.string Y1, .string Y2, .string Y3] 34)
  have k1 := Blk.fresh (w.alloc (Obj.cells #[.string X1, .string X2, .string X3] 34)) #[.string Y1, .string Y2, .string Y3] 34
  rw [show (w.alloc (Obj.cells #[.string X1, .string X2, .string X3] 34)).heap.size = w.heap.size + 1 from World.size_alloc ..] at k1
  have jb0 : Below w.heap.size w ((w.alloc (Obj.cells #[.string X1, .string X2, .string X3] 34)).alloc (Obj.cells #[.string Y1, .string Y2, .string Y3] 34)) := (((Below.refl _ _).alloc (Nat.le_refl _) _).alloc (by simp; try omega) _)
  have K0 := Lib.hid k0
  have K1 := Lib.hid k1
  have B := Lib.hid jb0
  clear jb0 k0 k1
  go_enter Tryz.func11, Tryz.ntmps11
  go_upto_region 1 with (fail)
  generalize ((w.alloc (Obj.cells #[.string X1, .string X2, .string X3] 34)).alloc (Obj.cells #[.string Y1, .string Y2, .string Y3] 34)) = W0 at *
  have c0_0 := K0.out.at_ 0 _ rfl
  have c0_1 := K0.out.at_ 1 _ rfl
  have c0_2 := K0.out.at_ 2 _ rfl
  have c1_0 := K1.out.at_ 0 _ rfl
  have c1_1 := K1.out.at_ 1 _ rfl
  have c1_2 := K1.out.at_ 2 _ rfl
  go_wp2_with (
   (first
    | (go_at_call 12; with_reducible refine (KN.out _ (baseI B.out)).mono ?_)
    | (go_at_call 37; with_reducible refine (L0.out _ (baseI B.out)).mono ?_)
    | fail "arm"); rintro e wx ⟨rfl, q⟩; replace K0 := Lib.hid (K0.out.nearI q); replace K1 := Lib.hid (K1.out.nearI q); replace B := Lib.hid (goI B.out q); clear q; replace c0_0 := K0.out.at_ 0 _ rfl; replace c0_1 := K0.out.at_ 1 _ rfl; replace c0_2 := K0.out.at_ 2 _ rfl; replace c1_0 := K1.out.at_ 0 _ rfl; replace c1_1 := K1.out.at_ 1 _ rfl; replace c1_2 := K1.out.at_ 2 _ rfl)
  go_ret
  exact ⟨rfl, B.out⟩

set_option maxRecDepth 100000 in
set_option maxHeartbeats 4000000 in
theorem checks_l2 (X1 X2 X3 Y1 Y2 Y3 : ByteArray) (w : World)
    (kn : ∀ W, Below w.heap.size w W → Calls Tryz.prog 12 #[] W fun e w' => e = .returned (.bool true) ∧ Below W.heap.size W w')
    (l0 : ∀ W, Below w.heap.size w W → Calls Tryz.prog 37 #[.agg #[.string X1, .string X2, .string X3]] W fun e w' => e = .returned (.bool false) ∧ Below W.heap.size W w')
    (l1 : ∀ W, Below w.heap.size w W → Calls Tryz.prog 37 #[.agg #[.string Y1, .string Y2, .string Y3]] W fun e w' => e = .returned (.bool true) ∧ Below W.heap.size W w') :
    Calls Tryz.prog 11 #[.agg #[.string X1, .string X2, .string X3], .agg #[.string Y1, .string Y2, .string Y3]] w fun e w' => e = .returned (.bool true) ∧ Below w.heap.size w w' := by
  have KN := Lib.hid kn
  have L0 := Lib.hid l0
  have L1 := Lib.hid l1
  clear kn l0 l1
  have k0 := Blk.fresh w #[.string X1, .string X2, .string X3] 34
  replace k0 := k0.alloc (Obj.cells #[.string Y1, .string Y2, .string Y3] 34)
  have k1 := Blk.fresh (w.alloc (Obj.cells #[.string X1, .string X2, .string X3] 34)) #[.string Y1, .string Y2, .string Y3] 34
  rw [show (w.alloc (Obj.cells #[.string X1, .string X2, .string X3] 34)).heap.size = w.heap.size + 1 from World.size_alloc ..] at k1
  have jb0 : Below w.heap.size w ((w.alloc (Obj.cells #[.string X1, .string X2, .string X3] 34)).alloc (Obj.cells #[.string Y1, .string Y2, .string Y3] 34)) := (((Below.refl _ _).alloc (Nat.le_refl _) _).alloc (by simp; try omega) _)
  have K0 := Lib.hid k0
  have K1 := Lib.hid k1
  have B := Lib.hid jb0
  clear jb0 k0 k1
  go_enter Tryz.func11, Tryz.ntmps11
  go_upto_region 1 with (fail)
  generalize ((w.alloc (Obj.cells #[.string X1, .string X2, .string X3] 34)).alloc (Obj.cells #[.string Y1, .string Y2, .string Y3] 34)) = W0 at *
  have c0_0 := K0.out.at_ 0 _ rfl
  have c0_1 := K0.out.at_ 1 _ rfl
  have c0_2 := K0.out.at_ 2 _ rfl
  have c1_0 := K1.out.at_ 0 _ rfl
  have c1_1 := K1.out.at_ 1 _ rfl
  have c1_2 := K1.out.at_ 2 _ rfl
  go_wp2_with (
   (first
    | (go_at_call 12; with_reducible refine (KN.out _ (baseI B.out)).mono ?_)
    | (go_at_call 37; with_reducible refine (L0.out _ (baseI B.out)).mono ?_)
    | (go_at_call 37; with_reducible refine (L1.out _ (baseI B.out)).mono ?_)
    | fail "arm"); rintro e wx ⟨rfl, q⟩; replace K0 := Lib.hid (K0.out.nearI q); replace K1 := Lib.hid (K1.out.nearI q); replace B := Lib.hid (goI B.out q); clear q; replace c0_0 := K0.out.at_ 0 _ rfl; replace c0_1 := K0.out.at_ 1 _ rfl; replace c0_2 := K0.out.at_ 2 _ rfl; replace c1_0 := K1.out.at_ 0 _ rfl; replace c1_1 := K1.out.at_ 1 _ rfl; replace c1_2 := K1.out.at_ 2 _ rfl)
  go_ret
  exact ⟨rfl, B.out⟩

set_option maxRecDepth 100000 in
set_option maxHeartbeats 4000000 in
theorem checks_ok (X1 X2 X3 Y1 Y2 Y3 : ByteArray) (w : World)
    (kn : ∀ W, Below w.heap.size w W → Calls Tryz.prog 12 #[] W fun e w' => e = .returned (.bool true) ∧ Below W.heap.size W w')
    (l0 : ∀ W, Below w.heap.size w W → Calls Tryz.prog 37 #[.agg #[.string X1, .string X2, .string X3]] W fun e w' => e = .returned (.bool false) ∧ Below W.heap.size W w')
    (l1 : ∀ W, Below w.heap.size w W → Calls Tryz.prog 37 #[.agg #[.string Y1, .string Y2, .string Y3]] W fun e w' => e = .returned (.bool false) ∧ Below W.heap.size W w')
    (cu : ∀ W, Below w.heap.size w W → Calls Tryz.prog 38 #[.agg #[.string X1, .string X2, .string X3]] W fun e w' => e = .returned (.int .i64 0) ∧ Below W.heap.size W w')
    (cv : ∀ W, Below w.heap.size w W → Calls Tryz.prog 38 #[.agg #[.string Y1, .string Y2, .string Y3]] W fun e w' => e = .returned (.int .i64 0) ∧ Below W.heap.size W w')
    (lc : ∀ W, Below w.heap.size w W → Calls Tryz.prog 39 #[.agg #[.string X1, .string X2, .string X3]] W fun e w' => e = .returned (.int .i64 0) ∧ Below W.heap.size W w') :
    Calls Tryz.prog 11 #[.agg #[.string X1, .string X2, .string X3], .agg #[.string Y1, .string Y2, .string Y3]] w fun e w' => e = .returned (.bool true) ∧ Below w.heap.size w w' := by
  have KN := Lib.hid kn
  have L0 := Lib.hid l0
  have L1 := Lib.hid l1
  have CU := Lib.hid cu
  have CV := Lib.hid cv
  have LC := Lib.hid lc
  clear kn l0 l1 cu cv lc
  have k0 := Blk.fresh w #[.string X1, .string X2, .string X3] 34
  replace k0 := k0.alloc (Obj.cells #[.string Y1, .string Y2, .string Y3] 34)
  have k1 := Blk.fresh (w.alloc (Obj.cells #[.string X1, .string X2, .string X3] 34)) #[.string Y1, .string Y2, .string Y3] 34
  rw [show (w.alloc (Obj.cells #[.string X1, .string X2, .string X3] 34)).heap.size = w.heap.size + 1 from World.size_alloc ..] at k1
  have jb0 : Below w.heap.size w ((w.alloc (Obj.cells #[.string X1, .string X2, .string X3] 34)).alloc (Obj.cells #[.string Y1, .string Y2, .string Y3] 34)) := (((Below.refl _ _).alloc (Nat.le_refl _) _).alloc (by simp; try omega) _)
  have K0 := Lib.hid k0
  have K1 := Lib.hid k1
  have B := Lib.hid jb0
  clear jb0 k0 k1
  go_enter Tryz.func11, Tryz.ntmps11
  go_upto_region 1 with (fail)
  generalize ((w.alloc (Obj.cells #[.string X1, .string X2, .string X3] 34)).alloc (Obj.cells #[.string Y1, .string Y2, .string Y3] 34)) = W0 at *
  have c0_0 := K0.out.at_ 0 _ rfl
  have c0_1 := K0.out.at_ 1 _ rfl
  have c0_2 := K0.out.at_ 2 _ rfl
  have c1_0 := K1.out.at_ 0 _ rfl
  have c1_1 := K1.out.at_ 1 _ rfl
  have c1_2 := K1.out.at_ 2 _ rfl
  go_upto_region 3 with (
   (first
    | (go_at_call 12; with_reducible refine (KN.out _ (baseI B.out)).mono ?_)
    | (go_at_call 37; with_reducible refine (L0.out _ (baseI B.out)).mono ?_)
    | (go_at_call 37; with_reducible refine (L1.out _ (baseI B.out)).mono ?_)
    | fail "arm"); rintro e wx ⟨rfl, q⟩; replace K0 := Lib.hid (K0.out.nearI q); replace K1 := Lib.hid (K1.out.nearI q); replace B := Lib.hid (goI B.out q); clear q; replace c0_0 := K0.out.at_ 0 _ rfl; replace c0_1 := K0.out.at_ 1 _ rfl; replace c0_2 := K0.out.at_ 2 _ rfl; replace c1_0 := K1.out.at_ 0 _ rfl; replace c1_1 := K1.out.at_ 1 _ rfl; replace c1_2 := K1.out.at_ 2 _ rfl)
  clear c0_0 c0_1 c0_2 c1_0 c1_1 c1_2
  refine wp_region_par (by kernel_rfl) [35, 36, 37, 38, 5, 6] (fun L σ W => Vals [some 35, some 36, some 37, some 38, some 5, some 6] [(.agg #[.string X1, .string X2, .string X3]), (.int .i64 0), (.agg #[.string X1, .string X2, .string X3]), (.int .i64 0), (.int .i64 0), (.int .i64 0)] L σ ∧ Blk W (w.heap.size) #[.string X1, .string X2, .string X3] 34 ∧ Blk W (w.heap.size + 1) #[.string Y1, .string Y2, .string Y3] 34 ∧ Below w.heap.size w W) (by kernel_rfl) (by kernel_rfl) (by kernel_rfl) ?_ ?_ ?_
  · exact fun σ => ⟨Vals.start, K0.out.below (Below.refl _ _).drew, K1.out.below (Below.refl _ _).drew, B.out.drew⟩
  · refine ⟨?_, ?_, ?_, ?_, ?_, ?_, trivial⟩
    · rintro L a W ho ⟨V, jb0, jb1, bb⟩ hn hd K hK
      clear hd
      refine Wants.free rfl ?_
      have jr2 : a.tmps[(2 : Nat)]?.getD undef = .pointer (some ⟨w.heap.size, 0, none⟩) := ho.slot 2 rfl
      have jc0 := jb0.at_ 0 _ rfl
      have jc1 := jb0.at_ 1 _ rfl
      have jc2 := jb0.at_ 2 _ rfl
      go_simp
      exact hK.out (.agg #[.string X1, .string X2, .string X3]) _ ⟨V.set 0 _ _ rfl rfl rfl, jb0, jb1, bb⟩
    · rintro L a W ho ⟨V, jb0, jb1, bb⟩ hn hd K hK
      have jh0 := hd.get 0 rfl
      clear hd
      refine Wants.free rfl ?_
      have jr35 := V.read 0 rfl rfl jh0
      go_simp
      go_at_call 38
      with_reducible refine (CU.out _ bb).mono ?_
      rintro e wx ⟨rfl, q⟩
      go_simp
      exact hK.out (.int .i64 0) _ ⟨V.set 1 _ _ rfl rfl rfl, jb0.below q, jb1.below q, bb.trans (q.mono bb.size)⟩
    · rintro L a W ho ⟨V, jb0, jb1, bb⟩ hn hd K hK
      clear hd
      refine Wants.free rfl ?_
      have jr2 : a.tmps[(2 : Nat)]?.getD undef = .pointer (some ⟨w.heap.size, 0, none⟩) := ho.slot 2 rfl
      have jc0 := jb0.at_ 0 _ rfl
      have jc1 := jb0.at_ 1 _ rfl
      have jc2 := jb0.at_ 2 _ rfl
      go_simp
      exact hK.out (.agg #[.string X1, .string X2, .string X3]) _ ⟨V.set 2 _ _ rfl rfl rfl, jb0, jb1, bb⟩
    · rintro L a W ho ⟨V, jb0, jb1, bb⟩ hn hd K hK
      have jh2 := hd.get 2 rfl
      clear hd
      refine Wants.free rfl ?_
      have jr37 := V.read 2 rfl rfl jh2
      go_simp
      go_at_call 38
      with_reducible refine (CU.out _ bb).mono ?_
      rintro e wx ⟨rfl, q⟩
      go_simp
      exact hK.out (.int .i64 0) _ ⟨V.set 3 _ _ rfl rfl rfl, jb0.below q, jb1.below q, bb.trans (q.mono bb.size)⟩
    · rintro L a W ho ⟨V, jb0, jb1, bb⟩ hn hd K hK
      have jh1 := hd.get 1 rfl
      clear hd
      refine Wants.free rfl ?_
      have jr36 := V.read 1 rfl rfl jh1
      go_simp
      exact hK.out (.int .i64 0) _ ⟨V.set 4 _ _ rfl rfl rfl, jb0, jb1, bb⟩
    · rintro L a W ho ⟨V, jb0, jb1, bb⟩ hn hd K hK
      have jh3 := hd.get 3 rfl
      clear hd
      refine Wants.free rfl ?_
      have jr38 := V.read 3 rfl rfl jh3
      go_simp
      exact hK.out (.int .i64 0) _ ⟨V.set 5 _ _ rfl rfl rfl, jb0, jb1, bb⟩
  rintro L σ W ⟨V, jb0, jb1, bb⟩ hL
  have jf0 := V 0 _ _ rfl rfl (hL 0 (by decide))
  have jf1 := V 1 _ _ rfl rfl (hL 1 (by decide))
  have jf2 := V 2 _ _ rfl rfl (hL 2 (by decide))
  have jf3 := V 3 _ _ rfl rfl (hL 3 (by decide))
  have jf4 := V 4 _ _ rfl rfl (hL 4 (by decide))
  have jf5 := V 5 _ _ rfl rfl (hL 5 (by decide))
  clear V
  clear hL
  rw [show List.map σ [35, 36, 37, 38, 5, 6] = [σ 35, σ 36, σ 37, σ 38, σ 5, σ 6] from rfl, jf0, jf1, jf2, jf3, jf4, jf5]
  clear jf0 jf1 jf2 jf3 jf4 jf5
  simp only [putAll, List.map, Act.put, List.setIfInBounds_toArray, List.set_cons_succ, List.set_cons_zero]
  replace K0 := Lib.hid jb0
  replace K1 := Lib.hid jb1
  replace B := Lib.hid bb
  clear bb jb0 jb1
  have c0_0 := K0.out.at_ 0 _ rfl
  have c0_1 := K0.out.at_ 1 _ rfl
  have c0_2 := K0.out.at_ 2 _ rfl
  have c1_0 := K1.out.at_ 0 _ rfl
  have c1_1 := K1.out.at_ 1 _ rfl
  have c1_2 := K1.out.at_ 2 _ rfl
  go_wp2_with (
   (first
    | (go_at_call 38; with_reducible refine (CV.out _ (baseI B.out)).mono ?_)
    | (go_at_call 39; with_reducible refine (LC.out _ (baseI B.out)).mono ?_)
    | fail "arm"); rintro e wx ⟨rfl, q⟩; replace K0 := Lib.hid (K0.out.nearI q); replace K1 := Lib.hid (K1.out.nearI q); replace B := Lib.hid (goI B.out q); clear q; replace c0_0 := K0.out.at_ 0 _ rfl; replace c0_1 := K0.out.at_ 1 _ rfl; replace c0_2 := K0.out.at_ 2 _ rfl; replace c1_0 := K1.out.at_ 0 _ rfl; replace c1_1 := K1.out.at_ 1 _ rfl; replace c1_2 := K1.out.at_ 2 _ rfl)
  go_ret
  exact ⟨rfl, B.out⟩

set_option maxRecDepth 100000 in
set_option maxHeartbeats 20000000 in
theorem checks_v (X1 X2 X3 Y1 Y2 Y3 : ByteArray) (k : Int) (w : World)
    (hk : (k == 0) = false)
    (kn : ∀ W, Below w.heap.size w W → Calls Tryz.prog 12 #[] W fun e w' => e = .returned (.bool true) ∧ Below W.heap.size W w')
    (l0 : ∀ W, Below w.heap.size w W → Calls Tryz.prog 37 #[.agg #[.string X1, .string X2, .string X3]] W fun e w' => e = .returned (.bool false) ∧ Below W.heap.size W w')
    (l1 : ∀ W, Below w.heap.size w W → Calls Tryz.prog 37 #[.agg #[.string Y1, .string Y2, .string Y3]] W fun e w' => e = .returned (.bool false) ∧ Below W.heap.size W w')
    (cu : ∀ W, Below w.heap.size w W → Calls Tryz.prog 38 #[.agg #[.string X1, .string X2, .string X3]] W fun e w' => e = .returned (.int .i64 0) ∧ Below W.heap.size W w')
    (cv : ∀ W, Below w.heap.size w W → Calls Tryz.prog 38 #[.agg #[.string Y1, .string Y2, .string Y3]] W fun e w' => e = .returned (.int .i64 k) ∧ Below W.heap.size W w')
    (lc : ∀ W, Below w.heap.size w W → Calls Tryz.prog 39 #[.agg #[.string X1, .string X2, .string X3]] W fun e w' => e = .returned (.int .i64 0) ∧ Below W.heap.size W w')
    (f1 : ∀ W, Below w.heap.size w W → Calls Tryz.prog 19 #[.agg #[.string X1, .string X2, .string X3], .agg #[.string Y1, .string Y2, .string Y3]] W fun e w' => e = .returned (.tuple #[.bool false, .int .i64 k]) ∧ Below W.heap.size W w')
    (f2 : ∀ W, Below w.heap.size w W → Calls Tryz.prog 32 #[.agg #[.string X1, .string X2, .string X3], .agg #[.string Y1, .string Y2, .string Y3]] W fun e w' => e = .returned (.tuple #[.int .i64 0, .int .i64 k]) ∧ Below W.heap.size W w')
    (f3 : ∀ W, Below w.heap.size w W → Calls Tryz.prog 36 #[.agg #[.string X1, .string X2, .string X3], .agg #[.string Y1, .string Y2, .string Y3]] W fun e w' => e = .returned (.tuple #[.int .i64 0, .int .i64 k]) ∧ Below W.heap.size W w')
    (f4 : ∀ W, Below w.heap.size w W → Calls Tryz.prog 27 #[.agg #[.string X1, .string X2, .string X3], .agg #[.string Y1, .string Y2, .string Y3]] W fun e w' => e = .returned (.tuple #[.string ⟨#[]⟩, .int .i64 k]) ∧ Below W.heap.size W w')
    (f5 : ∀ W, Below w.heap.size w W → Calls Tryz.prog 28 #[.agg #[.string X1, .string X2, .string X3, .string Y1, .string Y2, .string Y3], .agg #[.string X1, .string X2, .string X3, .string X1, .string X2, .string X3]] W fun e w' => e = .returned (.tuple #[.int .i64 0, .int .i64 k]) ∧ Below W.heap.size W w')
    (f6 : ∀ W, Below w.heap.size w W → Calls Tryz.prog 22 #[.agg #[.string X1, .string X2, .string X3], .agg #[.string Y1, .string Y2, .string Y3]] W fun e w' => e = .returned (.tuple #[.bool false, .int .i64 k]) ∧ Below W.heap.size W w')
    (f7 : ∀ W, Below w.heap.size w W → Calls Tryz.prog 23 #[.agg #[.string X1, .string X2, .string X3], .agg #[.string Y1, .string Y2, .string Y3]] W fun e w' => e = .returned (.tuple #[.agg #[.string ⟨#[]⟩, .string ⟨#[]⟩, .string ⟨#[]⟩], .int .i64 k]) ∧ Below W.heap.size W w')
    (f8 : ∀ W, Below w.heap.size w W → Calls Tryz.prog 24 #[.agg #[.string X1, .string X2, .string X3], .agg #[.string Y1, .string Y2, .string Y3]] W fun e w' => e = .returned (.tuple #[.string ⟨#[]⟩, .int .i64 k]) ∧ Below W.heap.size W w')
    (f9 : ∀ W, Below w.heap.size w W → Calls Tryz.prog 15 #[.agg #[.string X1, .string X2, .string X3], .agg #[.string Y1, .string Y2, .string Y3]] W fun e w' => e = .returned (.tuple #[.int .i64 0, .int .i64 k]) ∧ Below W.heap.size W w') :
    Calls Tryz.prog 11 #[.agg #[.string X1, .string X2, .string X3], .agg #[.string Y1, .string Y2, .string Y3]] w fun e w' => e = .returned (.bool true) ∧ Below w.heap.size w w' := by
  have KN := Lib.hid kn
  have L0 := Lib.hid l0
  have L1 := Lib.hid l1
  have CU := Lib.hid cu
  have CV := Lib.hid cv
  have LC := Lib.hid lc
  have F1 := Lib.hid f1
  have F2 := Lib.hid f2
  have F3 := Lib.hid f3
  have F4 := Lib.hid f4
  have F5 := Lib.hid f5
  have F6 := Lib.hid f6
  have F7 := Lib.hid f7
  have F8 := Lib.hid f8
  have F9 := Lib.hid f9
  clear kn l0 l1 cu cv lc f1 f2 f3 f4 f5 f6 f7 f8 f9
  have k0 := Blk.fresh w #[.string X1, .string X2, .string X3] 34
  replace k0 := k0.alloc (Obj.cells #[.string Y1, .string Y2, .string Y3] 34)
  have k1 := Blk.fresh (w.alloc (Obj.cells #[.string X1, .string X2, .string X3] 34)) #[.string Y1, .string Y2, .string Y3] 34
  rw [show (w.alloc (Obj.cells #[.string X1, .string X2, .string X3] 34)).heap.size = w.heap.size + 1 from World.size_alloc ..] at k1
  have jb0 : Below w.heap.size w ((w.alloc (Obj.cells #[.string X1, .string X2, .string X3] 34)).alloc (Obj.cells #[.string Y1, .string Y2, .string Y3] 34)) := (((Below.refl _ _).alloc (Nat.le_refl _) _).alloc (by simp; try omega) _)
  have K0 := Lib.hid k0
  have K1 := Lib.hid k1
  have B := Lib.hid jb0
  clear jb0 k0 k1
  go_enter Tryz.func11, Tryz.ntmps11
  go_upto_region 1 with (fail)
  generalize ((w.alloc (Obj.cells #[.string X1, .string X2, .string X3] 34)).alloc (Obj.cells #[.string Y1, .string Y2, .string Y3] 34)) = W0 at *
  have c0_0 := K0.out.at_ 0 _ rfl
  have c0_1 := K0.out.at_ 1 _ rfl
  have c0_2 := K0.out.at_ 2 _ rfl
  have c1_0 := K1.out.at_ 0 _ rfl
  have c1_1 := K1.out.at_ 1 _ rfl
  have c1_2 := K1.out.at_ 2 _ rfl
  go_upto_region 3 with (
   (first
    | (go_at_call 12; with_reducible refine (KN.out _ (baseI B.out)).mono ?_)
    | (go_at_call 37; with_reducible refine (L0.out _ (baseI B.out)).mono ?_)
    | (go_at_call 37; with_reducible refine (L1.out _ (baseI B.out)).mono ?_)
    | fail "arm"); rintro e wx ⟨rfl, q⟩; replace K0 := Lib.hid (K0.out.nearI q); replace K1 := Lib.hid (K1.out.nearI q); replace B := Lib.hid (goI B.out q); clear q; replace c0_0 := K0.out.at_ 0 _ rfl; replace c0_1 := K0.out.at_ 1 _ rfl; replace c0_2 := K0.out.at_ 2 _ rfl; replace c1_0 := K1.out.at_ 0 _ rfl; replace c1_1 := K1.out.at_ 1 _ rfl; replace c1_2 := K1.out.at_ 2 _ rfl)
  clear c0_0 c0_1 c0_2 c1_0 c1_1 c1_2
  refine wp_region_par (by kernel_rfl) [35, 36, 37, 38, 5, 6] (fun L σ W => Vals [some 35, some 36, some 37, some 38, some 5, some 6] [(.agg #[.string X1, .string X2, .string X3]), (.int .i64 0), (.agg #[.string X1, .string X2, .string X3]), (.int .i64 0), (.int .i64 0), (.int .i64 0)] L σ ∧ Blk W (w.heap.size) #[.string X1, .string X2, .string X3] 34 ∧ Blk W (w.heap.size + 1) #[.string Y1, .string Y2, .string Y3] 34 ∧ Below w.heap.size w W) (by kernel_rfl) (by kernel_rfl) (by kernel_rfl) ?_ ?_ ?_
  · exact fun σ => ⟨Vals.start, K0.out.below (Below.refl _ _).drew, K1.out.below (Below.refl _ _).drew, B.out.drew⟩
  · refine ⟨?_, ?_, ?_, ?_, ?_, ?_, trivial⟩
    · rintro L a W ho ⟨V, jb0, jb1, bb⟩ hn hd K hK
      clear hd
      refine Wants.free rfl ?_
      have jr2 : a.tmps[(2 : Nat)]?.getD undef = .pointer (some ⟨w.heap.size, 0, none⟩) := ho.slot 2 rfl
      have jc0 := jb0.at_ 0 _ rfl
      have jc1 := jb0.at_ 1 _ rfl
      have jc2 := jb0.at_ 2 _ rfl
      go_simp
      exact hK.out (.agg #[.string X1, .string X2, .string X3]) _ ⟨V.set 0 _ _ rfl rfl rfl, jb0, jb1, bb⟩
    · rintro L a W ho ⟨V, jb0, jb1, bb⟩ hn hd K hK
      have jh0 := hd.get 0 rfl
      clear hd
      refine Wants.free rfl ?_
      have jr35 := V.read 0 rfl rfl jh0
      go_simp
      go_at_call 38
      with_reducible refine (CU.out _ bb).mono ?_
      rintro e wx ⟨rfl, q⟩
      go_simp
      exact hK.out (.int .i64 0) _ ⟨V.set 1 _ _ rfl rfl rfl, jb0.below q, jb1.below q, bb.trans (q.mono bb.size)⟩
    · rintro L a W ho ⟨V, jb0, jb1, bb⟩ hn hd K hK
      clear hd
      refine Wants.free rfl ?_
      have jr2 : a.tmps[(2 : Nat)]?.getD undef = .pointer (some ⟨w.heap.size, 0, none⟩) := ho.slot 2 rfl
      have jc0 := jb0.at_ 0 _ rfl
      have jc1 := jb0.at_ 1 _ rfl
      have jc2 := jb0.at_ 2 _ rfl
      go_simp
      exact hK.out (.agg #[.string X1, .string X2, .string X3]) _ ⟨V.set 2 _ _ rfl rfl rfl, jb0, jb1, bb⟩
    · rintro L a W ho ⟨V, jb0, jb1, bb⟩ hn hd K hK
      have jh2 := hd.get 2 rfl
      clear hd
      refine Wants.free rfl ?_
      have jr37 := V.read 2 rfl rfl jh2
      go_simp
      go_at_call 38
      with_reducible refine (CU.out _ bb).mono ?_
      rintro e wx ⟨rfl, q⟩
      go_simp
      exact hK.out (.int .i64 0) _ ⟨V.set 3 _ _ rfl rfl rfl, jb0.below q, jb1.below q, bb.trans (q.mono bb.size)⟩
    · rintro L a W ho ⟨V, jb0, jb1, bb⟩ hn hd K hK
      have jh1 := hd.get 1 rfl
      clear hd
      refine Wants.free rfl ?_
      have jr36 := V.read 1 rfl rfl jh1
      go_simp
      exact hK.out (.int .i64 0) _ ⟨V.set 4 _ _ rfl rfl rfl, jb0, jb1, bb⟩
    · rintro L a W ho ⟨V, jb0, jb1, bb⟩ hn hd K hK
      have jh3 := hd.get 3 rfl
      clear hd
      refine Wants.free rfl ?_
      have jr38 := V.read 3 rfl rfl jh3
      go_simp
      exact hK.out (.int .i64 0) _ ⟨V.set 5 _ _ rfl rfl rfl, jb0, jb1, bb⟩
  rintro L σ W ⟨V, jb0, jb1, bb⟩ hL
  have jf0 := V 0 _ _ rfl rfl (hL 0 (by decide))
  have jf1 := V 1 _ _ rfl rfl (hL 1 (by decide))
  have jf2 := V 2 _ _ rfl rfl (hL 2 (by decide))
  have jf3 := V 3 _ _ rfl rfl (hL 3 (by decide))
  have jf4 := V 4 _ _ rfl rfl (hL 4 (by decide))
  have jf5 := V 5 _ _ rfl rfl (hL 5 (by decide))
  clear V
  clear hL
  rw [show List.map σ [35, 36, 37, 38, 5, 6] = [σ 35, σ 36, σ 37, σ 38, σ 5, σ 6] from rfl, jf0, jf1, jf2, jf3, jf4, jf5]
  clear jf0 jf1 jf2 jf3 jf4 jf5
  simp only [putAll, List.map, Act.put, List.setIfInBounds_toArray, List.set_cons_succ, List.set_cons_zero]
  replace K0 := Lib.hid jb0
  replace K1 := Lib.hid jb1
  replace B := Lib.hid bb
  clear bb jb0 jb1
  have c0_0 := K0.out.at_ 0 _ rfl
  have c0_1 := K0.out.at_ 1 _ rfl
  have c0_2 := K0.out.at_ 2 _ rfl
  have c1_0 := K1.out.at_ 0 _ rfl
  have c1_1 := K1.out.at_ 1 _ rfl
  have c1_2 := K1.out.at_ 2 _ rfl
  go_upto_region 15 with (
   (first
    | (go_at_call 38; with_reducible refine (CV.out _ (baseI B.out)).mono ?_)
    | (go_at_call 39; with_reducible refine (LC.out _ (baseI B.out)).mono ?_)
    | (go_at_call 19; with_reducible refine (F1.out _ (baseI B.out)).mono ?_)
    | (go_at_call 32; with_reducible refine (F2.out _ (baseI B.out)).mono ?_)
    | (go_at_call 36; with_reducible refine (F3.out _ (baseI B.out)).mono ?_)
    | (go_at_call 27; with_reducible refine (F4.out _ (baseI B.out)).mono ?_)
    | (go_at_call 28; with_reducible refine (F5.out _ (baseI B.out)).mono ?_)
    | fail "arm"); rintro e wx ⟨rfl, q⟩; replace K0 := Lib.hid (K0.out.nearI q); replace K1 := Lib.hid (K1.out.nearI q); replace B := Lib.hid (goI B.out q); clear q; replace c0_0 := K0.out.at_ 0 _ rfl; replace c0_1 := K0.out.at_ 1 _ rfl; replace c0_2 := K0.out.at_ 2 _ rfl; replace c1_0 := K1.out.at_ 0 _ rfl; replace c1_1 := K1.out.at_ 1 _ rfl; replace c1_2 := K1.out.at_ 2 _ rfl)
  go_upto_region 18 with (
   (first
    | (go_at_call 22; with_reducible refine (F6.out _ (baseI B.out)).mono ?_)
    | fail "arm"); rintro e wx ⟨rfl, q⟩; replace K0 := Lib.hid (K0.out.nearI q); replace K1 := Lib.hid (K1.out.nearI q); replace B := Lib.hid (goI B.out q); clear q; replace c0_0 := K0.out.at_ 0 _ rfl; replace c0_1 := K0.out.at_ 1 _ rfl; replace c0_2 := K0.out.at_ 2 _ rfl; replace c1_0 := K1.out.at_ 0 _ rfl; replace c1_1 := K1.out.at_ 1 _ rfl; replace c1_2 := K1.out.at_ 2 _ rfl)
  go_upto_region 19 with (
   (first
    | (go_at_call 23; with_reducible refine (F7.out _ (baseI B.out)).mono ?_)
    | fail "arm"); rintro e wx ⟨rfl, q⟩; replace K0 := Lib.hid (K0.out.nearI q); replace K1 := Lib.hid (K1.out.nearI q); replace B := Lib.hid (goI B.out q); clear q; replace c0_0 := K0.out.at_ 0 _ rfl; replace c0_1 := K0.out.at_ 1 _ rfl; replace c0_2 := K0.out.at_ 2 _ rfl; replace c1_0 := K1.out.at_ 0 _ rfl; replace c1_1 := K1.out.at_ 1 _ rfl; replace c1_2 := K1.out.at_ 2 _ rfl)
  have n2 := Blk.fresh wx #[.string ⟨#[]⟩, .string ⟨#[]⟩, .string ⟨#[]⟩] 34
  replace K0 := Lib.hid (K0.out.alloc (Obj.cells #[.string ⟨#[]⟩, .string ⟨#[]⟩, .string ⟨#[]⟩] 34))
  replace K1 := Lib.hid (K1.out.alloc (Obj.cells #[.string ⟨#[]⟩, .string ⟨#[]⟩, .string ⟨#[]⟩] 34))
  replace B := Lib.hid (B.out.trans ((below_new wx (Obj.cells #[.string ⟨#[]⟩, .string ⟨#[]⟩, .string ⟨#[]⟩] 34)).mono B.out.size))
  generalize wx.alloc (Obj.cells #[.string ⟨#[]⟩, .string ⟨#[]⟩, .string ⟨#[]⟩] 34) = wl2 at *
  generalize wx.heap.size = gl2 at *
  have K2 := Lib.hid n2
  clear n2
  replace c0_0 := K0.out.at_ 0 _ rfl
  replace c0_1 := K0.out.at_ 1 _ rfl
  replace c0_2 := K0.out.at_ 2 _ rfl
  replace c1_0 := K1.out.at_ 0 _ rfl
  replace c1_1 := K1.out.at_ 1 _ rfl
  replace c1_2 := K1.out.at_ 2 _ rfl
  have c2_0 := K2.out.at_ 0 _ rfl
  have c2_1 := K2.out.at_ 1 _ rfl
  have c2_2 := K2.out.at_ 2 _ rfl
  go_wp2_with (
   (first
    | (go_at_call 24; with_reducible refine (F8.out _ (baseI B.out)).mono ?_)
    | (go_at_call 15; with_reducible refine (F9.out _ (baseI B.out)).mono ?_)
    | fail "arm"); rintro e wx ⟨rfl, q⟩; replace K0 := Lib.hid (K0.out.nearI q); replace K1 := Lib.hid (K1.out.nearI q); replace K2 := Lib.hid (K2.out.nearI q); replace B := Lib.hid (goI B.out q); clear q; replace c0_0 := K0.out.at_ 0 _ rfl; replace c0_1 := K0.out.at_ 1 _ rfl; replace c0_2 := K0.out.at_ 2 _ rfl; replace c1_0 := K1.out.at_ 0 _ rfl; replace c1_1 := K1.out.at_ 1 _ rfl; replace c1_2 := K1.out.at_ 2 _ rfl; replace c2_0 := K2.out.at_ 0 _ rfl; replace c2_1 := K2.out.at_ 1 _ rfl; replace c2_2 := K2.out.at_ 2 _ rfl)
  go_ret
  exact ⟨rfl, B.out⟩

set_option maxRecDepth 100000 in
set_option maxHeartbeats 20000000 in
theorem checks_u (X1 X2 X3 Y1 Y2 Y3 : ByteArray) (k : Int) (w : World)
    (hk : (k == 0) = false)
    (kn : ∀ W, Below w.heap.size w W → Calls Tryz.prog 12 #[] W fun e w' => e = .returned (.bool true) ∧ Below W.heap.size W w')
    (l0 : ∀ W, Below w.heap.size w W → Calls Tryz.prog 37 #[.agg #[.string X1, .string X2, .string X3]] W fun e w' => e = .returned (.bool false) ∧ Below W.heap.size W w')
    (l1 : ∀ W, Below w.heap.size w W → Calls Tryz.prog 37 #[.agg #[.string Y1, .string Y2, .string Y3]] W fun e w' => e = .returned (.bool false) ∧ Below W.heap.size W w')
    (cu : ∀ W, Below w.heap.size w W → Calls Tryz.prog 38 #[.agg #[.string X1, .string X2, .string X3]] W fun e w' => e = .returned (.int .i64 k) ∧ Below W.heap.size W w')
    (lc : ∀ W, Below w.heap.size w W → Calls Tryz.prog 39 #[.agg #[.string X1, .string X2, .string X3]] W fun e w' => e = .returned (.int .i64 k) ∧ Below W.heap.size W w')
    (f1 : ∀ W, Below w.heap.size w W → Calls Tryz.prog 19 #[.agg #[.string X1, .string X2, .string X3], .agg #[.string Y1, .string Y2, .string Y3]] W fun e w' => e = .returned (.tuple #[.bool false, .int .i64 k]) ∧ Below W.heap.size W w')
    (f2 : ∀ W, Below w.heap.size w W → Calls Tryz.prog 32 #[.agg #[.string X1, .string X2, .string X3], .agg #[.string Y1, .string Y2, .string Y3]] W fun e w' => e = .returned (.tuple #[.int .i64 0, .int .i64 k]) ∧ Below W.heap.size W w')
    (f3 : ∀ W, Below w.heap.size w W → Calls Tryz.prog 36 #[.agg #[.string X1, .string X2, .string X3], .agg #[.string Y1, .string Y2, .string Y3]] W fun e w' => e = .returned (.tuple #[.int .i64 0, .int .i64 k]) ∧ Below W.heap.size W w')
    (f4 : ∀ W, Below w.heap.size w W → Calls Tryz.prog 27 #[.agg #[.string X1, .string X2, .string X3], .agg #[.string Y1, .string Y2, .string Y3]] W fun e w' => e = .returned (.tuple #[.string ⟨#[]⟩, .int .i64 k]) ∧ Below W.heap.size W w')
    (f5 : ∀ W, Below w.heap.size w W → Calls Tryz.prog 28 #[.agg #[.string X1, .string X2, .string X3, .string Y1, .string Y2, .string Y3], .agg #[.string X1, .string X2, .string X3, .string X1, .string X2, .string X3]] W fun e w' => e = .returned (.tuple #[.int .i64 0, .int .i64 k]) ∧ Below W.heap.size W w')
    (f6 : ∀ W, Below w.heap.size w W → Calls Tryz.prog 22 #[.agg #[.string X1, .string X2, .string X3], .agg #[.string Y1, .string Y2, .string Y3]] W fun e w' => e = .returned (.tuple #[.bool false, .int .i64 k]) ∧ Below W.heap.size W w')
    (f7 : ∀ W, Below w.heap.size w W → Calls Tryz.prog 23 #[.agg #[.string X1, .string X2, .string X3], .agg #[.string Y1, .string Y2, .string Y3]] W fun e w' => e = .returned (.tuple #[.agg #[.string ⟨#[]⟩, .string ⟨#[]⟩, .string ⟨#[]⟩], .int .i64 k]) ∧ Below W.heap.size W w')
    (f8 : ∀ W, Below w.heap.size w W → Calls Tryz.prog 24 #[.agg #[.string X1, .string X2, .string X3], .agg #[.string Y1, .string Y2, .string Y3]] W fun e w' => e = .returned (.tuple #[.string ⟨#[]⟩, .int .i64 k]) ∧ Below W.heap.size W w')
    (f9 : ∀ W, Below w.heap.size w W → Calls Tryz.prog 15 #[.agg #[.string X1, .string X2, .string X3], .agg #[.string Y1, .string Y2, .string Y3]] W fun e w' => e = .returned (.tuple #[.int .i64 0, .int .i64 k]) ∧ Below W.heap.size W w')
    (g1 : ∀ W, Below w.heap.size w W → Calls Tryz.prog 18 #[.agg #[.string X1, .string X2, .string X3]] W fun e w' => e = .returned (.tuple #[.agg #[.string ⟨#[]⟩, .string ⟨#[]⟩, .string ⟨#[]⟩], .int .i64 k]) ∧ Below W.heap.size W w')
    (g2 : ∀ W, Below w.heap.size w W → Calls Tryz.prog 31 #[.agg #[.string X1, .string X2, .string X3]] W fun e w' => e = .returned (.tuple #[.int .i64 0, .int .i64 k]) ∧ Below W.heap.size W w')
    (g3 : ∀ W, Below w.heap.size w W → Calls Tryz.prog 35 #[.agg #[.string X1, .string X2, .string X3]] W fun e w' => e = .returned (.tuple #[.string ⟨#[]⟩, .bool false, .int .i64 k]) ∧ Below W.heap.size W w') :
    Calls Tryz.prog 11 #[.agg #[.string X1, .string X2, .string X3], .agg #[.string Y1, .string Y2, .string Y3]] w fun e w' => e = .returned (.bool true) ∧ Below w.heap.size w w' := by
  have KN := Lib.hid kn
  have L0 := Lib.hid l0
  have L1 := Lib.hid l1
  have CU := Lib.hid cu
  have LC := Lib.hid lc
  have F1 := Lib.hid f1
  have F2 := Lib.hid f2
  have F3 := Lib.hid f3
  have F4 := Lib.hid f4
  have F5 := Lib.hid f5
  have F6 := Lib.hid f6
  have F7 := Lib.hid f7
  have F8 := Lib.hid f8
  have F9 := Lib.hid f9
  have G1 := Lib.hid g1
  have G2 := Lib.hid g2
  have G3 := Lib.hid g3
  clear kn l0 l1 cu lc f1 f2 f3 f4 f5 f6 f7 f8 f9 g1 g2 g3
  have k0 := Blk.fresh w #[.string X1, .string X2, .string X3] 34
  replace k0 := k0.alloc (Obj.cells #[.string Y1, .string Y2, .string Y3] 34)
  have k1 := Blk.fresh (w.alloc (Obj.cells #[.string X1, .string X2, .string X3] 34)) #[.string Y1, .string Y2, .string Y3] 34
  rw [show (w.alloc (Obj.cells #[.string X1, .string X2, .string X3] 34)).heap.size = w.heap.size + 1 from World.size_alloc ..] at k1
  have jb0 : Below w.heap.size w ((w.alloc (Obj.cells #[.string X1, .string X2, .string X3] 34)).alloc (Obj.cells #[.string Y1, .string Y2, .string Y3] 34)) := (((Below.refl _ _).alloc (Nat.le_refl _) _).alloc (by simp; try omega) _)
  have K0 := Lib.hid k0
  have K1 := Lib.hid k1
  have B := Lib.hid jb0
  clear jb0 k0 k1
  go_enter Tryz.func11, Tryz.ntmps11
  go_upto_region 1 with (fail)
  generalize ((w.alloc (Obj.cells #[.string X1, .string X2, .string X3] 34)).alloc (Obj.cells #[.string Y1, .string Y2, .string Y3] 34)) = W0 at *
  have c0_0 := K0.out.at_ 0 _ rfl
  have c0_1 := K0.out.at_ 1 _ rfl
  have c0_2 := K0.out.at_ 2 _ rfl
  have c1_0 := K1.out.at_ 0 _ rfl
  have c1_1 := K1.out.at_ 1 _ rfl
  have c1_2 := K1.out.at_ 2 _ rfl
  go_upto_region 3 with (
   (first
    | (go_at_call 12; with_reducible refine (KN.out _ (baseI B.out)).mono ?_)
    | (go_at_call 37; with_reducible refine (L0.out _ (baseI B.out)).mono ?_)
    | (go_at_call 37; with_reducible refine (L1.out _ (baseI B.out)).mono ?_)
    | fail "arm"); rintro e wx ⟨rfl, q⟩; replace K0 := Lib.hid (K0.out.nearI q); replace K1 := Lib.hid (K1.out.nearI q); replace B := Lib.hid (goI B.out q); clear q; replace c0_0 := K0.out.at_ 0 _ rfl; replace c0_1 := K0.out.at_ 1 _ rfl; replace c0_2 := K0.out.at_ 2 _ rfl; replace c1_0 := K1.out.at_ 0 _ rfl; replace c1_1 := K1.out.at_ 1 _ rfl; replace c1_2 := K1.out.at_ 2 _ rfl)
  clear c0_0 c0_1 c0_2 c1_0 c1_1 c1_2
  refine wp_region_par (by kernel_rfl) [35, 36, 37, 38, 5, 6] (fun L σ W => Vals [some 35, some 36, some 37, some 38, some 5, some 6] [(.agg #[.string X1, .string X2, .string X3]), (.int .i64 k), (.agg #[.string X1, .string X2, .string X3]), (.int .i64 k), (.int .i64 k), (.int .i64 k)] L σ ∧ Blk W (w.heap.size) #[.string X1, .string X2, .string X3] 34 ∧ Blk W (w.heap.size + 1) #[.string Y1, .string Y2, .string Y3] 34 ∧ Below w.heap.size w W) (by kernel_rfl) (by kernel_rfl) (by kernel_rfl) ?_ ?_ ?_
  · exact fun σ => ⟨Vals.start, K0.out.below (Below.refl _ _).drew, K1.out.below (Below.refl _ _).drew, B.out.drew⟩
  · refine ⟨?_, ?_, ?_, ?_, ?_, ?_, trivial⟩
    · rintro L a W ho ⟨V, jb0, jb1, bb⟩ hn hd K hK
      clear hd
      refine Wants.free rfl ?_
      have jr2 : a.tmps[(2 : Nat)]?.getD undef = .pointer (some ⟨w.heap.size, 0, none⟩) := ho.slot 2 rfl
      have jc0 := jb0.at_ 0 _ rfl
      have jc1 := jb0.at_ 1 _ rfl
      have jc2 := jb0.at_ 2 _ rfl
      go_simp
      exact hK.out (.agg #[.string X1, .string X2, .string X3]) _ ⟨V.set 0 _ _ rfl rfl rfl, jb0, jb1, bb⟩
    · rintro L a W ho ⟨V, jb0, jb1, bb⟩ hn hd K hK
      have jh0 := hd.get 0 rfl
      clear hd
      refine Wants.free rfl ?_
      have jr35 := V.read 0 rfl rfl jh0
      go_simp
      go_at_call 38
      with_reducible refine (CU.out _ bb).mono ?_
      rintro e wx ⟨rfl, q⟩
      go_simp
      exact hK.out (.int .i64 k) _ ⟨V.set 1 _ _ rfl rfl rfl, jb0.below q, jb1.below q, bb.trans (q.mono bb.size)⟩
    · rintro L a W ho ⟨V, jb0, jb1, bb⟩ hn hd K hK
      clear hd
      refine Wants.free rfl ?_
      have jr2 : a.tmps[(2 : Nat)]?.getD undef = .pointer (some ⟨w.heap.size, 0, none⟩) := ho.slot 2 rfl
      have jc0 := jb0.at_ 0 _ rfl
      have jc1 := jb0.at_ 1 _ rfl
      have jc2 := jb0.at_ 2 _ rfl
      go_simp
      exact hK.out (.agg #[.string X1, .string X2, .string X3]) _ ⟨V.set 2 _ _ rfl rfl rfl, jb0, jb1, bb⟩
    · rintro L a W ho ⟨V, jb0, jb1, bb⟩ hn hd K hK
      have jh2 := hd.get 2 rfl
      clear hd
      refine Wants.free rfl ?_
      have jr37 := V.read 2 rfl rfl jh2
      go_simp
      go_at_call 38
      with_reducible refine (CU.out _ bb).mono ?_
      rintro e wx ⟨rfl, q⟩
      go_simp
      exact hK.out (.int .i64 k) _ ⟨V.set 3 _ _ rfl rfl rfl, jb0.below q, jb1.below q, bb.trans (q.mono bb.size)⟩
    · rintro L a W ho ⟨V, jb0, jb1, bb⟩ hn hd K hK
      have jh1 := hd.get 1 rfl
      clear hd
      refine Wants.free rfl ?_
      have jr36 := V.read 1 rfl rfl jh1
      go_simp
      exact hK.out (.int .i64 k) _ ⟨V.set 4 _ _ rfl rfl rfl, jb0, jb1, bb⟩
    · rintro L a W ho ⟨V, jb0, jb1, bb⟩ hn hd K hK
      have jh3 := hd.get 3 rfl
      clear hd
      refine Wants.free rfl ?_
      have jr38 := V.read 3 rfl rfl jh3
      go_simp
      exact hK.out (.int .i64 k) _ ⟨V.set 5 _ _ rfl rfl rfl, jb0, jb1, bb⟩
  rintro L σ W ⟨V, jb0, jb1, bb⟩ hL
  have jf0 := V 0 _ _ rfl rfl (hL 0 (by decide))
  have jf1 := V 1 _ _ rfl rfl (hL 1 (by decide))
  have jf2 := V 2 _ _ rfl rfl (hL 2 (by decide))
  have jf3 := V 3 _ _ rfl rfl (hL 3 (by decide))
  have jf4 := V 4 _ _ rfl rfl (hL 4 (by decide))
  have jf5 := V 5 _ _ rfl rfl (hL 5 (by decide))
  clear V
  clear hL
  rw [show List.map σ [35, 36, 37, 38, 5, 6] = [σ 35, σ 36, σ 37, σ 38, σ 5, σ 6] from rfl, jf0, jf1, jf2, jf3, jf4, jf5]
  clear jf0 jf1 jf2 jf3 jf4 jf5
  simp only [putAll, List.map, Act.put, List.setIfInBounds_toArray, List.set_cons_succ, List.set_cons_zero]
  replace K0 := Lib.hid jb0
  replace K1 := Lib.hid jb1
  replace B := Lib.hid bb
  clear bb jb0 jb1
  have c0_0 := K0.out.at_ 0 _ rfl
  have c0_1 := K0.out.at_ 1 _ rfl
  have c0_2 := K0.out.at_ 2 _ rfl
  have c1_0 := K1.out.at_ 0 _ rfl
  have c1_1 := K1.out.at_ 1 _ rfl
  have c1_2 := K1.out.at_ 2 _ rfl
  go_upto_region 15 with (
   (first
    | (go_at_call 39; with_reducible refine (LC.out _ (baseI B.out)).mono ?_)
    | (go_at_call 19; with_reducible refine (F1.out _ (baseI B.out)).mono ?_)
    | (go_at_call 32; with_reducible refine (F2.out _ (baseI B.out)).mono ?_)
    | (go_at_call 36; with_reducible refine (F3.out _ (baseI B.out)).mono ?_)
    | (go_at_call 27; with_reducible refine (F4.out _ (baseI B.out)).mono ?_)
    | (go_at_call 28; with_reducible refine (F5.out _ (baseI B.out)).mono ?_)
    | fail "arm"); rintro e wx ⟨rfl, q⟩; replace K0 := Lib.hid (K0.out.nearI q); replace K1 := Lib.hid (K1.out.nearI q); replace B := Lib.hid (goI B.out q); clear q; replace c0_0 := K0.out.at_ 0 _ rfl; replace c0_1 := K0.out.at_ 1 _ rfl; replace c0_2 := K0.out.at_ 2 _ rfl; replace c1_0 := K1.out.at_ 0 _ rfl; replace c1_1 := K1.out.at_ 1 _ rfl; replace c1_2 := K1.out.at_ 2 _ rfl)
  go_upto_region 18 with (
   (first
    | (go_at_call 22; with_reducible refine (F6.out _ (baseI B.out)).mono ?_)
    | fail "arm"); rintro e wx ⟨rfl, q⟩; replace K0 := Lib.hid (K0.out.nearI q); replace K1 := Lib.hid (K1.out.nearI q); replace B := Lib.hid (goI B.out q); clear q; replace c0_0 := K0.out.at_ 0 _ rfl; replace c0_1 := K0.out.at_ 1 _ rfl; replace c0_2 := K0.out.at_ 2 _ rfl; replace c1_0 := K1.out.at_ 0 _ rfl; replace c1_1 := K1.out.at_ 1 _ rfl; replace c1_2 := K1.out.at_ 2 _ rfl)
  go_upto_region 19 with (
   (first
    | (go_at_call 23; with_reducible refine (F7.out _ (baseI B.out)).mono ?_)
    | fail "arm"); rintro e wx ⟨rfl, q⟩; replace K0 := Lib.hid (K0.out.nearI q); replace K1 := Lib.hid (K1.out.nearI q); replace B := Lib.hid (goI B.out q); clear q; replace c0_0 := K0.out.at_ 0 _ rfl; replace c0_1 := K0.out.at_ 1 _ rfl; replace c0_2 := K0.out.at_ 2 _ rfl; replace c1_0 := K1.out.at_ 0 _ rfl; replace c1_1 := K1.out.at_ 1 _ rfl; replace c1_2 := K1.out.at_ 2 _ rfl)
  have n2 := Blk.fresh wx #[.string ⟨#[]⟩, .string ⟨#[]⟩, .string ⟨#[]⟩] 34
  replace K0 := Lib.hid (K0.out.alloc (Obj.cells #[.string ⟨#[]⟩, .string ⟨#[]⟩, .string ⟨#[]⟩] 34))
  replace K1 := Lib.hid (K1.out.alloc (Obj.cells #[.string ⟨#[]⟩, .string ⟨#[]⟩, .string ⟨#[]⟩] 34))
  replace B := Lib.hid (B.out.trans ((below_new wx (Obj.cells #[.string ⟨#[]⟩, .string ⟨#[]⟩, .string ⟨#[]⟩] 34)).mono B.out.size))
  generalize wx.alloc (Obj.cells #[.string ⟨#[]⟩, .string ⟨#[]⟩, .string ⟨#[]⟩] 34) = wl2 at *
  generalize wx.heap.size = gl2 at *
  have K2 := Lib.hid n2
  clear n2
  replace c0_0 := K0.out.at_ 0 _ rfl
  replace c0_1 := K0.out.at_ 1 _ rfl
  replace c0_2 := K0.out.at_ 2 _ rfl
  replace c1_0 := K1.out.at_ 0 _ rfl
  replace c1_1 := K1.out.at_ 1 _ rfl
  replace c1_2 := K1.out.at_ 2 _ rfl
  have c2_0 := K2.out.at_ 0 _ rfl
  have c2_1 := K2.out.at_ 1 _ rfl
  have c2_2 := K2.out.at_ 2 _ rfl
  go_upto_region 25 with (
   (first
    | (go_at_call 24; with_reducible refine (F8.out _ (baseI B.out)).mono ?_)
    | (go_at_call 15; with_reducible refine (F9.out _ (baseI B.out)).mono ?_)
    | fail "arm"); rintro e wx ⟨rfl, q⟩; replace K0 := Lib.hid (K0.out.nearI q); replace K1 := Lib.hid (K1.out.nearI q); replace K2 := Lib.hid (K2.out.nearI q); replace B := Lib.hid (goI B.out q); clear q; replace c0_0 := K0.out.at_ 0 _ rfl; replace c0_1 := K0.out.at_ 1 _ rfl; replace c0_2 := K0.out.at_ 2 _ rfl; replace c1_0 := K1.out.at_ 0 _ rfl; replace c1_1 := K1.out.at_ 1 _ rfl; replace c1_2 := K1.out.at_ 2 _ rfl; replace c2_0 := K2.out.at_ 0 _ rfl; replace c2_1 := K2.out.at_ 1 _ rfl; replace c2_2 := K2.out.at_ 2 _ rfl)
  go_upto_region 26 with (
   (first
    | (go_at_call 18; with_reducible refine (G1.out _ (baseI B.out)).mono ?_)
    | fail "arm"); rintro e wx ⟨rfl, q⟩; replace K0 := Lib.hid (K0.out.nearI q); replace K1 := Lib.hid (K1.out.nearI q); replace K2 := Lib.hid (K2.out.nearI q); replace B := Lib.hid (goI B.out q); clear q; replace c0_0 := K0.out.at_ 0 _ rfl; replace c0_1 := K0.out.at_ 1 _ rfl; replace c0_2 := K0.out.at_ 2 _ rfl; replace c1_0 := K1.out.at_ 0 _ rfl; replace c1_1 := K1.out.at_ 1 _ rfl; replace c1_2 := K1.out.at_ 2 _ rfl; replace c2_0 := K2.out.at_ 0 _ rfl; replace c2_1 := K2.out.at_ 1 _ rfl; replace c2_2 := K2.out.at_ 2 _ rfl)
  have n3 := Blk.fresh wx #[.string ⟨#[]⟩, .string ⟨#[]⟩, .string ⟨#[]⟩] 34
  replace K0 := Lib.hid (K0.out.alloc (Obj.cells #[.string ⟨#[]⟩, .string ⟨#[]⟩, .string ⟨#[]⟩] 34))
  replace K1 := Lib.hid (K1.out.alloc (Obj.cells #[.string ⟨#[]⟩, .string ⟨#[]⟩, .string ⟨#[]⟩] 34))
  replace K2 := Lib.hid (K2.out.alloc (Obj.cells #[.string ⟨#[]⟩, .string ⟨#[]⟩, .string ⟨#[]⟩] 34))
  replace B := Lib.hid (B.out.trans ((below_new wx (Obj.cells #[.string ⟨#[]⟩, .string ⟨#[]⟩, .string ⟨#[]⟩] 34)).mono B.out.size))
  generalize wx.alloc (Obj.cells #[.string ⟨#[]⟩, .string ⟨#[]⟩, .string ⟨#[]⟩] 34) = wl3 at *
  generalize wx.heap.size = gl3 at *
  have K3 := Lib.hid n3
  clear n3
  replace c0_0 := K0.out.at_ 0 _ rfl
  replace c0_1 := K0.out.at_ 1 _ rfl
  replace c0_2 := K0.out.at_ 2 _ rfl
  replace c1_0 := K1.out.at_ 0 _ rfl
  replace c1_1 := K1.out.at_ 1 _ rfl
  replace c1_2 := K1.out.at_ 2 _ rfl
  replace c2_0 := K2.out.at_ 0 _ rfl
  replace c2_1 := K2.out.at_ 1 _ rfl
  replace c2_2 := K2.out.at_ 2 _ rfl
  have c3_0 := K3.out.at_ 0 _ rfl
  have c3_1 := K3.out.at_ 1 _ rfl
  have c3_2 := K3.out.at_ 2 _ rfl
  go_wp2_with (
   (first
    | (go_at_call 31; with_reducible refine (G2.out _ (baseI B.out)).mono ?_)
    | (go_at_call 35; with_reducible refine (G3.out _ (baseI B.out)).mono ?_)
    | fail "arm"); rintro e wx ⟨rfl, q⟩; replace K0 := Lib.hid (K0.out.nearI q); replace K1 := Lib.hid (K1.out.nearI q); replace K2 := Lib.hid (K2.out.nearI q); replace K3 := Lib.hid (K3.out.nearI q); replace B := Lib.hid (goI B.out q); clear q; replace c0_0 := K0.out.at_ 0 _ rfl; replace c0_1 := K0.out.at_ 1 _ rfl; replace c0_2 := K0.out.at_ 2 _ rfl; replace c1_0 := K1.out.at_ 0 _ rfl; replace c1_1 := K1.out.at_ 1 _ rfl; replace c1_2 := K1.out.at_ 2 _ rfl; replace c2_0 := K2.out.at_ 0 _ rfl; replace c2_1 := K2.out.at_ 1 _ rfl; replace c2_2 := K2.out.at_ 2 _ rfl; replace c3_0 := K3.out.at_ 0 _ rfl; replace c3_1 := K3.out.at_ 1 _ rfl; replace c3_2 := K3.out.at_ 2 _ rfl)
  go_ret
  exact ⟨rfl, B.out⟩

end Go.Proofs.YtajkeoapfkkjbaaGreatDoor
