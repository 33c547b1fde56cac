/- The walk of known of klippelaw16, over texts. -/
import Derived.Test.YtajkeoapfkkjbaaGreatDoorShelf
import Derived.Test.YtajkeoapfkkjbaaGreatDoorPar
import Derived.Deep.RegionHeld3
import Derived.Laws.ResultCell
import Derived.Deep.Cut
import Derived.Deep.CutRange
import Derived.Deep.DeepCutAuto
import Derived.Outline
namespace Go.Proofs.YtajkeoapfkkjbaaGreatDoor
set_option linter.all false
open Go.RowKit

set_option maxRecDepth 100000 in
set_option maxHeartbeats 20000000 in
theorem known_of (A1 A2 A3 C1 C2 C3 D1 D2 D3 F1 F2 F3 G1 G2 G3 P1 P2 P3 Q1 Q2 Q3 : ByteArray) (w : World)
    (v1 : ∀ W, Below w.heap.size w W → Calls Tryz.prog 40 #[.int .i64 2, .int .i64 (-4), .int .i64 6] W fun e w' => e = .returned (.agg #[.string A1, .string A2, .string A3]) ∧ Below W.heap.size W w')
    (v2 : ∀ W, Below w.heap.size w W → Calls Tryz.prog 40 #[.int .i64 1, .int .i64 0, .int .i64 1] W fun e w' => e = .returned (.agg #[.string C1, .string C2, .string C3]) ∧ Below W.heap.size W w')
    (v3 : ∀ W, Below w.heap.size w W → Calls Tryz.prog 40 #[.int .i64 0, .int .i64 1, .int .i64 1] W fun e w' => e = .returned (.agg #[.string D1, .string D2, .string D3]) ∧ Below W.heap.size W w')
    (v4 : ∀ W, Below w.heap.size w W → Calls Tryz.prog 40 #[.int .i64 2, .int .i64 0, .int .i64 3] W fun e w' => e = .returned (.agg #[.string F1, .string F2, .string F3]) ∧ Below W.heap.size W w')
    (v5 : ∀ W, Below w.heap.size w W → Calls Tryz.prog 40 #[.int .i64 (-2), .int .i64 0, .int .i64 3] W fun e w' => e = .returned (.agg #[.string G1, .string G2, .string G3]) ∧ Below W.heap.size W w')
    (v6 : ∀ W, Below w.heap.size w W → Calls Tryz.prog 40 #[.int .i64 (-1), .int .i64 2, .int .i64 (-3)] W fun e w' => e = .returned (.agg #[.string P1, .string P2, .string P3]) ∧ Below W.heap.size W w')
    (v7 : ∀ W, Below w.heap.size w W → Calls Tryz.prog 40 #[.int .i64 1, .int .i64 1, .int .i64 (-1)] W fun e w' => e = .returned (.agg #[.string Q1, .string Q2, .string Q3]) ∧ Below W.heap.size W w')
    (o1 : ∀ W, Below w.heap.size w W → Calls Tryz.prog 18 #[.agg #[.string A1, .string A2, .string A3]] W fun e w' => e = .returned (.tuple #[.agg #[.string P1, .string P2, .string P3], .int .i64 0]) ∧ Below W.heap.size W w')
    (o2 : ∀ W, Below w.heap.size w W → Calls Tryz.prog 31 #[.agg #[.string A1, .string A2, .string A3]] W fun e w' => e = .returned (.tuple #[.int .i64 7, .int .i64 0]) ∧ Below W.heap.size W w')
    (o3 : ∀ W, Below w.heap.size w W → Calls Tryz.prog 23 #[.agg #[.string C1, .string C2, .string C3], .agg #[.string D1, .string D2, .string D3]] W fun e w' => e = .returned (.tuple #[.agg #[.string Q1, .string Q2, .string Q3], .int .i64 0]) ∧ Below W.heap.size W w')
    (o4 : ∀ W, Below w.heap.size w W → Calls Tryz.prog 24 #[.agg #[.string C1, .string C2, .string C3], .agg #[.string Q1, .string Q2, .string Q3]] W fun e w' => e = .returned (.tuple #[.string ⟨#[49, 47, 51]⟩, .int .i64 0]) ∧ Below W.heap.size W w')
    (o5 : ∀ W, Below w.heap.size w W → Calls Tryz.prog 15 #[.agg #[.string F1, .string F2, .string F3], .agg #[.string G1, .string G2, .string G3]] W fun e w' => e = .returned (.tuple #[.int .i64 2, .int .i64 0]) ∧ Below W.heap.size W w') :
    Calls Tryz.prog 12 #[] w fun e w' => e = .returned (.bool true) ∧ Below w.heap.size w w' := by
  have V1 := Lib.hid v1
  have V2 := Lib.hid v2
  have V3 := Lib.hid v3
  have V4 := Lib.hid v4
  have V5 := Lib.hid v5
  have V6 := Lib.hid v6
  have V7 := Lib.hid v7
  have O1 := Lib.hid o1
  have O2 := Lib.hid o2
  have O3 := Lib.hid o3
  have O4 := Lib.hid o4
  have O5 := Lib.hid o5
  clear v1 v2 v3 v4 v5 v6 v7 o1 o2 o3 o4 o5
  have B := Lib.hid (Below.refl w.heap.size w)
  go_enter Tryz.func12, Tryz.ntmps12
  go_upto_region 2 with (
   (first
    | (go_at_call 40; with_reducible refine (V1.out _ (baseI B.out)).mono ?_)
    | (go_at_call 18; with_reducible refine (O1.out _ (baseI B.out)).mono ?_)
    | fail "arm"); rintro e wx ⟨rfl, q⟩; replace B := Lib.hid (goI B.out q); clear q)
  have n0 := Blk.fresh wx #[.string P1, .string P2, .string P3] 34
  replace B := Lib.hid (B.out.trans ((below_new wx (Obj.cells #[.string P1, .string P2, .string P3] 34)).mono B.out.size))
  generalize wx.alloc (Obj.cells #[.string P1, .string P2, .string P3] 34) = wl1 at *
  generalize wx.heap.size = gl1 at *
  have K0 := Lib.hid n0
  clear n0
  have c0_0 := K0.out.at_ 0 _ rfl
  have c0_1 := K0.out.at_ 1 _ rfl
  have c0_2 := K0.out.at_ 2 _ rfl
  go_upto_region 4 with (
   (first
    | (go_at_call 40; with_reducible refine (V1.out _ (baseI B.out)).mono ?_)
    | (go_at_call 31; with_reducible refine (O2.out _ (baseI B.out)).mono ?_)
    | (go_at_call 40; with_reducible refine (V2.out _ (baseI B.out)).mono ?_)
    | (go_at_call 40; with_reducible refine (V3.out _ (baseI B.out)).mono ?_)
    | (go_at_call 23; with_reducible refine (O3.out _ (baseI B.out)).mono ?_)
    | fail "arm"); rintro e wx ⟨rfl, q⟩; replace K0 := Lib.hid (K0.out.nearI q); replace B := Lib.hid (goI B.out q); clear q; replace c0_0 := K0.out.at_ 0 _ rfl; replace c0_1 := K0.out.at_ 1 _ rfl; replace c0_2 := K0.out.at_ 2 _ rfl)
  have n1 := Blk.fresh wx #[.string Q1, .string Q2, .string Q3] 34
  replace K0 := Lib.hid (K0.out.alloc (Obj.cells #[.string Q1, .string Q2, .string Q3] 34))
  replace B := Lib.hid (B.out.trans ((below_new wx (Obj.cells #[.string Q1, .string Q2, .string Q3] 34)).mono B.out.size))
  generalize wx.alloc (Obj.cells #[.string Q1, .string Q2, .string Q3] 34) = wl2 at *
  generalize wx.heap.size = gl2 at *
  have K1 := Lib.hid n1
  clear n1
  replace c0_0 := K0.out.at_ 0 _ rfl
  replace c0_1 := K0.out.at_ 1 _ rfl
  replace c0_2 := K0.out.at_ 2 _ rfl
  have c1_0 := K1.out.at_ 0 _ rfl
  have c1_1 := K1.out.at_ 1 _ rfl
  have c1_2 := K1.out.at_ 2 _ rfl
  clear c0_0 c0_1 c0_2 c1_0 c1_1 c1_2
  refine wp_region_par (by kernel_rfl) [28, 29, 30, 27, 31, 32, 7, 8] (fun L σ W => Vals [some 28, some 29, some 30, some 27, some 31, some 32, some 7, some 8] [(.agg #[.string C1, .string C2, .string C3]), (.agg #[.string Q1, .string Q2, .string Q3]), (.tuple #[.string ⟨#[49, 47, 51]⟩, .int .i64 0]), (.tuple #[.string ⟨#[49, 47, 51]⟩, .int .i64 0]), (.string ⟨#[49, 47, 51]⟩), (.int .i64 0), (.string ⟨#[49, 47, 51]⟩), (.int .i64 0)] L σ ∧ Blk W (gl1) #[.string P1, .string P2, .string P3] 34 ∧ Blk W (gl2) #[.string Q1, .string Q2, .string Q3] 34 ∧ Below w.heap.size w W) (by kernel_rfl) (by kernel_rfl) (by kernel_rfl) ?_ ?_ ?_
  · exact fun σ => ⟨Vals.start, K0.out.below (Below.refl _ _).drew, K1.out.below (Below.refl _ _).drew, B.out.drew⟩
  · refine ⟨?_, ?_, ?_, ?_, ?_, ?_, ?_, ?_, trivial⟩
    · rintro L a W ho ⟨V, jb0, jb1, bb⟩ hn hd K hK
      clear hd
      refine Wants.free rfl ?_
      go_simp
      go_at_call 40
      with_reducible refine (V2.out _ bb).mono ?_
      rintro e wx ⟨rfl, q⟩
      go_simp
      exact hK.out (.agg #[.string C1, .string C2, .string C3]) _ ⟨V.set 0 _ _ rfl rfl rfl, jb0.below q, jb1.below q, bb.trans (q.mono bb.size)⟩
    · rintro L a W ho ⟨V, jb0, jb1, bb⟩ hn hd K hK
      clear hd
      refine Wants.free rfl ?_
      have jr5 : a.tmps[(5 : Nat)]?.getD undef = .pointer (some ⟨gl2, 0, none⟩) := ho.slot 5 rfl
      have jc0 := jb1.at_ 0 _ rfl
      have jc1 := jb1.at_ 1 _ rfl
      have jc2 := jb1.at_ 2 _ rfl
      go_simp
      exact hK.out (.agg #[.string Q1, .string Q2, .string Q3]) _ ⟨V.set 1 _ _ rfl rfl rfl, jb0, jb1, bb⟩
    · rintro L a W ho ⟨V, jb0, jb1, bb⟩ hn hd K hK
      have jh0 := hd.get 0 rfl
      have jh1 := hd.get 1 rfl
      clear hd
      refine Wants.free rfl ?_
      have jr28 := V.read 0 rfl rfl jh0
      have jr29 := V.read 1 rfl rfl jh1
      go_simp
      go_at_call 24
      with_reducible refine (O4.out _ bb).mono ?_
      rintro e wx ⟨rfl, q⟩
      go_simp
      exact hK.out (.tuple #[.string ⟨#[49, 47, 51]⟩, .int .i64 0]) _ ⟨V.set 2 _ _ rfl rfl rfl, jb0.below q, jb1.below q, bb.trans (q.mono bb.size)⟩
    · rintro L a W ho ⟨V, jb0, jb1, bb⟩ hn hd K hK
      have jh2 := hd.get 2 rfl
      clear hd
      refine Wants.free rfl ?_
      have jr30 := V.read 2 rfl rfl jh2
      go_simp
      exact hK.out (.tuple #[.string ⟨#[49, 47, 51]⟩, .int .i64 0]) _ ⟨V.set 3 _ _ rfl rfl rfl, jb0, jb1, bb⟩
    · rintro L a W ho ⟨V, jb0, jb1, bb⟩ hn hd K hK
      have jh3 := hd.get 3 rfl
      clear hd
      refine Wants.free rfl ?_
      have jr27 := V.read 3 rfl rfl jh3
      go_simp
      exact hK.out (.string ⟨#[49, 47, 51]⟩) _ ⟨V.set 4 _ _ rfl rfl rfl, jb0, jb1, bb⟩
    · rintro L a W ho ⟨V, jb0, jb1, bb⟩ hn hd K hK
      have jh3 := hd.get 3 rfl
      clear hd
      refine Wants.free rfl ?_
      have jr27 := V.read 3 rfl rfl jh3
      go_simp
      exact hK.out (.int .i64 0) _ ⟨V.set 5 _ _ rfl rfl rfl, jb0, jb1, bb⟩
    · rintro L a W ho ⟨V, jb0, jb1, bb⟩ hn hd K hK
      have jh4 := hd.get 4 rfl
      clear hd
      refine Wants.free rfl ?_
      have jr31 := V.read 4 rfl rfl jh4
      go_simp
      exact hK.out (.string ⟨#[49, 47, 51]⟩) _ ⟨V.set 6 _ _ rfl rfl rfl, jb0, jb1, bb⟩
    · rintro L a W ho ⟨V, jb0, jb1, bb⟩ hn hd K hK
      have jh5 := hd.get 5 rfl
      clear hd
      refine Wants.free rfl ?_
      have jr32 := V.read 5 rfl rfl jh5
      go_simp
      exact hK.out (.int .i64 0) _ ⟨V.set 7 _ _ rfl rfl rfl, jb0, jb1, bb⟩
  rintro L σ W ⟨V, jb0, jb1, bb⟩ hL
  have jf0 := V 0 _ _ rfl rfl (hL 0 (by decide))
  have jf1 := V 1 _ _ rfl rfl (hL 1 (by decide))
  have jf2 := V 2 _ _ rfl rfl (hL 2 (by decide))
  have jf3 := V 3 _ _ rfl rfl (hL 3 (by decide))
  have jf4 := V 4 _ _ rfl rfl (hL 4 (by decide))
  have jf5 := V 5 _ _ rfl rfl (hL 5 (by decide))
  have jf6 := V 6 _ _ rfl rfl (hL 6 (by decide))
  have jf7 := V 7 _ _ rfl rfl (hL 7 (by decide))
  clear V
  clear hL
  rw [show List.map σ [28, 29, 30, 27, 31, 32, 7, 8] = [σ 28, σ 29, σ 30, σ 27, σ 31, σ 32, σ 7, σ 8] from rfl, jf0, jf1, jf2, jf3, jf4, jf5, jf6, jf7]
  clear jf0 jf1 jf2 jf3 jf4 jf5 jf6 jf7
  simp only [putAll, List.map, Act.put, List.setIfInBounds_toArray, List.set_cons_succ, List.set_cons_zero]
  replace K0 := Lib.hid jb0
  replace K1 := Lib.hid jb1
  replace B := Lib.hid bb
  clear bb jb0 jb1
  have c0_0 := K0.out.at_ 0 _ rfl
  have c0_1 := K0.out.at_ 1 _ rfl
  have c0_2 := K0.out.at_ 2 _ rfl
  have c1_0 := K1.out.at_ 0 _ rfl
  have c1_1 := K1.out.at_ 1 _ rfl
  have c1_2 := K1.out.at_ 2 _ rfl
  go_upto_region 6 with (
   (first
    | (go_at_call 40; with_reducible refine (V4.out _ (baseI B.out)).mono ?_)
    | (go_at_call 40; with_reducible refine (V5.out _ (baseI B.out)).mono ?_)
    | (go_at_call 15; with_reducible refine (O5.out _ (baseI B.out)).mono ?_)
    | fail "arm"); rintro e wx ⟨rfl, q⟩; replace K0 := Lib.hid (K0.out.nearI q); replace K1 := Lib.hid (K1.out.nearI q); replace B := Lib.hid (goI B.out q); clear q; replace c0_0 := K0.out.at_ 0 _ rfl; replace c0_1 := K0.out.at_ 1 _ rfl; replace c0_2 := K0.out.at_ 2 _ rfl; replace c1_0 := K1.out.at_ 0 _ rfl; replace c1_1 := K1.out.at_ 1 _ rfl; replace c1_2 := K1.out.at_ 2 _ rfl)
  clear c0_0 c0_1 c0_2 c1_0 c1_1 c1_2
  refine wp_region_par (by kernel_rfl) [39, 40, 41, 42, 43, 44, 45, 46, 47, 48, 49, 50, 51, 52, 53, 54, 55, 56, 57, 58, 59, 60, 61, 62, 63, 64, 65, 66, 67, 68, 69, 70, 71, 72, 73, 74, 75, 76, 77, 78, 0] (fun L σ W => Vals [some 39, some 40, some 41, some 42, some 43, some 44, some 45, some 46, some 47, some 48, some 49, some 50, some 51, some 52, some 53, some 54, some 55, some 56, some 57, some 58, some 59, some 60, some 61, some 62, some 63, some 64, some 65, some 66, some 67, some 68, some 69, some 70, some 71, some 72, some 73, some 74, some 75, some 76, some 77, some 78, some 0] [(.int .i64 0), (.bool true), (.bool true), (.agg #[.string P1, .string P2, .string P3]), (.agg #[.string P1, .string P2, .string P3]), (.bool true), (.bool true), (.bool true), (.int .i64 0), (.bool true), (.bool true), (.bool true), (.int .i64 7), (.bool true), (.bool true), (.bool true), (.int .i64 0), (.bool true), (.bool true), (.bool true), (.agg #[.string Q1, .string Q2, .string Q3]), (.agg #[.string Q1, .string Q2, .string Q3]), (.bool true), (.bool true), (.bool true), (.int .i64 0), (.bool true), (.bool true), (.bool true), (.string ⟨#[49, 47, 51]⟩), (.bool true), (.bool true), (.bool true), (.int .i64 0), (.bool true), (.bool true), (.bool true), (.int .i64 2), (.bool true), (.bool true), (.bool true)] L σ ∧ Blk W (gl1) #[.string P1, .string P2, .string P3] 34 ∧ Blk W (gl2) #[.string Q1, .string Q2, .string Q3] 34 ∧ Below w.heap.size w W) (by kernel_rfl) (by kernel_rfl) (by kernel_rfl) ?_ ?_ ?_
  · exact fun σ => ⟨Vals.start, K0.out.below (Below.refl _ _).drew, K1.out.below (Below.refl _ _).drew, B.out.drew⟩
  · refine ⟨?_, ?_, ?_, ?_, ?_, ?_, ?_, ?_, ?_, ?_, ?_, ?_, ?_, ?_, ?_, ?_, ?_, ?_, ?_, ?_, ?_, ?_, ?_, ?_, ?_, ?_, ?_, ?_, ?_, ?_, ?_, ?_, ?_, ?_, ?_, ?_, ?_, ?_, ?_, ?_, ?_, trivial⟩
    · rintro L a W ho ⟨V, jb0, jb1, bb⟩ hn hd K hK
      clear hd
      refine Wants.free rfl ?_
      have jr2 : a.tmps[(2 : Nat)]?.getD undef = .int .i64 0 := ho.slot 2 rfl
      go_simp
      exact hK.out (.int .i64 0) _ ⟨V.set 0 _ _ rfl rfl rfl, jb0, jb1, bb⟩
    · rintro L a W ho ⟨V, jb0, jb1, bb⟩ hn hd K hK
      have jh0 := hd.get 0 rfl
      clear hd
      refine Wants.free rfl ?_
      have jr39 := V.read 0 rfl rfl jh0
      go_simp
      exact hK.out (.bool true) _ ⟨V.set 1 _ _ rfl rfl rfl, jb0, jb1, bb⟩
    · rintro L a W ho ⟨V, jb0, jb1, bb⟩ hn hd K hK
      have jh1 := hd.get 1 rfl
      clear hd
      refine Wants.free rfl ?_
      have jr40 := V.read 1 rfl rfl jh1
      go_simp
      exact hK.out (.bool true) _ ⟨V.set 2 _ _ rfl rfl rfl, jb0, jb1, bb⟩
    · rintro L a W ho ⟨V, jb0, jb1, bb⟩ hn hd K hK
      have jh2 := hd.get 2 rfl
      clear hd
      refine Wants.pos (s := 41) rfl rfl (V 2 _ _ rfl rfl jh2) ?_
      have jr1 : a.tmps[(1 : Nat)]?.getD undef = .pointer (some ⟨gl1, 0, none⟩) := ho.slot 1 rfl
      have jc0 := jb0.at_ 0 _ rfl
      have jc1 := jb0.at_ 1 _ rfl
      have jc2 := jb0.at_ 2 _ rfl
      go_simp
      exact hK.out (.agg #[.string P1, .string P2, .string P3]) _ ⟨V.set 3 _ _ rfl rfl rfl, jb0, jb1, bb⟩
    · rintro L a W ho ⟨V, jb0, jb1, bb⟩ hn hd K hK
      have jh2 := hd.get 2 rfl
      clear hd
      refine Wants.pos (s := 41) rfl rfl (V 2 _ _ rfl rfl jh2) ?_
      go_simp
      go_at_call 40
      with_reducible refine (V6.out _ bb).mono ?_
      rintro e wx ⟨rfl, q⟩
      go_simp
      exact hK.out (.agg #[.string P1, .string P2, .string P3]) _ ⟨V.set 4 _ _ rfl rfl rfl, jb0.below q, jb1.below q, bb.trans (q.mono bb.size)⟩
    · rintro L a W ho ⟨V, jb0, jb1, bb⟩ hn hd K hK
      have jh3 := hd.get 3 rfl
      have jh4 := hd.get 4 rfl
      have jh2 := hd.get 2 rfl
      clear hd
      refine Wants.pos (s := 41) rfl rfl (V 2 _ _ rfl rfl jh2) ?_
      have jr42 := V.read 3 rfl rfl jh3
      have jr43 := V.read 4 rfl rfl jh4
      go_simp
      exact hK.out (.bool true) _ ⟨V.set 5 _ _ rfl rfl rfl, jb0, jb1, bb⟩
    · rintro L a W ho ⟨V, jb0, jb1, bb⟩ hn hd K hK
      have jh2 := hd.get 2 rfl
      have jh5 := hd.get 5 rfl
      clear hd
      refine Wants.free rfl ?_
      have jr41 := V.read 2 rfl rfl jh2
      have jr44 := V.read 5 rfl rfl jh5
      go_simp
      exact hK.out (.bool true) _ ⟨V.set 6 _ _ rfl rfl rfl, jb0, jb1, bb⟩
    · rintro L a W ho ⟨V, jb0, jb1, bb⟩ hn hd K hK
      have jh6 := hd.get 6 rfl
      clear hd
      refine Wants.free rfl ?_
      have jr45 := V.read 6 rfl rfl jh6
      go_simp
      exact hK.out (.bool true) _ ⟨V.set 7 _ _ rfl rfl rfl, jb0, jb1, bb⟩
    · rintro L a W ho ⟨V, jb0, jb1, bb⟩ hn hd K hK
      have jh7 := hd.get 7 rfl
      clear hd
      refine Wants.pos (s := 46) rfl rfl (V 7 _ _ rfl rfl jh7) ?_
      have jr4 : a.tmps[(4 : Nat)]?.getD undef = .int .i64 0 := ho.slot 4 rfl
      go_simp
      exact hK.out (.int .i64 0) _ ⟨V.set 8 _ _ rfl rfl rfl, jb0, jb1, bb⟩
    · rintro L a W ho ⟨V, jb0, jb1, bb⟩ hn hd K hK
      have jh8 := hd.get 8 rfl
      have jh7 := hd.get 7 rfl
      clear hd
      refine Wants.pos (s := 46) rfl rfl (V 7 _ _ rfl rfl jh7) ?_
      have jr47 := V.read 8 rfl rfl jh8
      go_simp
      exact hK.out (.bool true) _ ⟨V.set 9 _ _ rfl rfl rfl, jb0, jb1, bb⟩
    · rintro L a W ho ⟨V, jb0, jb1, bb⟩ hn hd K hK
      have jh7 := hd.get 7 rfl
      have jh9 := hd.get 9 rfl
      clear hd
      refine Wants.free rfl ?_
      have jr46 := V.read 7 rfl rfl jh7
      have jr48 := V.read 9 rfl rfl jh9
      go_simp
      exact hK.out (.bool true) _ ⟨V.set 10 _ _ rfl rfl rfl, jb0, jb1, bb⟩
    · rintro L a W ho ⟨V, jb0, jb1, bb⟩ hn hd K hK
      have jh10 := hd.get 10 rfl
      clear hd
      refine Wants.free rfl ?_
      have jr49 := V.read 10 rfl rfl jh10
      go_simp
      exact hK.out (.bool true) _ ⟨V.set 11 _ _ rfl rfl rfl, jb0, jb1, bb⟩
    · rintro L a W ho ⟨V, jb0, jb1, bb⟩ hn hd K hK
      have jh11 := hd.get 11 rfl
      clear hd
      refine Wants.pos (s := 50) rfl rfl (V 11 _ _ rfl rfl jh11) ?_
      have jr3 : a.tmps[(3 : Nat)]?.getD undef = .int .i64 7 := ho.slot 3 rfl
      go_simp
      exact hK.out (.int .i64 7) _ ⟨V.set 12 _ _ rfl rfl rfl, jb0, jb1, bb⟩
    · rintro L a W ho ⟨V, jb0, jb1, bb⟩ hn hd K hK
      have jh12 := hd.get 12 rfl
      have jh11 := hd.get 11 rfl
      clear hd
      refine Wants.pos (s := 50) rfl rfl (V 11 _ _ rfl rfl jh11) ?_
      have jr51 := V.read 12 rfl rfl jh12
      go_simp
      exact hK.out (.bool true) _ ⟨V.set 13 _ _ rfl rfl rfl, jb0, jb1, bb⟩
    · rintro L a W ho ⟨V, jb0, jb1, bb⟩ hn hd K hK
      have jh11 := hd.get 11 rfl
      have jh13 := hd.get 13 rfl
      clear hd
      refine Wants.free rfl ?_
      have jr50 := V.read 11 rfl rfl jh11
      have jr52 := V.read 13 rfl rfl jh13
      go_simp
      exact hK.out (.bool true) _ ⟨V.set 14 _ _ rfl rfl rfl, jb0, jb1, bb⟩
    · rintro L a W ho ⟨V, jb0, jb1, bb⟩ hn hd K hK
      have jh14 := hd.get 14 rfl
      clear hd
      refine Wants.free rfl ?_
      have jr53 := V.read 14 rfl rfl jh14
      go_simp
      exact hK.out (.bool true) _ ⟨V.set 15 _ _ rfl rfl rfl, jb0, jb1, bb⟩
    · rintro L a W ho ⟨V, jb0, jb1, bb⟩ hn hd K hK
      have jh15 := hd.get 15 rfl
      clear hd
      refine Wants.pos (s := 54) rfl rfl (V 15 _ _ rfl rfl jh15) ?_
      have jr6 : a.tmps[(6 : Nat)]?.getD undef = .int .i64 0 := ho.slot 6 rfl
      go_simp
      exact hK.out (.int .i64 0) _ ⟨V.set 16 _ _ rfl rfl rfl, jb0, jb1, bb⟩
    · rintro L a W ho ⟨V, jb0, jb1, bb⟩ hn hd K hK
      have jh16 := hd.get 16 rfl
      have jh15 := hd.get 15 rfl
      clear hd
      refine Wants.pos (s := 54) rfl rfl (V 15 _ _ rfl rfl jh15) ?_
      have jr55 := V.read 16 rfl rfl jh16
      go_simp
      exact hK.out (.bool true) _ ⟨V.set 17 _ _ rfl rfl rfl, jb0, jb1, bb⟩
    · rintro L a W ho ⟨V, jb0, jb1, bb⟩ hn hd K hK
      have jh15 := hd.get 15 rfl
      have jh17 := hd.get 17 rfl
      clear hd
      refine Wants.free rfl ?_
      have jr54 := V.read 15 rfl rfl jh15
      have jr56 := V.read 17 rfl rfl jh17
      go_simp
      exact hK.out (.bool true) _ ⟨V.set 18 _ _ rfl rfl rfl, jb0, jb1, bb⟩
    · rintro L a W ho ⟨V, jb0, jb1, bb⟩ hn hd K hK
      have jh18 := hd.get 18 rfl
      clear hd
      refine Wants.free rfl ?_
      have jr57 := V.read 18 rfl rfl jh18
      go_simp
      exact hK.out (.bool true) _ ⟨V.set 19 _ _ rfl rfl rfl, jb0, jb1, bb⟩
    · rintro L a W ho ⟨V, jb0, jb1, bb⟩ hn hd K hK
      have jh19 := hd.get 19 rfl
      clear hd
      refine Wants.pos (s := 58) rfl rfl (V 19 _ _ rfl rfl jh19) ?_
      have jr5 : a.tmps[(5 : Nat)]?.getD undef = .pointer (some ⟨gl2, 0, none⟩) := ho.slot 5 rfl
      have jc0 := jb1.at_ 0 _ rfl
      have jc1 := jb1.at_ 1 _ rfl
      have jc2 := jb1.at_ 2 _ rfl
      go_simp
      exact hK.out (.agg #[.string Q1, .string Q2, .string Q3]) _ ⟨V.set 20 _ _ rfl rfl rfl, jb0, jb1, bb⟩
    · rintro L a W ho ⟨V, jb0, jb1, bb⟩ hn hd K hK
      have jh19 := hd.get 19 rfl
      clear hd
      refine Wants.pos (s := 58) rfl rfl (V 19 _ _ rfl rfl jh19) ?_
      go_simp
      go_at_call 40
      with_reducible refine (V7.out _ bb).mono ?_
      rintro e wx ⟨rfl, q⟩
      go_simp
      exact hK.out (.agg #[.string Q1, .string Q2, .string Q3]) _ ⟨V.set 21 _ _ rfl rfl rfl, jb0.below q, jb1.below q, bb.trans (q.mono bb.size)⟩
    · rintro L a W ho ⟨V, jb0, jb1, bb⟩ hn hd K hK
      have jh20 := hd.get 20 rfl
      have jh21 := hd.get 21 rfl
      have jh19 := hd.get 19 rfl
      clear hd
      refine Wants.pos (s := 58) rfl rfl (V 19 _ _ rfl rfl jh19) ?_
      have jr59 := V.read 20 rfl rfl jh20
      have jr60 := V.read 21 rfl rfl jh21
      go_simp
      exact hK.out (.bool true) _ ⟨V.set 22 _ _ rfl rfl rfl, jb0, jb1, bb⟩
    · rintro L a W ho ⟨V, jb0, jb1, bb⟩ hn hd K hK
      have jh19 := hd.get 19 rfl
      have jh22 := hd.get 22 rfl
      clear hd
      refine Wants.free rfl ?_
      have jr58 := V.read 19 rfl rfl jh19
      have jr61 := V.read 22 rfl rfl jh22
      go_simp
      exact hK.out (.bool true) _ ⟨V.set 23 _ _ rfl rfl rfl, jb0, jb1, bb⟩
    · rintro L a W ho ⟨V, jb0, jb1, bb⟩ hn hd K hK
      have jh23 := hd.get 23 rfl
      clear hd
      refine Wants.free rfl ?_
      have jr62 := V.read 23 rfl rfl jh23
      go_simp
      exact hK.out (.bool true) _ ⟨V.set 24 _ _ rfl rfl rfl, jb0, jb1, bb⟩
    · rintro L a W ho ⟨V, jb0, jb1, bb⟩ hn hd K hK
      have jh24 := hd.get 24 rfl
      clear hd
      refine Wants.pos (s := 63) rfl rfl (V 24 _ _ rfl rfl jh24) ?_
      have jr8 : a.tmps[(8 : Nat)]?.getD undef = .int .i64 0 := ho.slot 8 rfl
      go_simp
      exact hK.out (.int .i64 0) _ ⟨V.set 25 _ _ rfl rfl rfl, jb0, jb1, bb⟩
    · rintro L a W ho ⟨V, jb0, jb1, bb⟩ hn hd K hK
      have jh25 := hd.get 25 rfl
      have jh24 := hd.get 24 rfl
      clear hd
      refine Wants.pos (s := 63) rfl rfl (V 24 _ _ rfl rfl jh24) ?_
      have jr64 := V.read 25 rfl rfl jh25
      go_simp
      exact hK.out (.bool true) _ ⟨V.set 26 _ _ rfl rfl rfl, jb0, jb1, bb⟩
    · rintro L a W ho ⟨V, jb0, jb1, bb⟩ hn hd K hK
      have jh24 := hd.get 24 rfl
      have jh26 := hd.get 26 rfl
      clear hd
      refine Wants.free rfl ?_
      have jr63 := V.read 24 rfl rfl jh24
      have jr65 := V.read 26 rfl rfl jh26
      go_simp
      exact hK.out (.bool true) _ ⟨V.set 27 _ _ rfl rfl rfl, jb0, jb1, bb⟩
    · rintro L a W ho ⟨V, jb0, jb1, bb⟩ hn hd K hK
      have jh27 := hd.get 27 rfl
      clear hd
      refine Wants.free rfl ?_
      have jr66 := V.read 27 rfl rfl jh27
      go_simp
      exact hK.out (.bool true) _ ⟨V.set 28 _ _ rfl rfl rfl, jb0, jb1, bb⟩
    · rintro L a W ho ⟨V, jb0, jb1, bb⟩ hn hd K hK
      have jh28 := hd.get 28 rfl
      clear hd
      refine Wants.pos (s := 67) rfl rfl (V 28 _ _ rfl rfl jh28) ?_
      have jr7 : a.tmps[(7 : Nat)]?.getD undef = .string ⟨#[49, 47, 51]⟩ := ho.slot 7 rfl
      go_simp
      exact hK.out (.string ⟨#[49, 47, 51]⟩) _ ⟨V.set 29 _ _ rfl rfl rfl, jb0, jb1, bb⟩
    · rintro L a W ho ⟨V, jb0, jb1, bb⟩ hn hd K hK
      have jh29 := hd.get 29 rfl
      have jh28 := hd.get 28 rfl
      clear hd
      refine Wants.pos (s := 67) rfl rfl (V 28 _ _ rfl rfl jh28) ?_
      have jr68 := V.read 29 rfl rfl jh29
      go_simp
      exact hK.out (.bool true) _ ⟨V.set 30 _ _ rfl rfl rfl, jb0, jb1, bb⟩
    · rintro L a W ho ⟨V, jb0, jb1, bb⟩ hn hd K hK
      have jh28 := hd.get 28 rfl
      have jh30 := hd.get 30 rfl
      clear hd
      refine Wants.free rfl ?_
      have jr67 := V.read 28 rfl rfl jh28
      have jr69 := V.read 30 rfl rfl jh30
      go_simp
      exact hK.out (.bool true) _ ⟨V.set 31 _ _ rfl rfl rfl, jb0, jb1, bb⟩
    · rintro L a W ho ⟨V, jb0, jb1, bb⟩ hn hd K hK
      have jh31 := hd.get 31 rfl
      clear hd
      refine Wants.free rfl ?_
      have jr70 := V.read 31 rfl rfl jh31
      go_simp
      exact hK.out (.bool true) _ ⟨V.set 32 _ _ rfl rfl rfl, jb0, jb1, bb⟩
    · rintro L a W ho ⟨V, jb0, jb1, bb⟩ hn hd K hK
      have jh32 := hd.get 32 rfl
      clear hd
      refine Wants.pos (s := 71) rfl rfl (V 32 _ _ rfl rfl jh32) ?_
      have jr10 : a.tmps[(10 : Nat)]?.getD undef = .int .i64 0 := ho.slot 10 rfl
      go_simp
      exact hK.out (.int .i64 0) _ ⟨V.set 33 _ _ rfl rfl rfl, jb0, jb1, bb⟩
    · rintro L a W ho ⟨V, jb0, jb1, bb⟩ hn hd K hK
      have jh33 := hd.get 33 rfl
      have jh32 := hd.get 32 rfl
      clear hd
      refine Wants.pos (s := 71) rfl rfl (V 32 _ _ rfl rfl jh32) ?_
      have jr72 := V.read 33 rfl rfl jh33
      go_simp
      exact hK.out (.bool true) _ ⟨V.set 34 _ _ rfl rfl rfl, jb0, jb1, bb⟩
    · rintro L a W ho ⟨V, jb0, jb1, bb⟩ hn hd K hK
      have jh32 := hd.get 32 rfl
      have jh34 := hd.get 34 rfl
      clear hd
      refine Wants.free rfl ?_
      have jr71 := V.read 32 rfl rfl jh32
      have jr73 := V.read 34 rfl rfl jh34
      go_simp
      exact hK.out (.bool true) _ ⟨V.set 35 _ _ rfl rfl rfl, jb0, jb1, bb⟩
    · rintro L a W ho ⟨V, jb0, jb1, bb⟩ hn hd K hK
      have jh35 := hd.get 35 rfl
      clear hd
      refine Wants.free rfl ?_
      have jr74 := V.read 35 rfl rfl jh35
      go_simp
      exact hK.out (.bool true) _ ⟨V.set 36 _ _ rfl rfl rfl, jb0, jb1, bb⟩
    · rintro L a W ho ⟨V, jb0, jb1, bb⟩ hn hd K hK
      have jh36 := hd.get 36 rfl
      clear hd
      refine Wants.pos (s := 75) rfl rfl (V 36 _ _ rfl rfl jh36) ?_
      have jr9 : a.tmps[(9 : Nat)]?.getD undef = .int .i64 2 := ho.slot 9 rfl
      go_simp
      exact hK.out (.int .i64 2) _ ⟨V.set 37 _ _ rfl rfl rfl, jb0, jb1, bb⟩
    · rintro L a W ho ⟨V, jb0, jb1, bb⟩ hn hd K hK
      have jh37 := hd.get 37 rfl
      have jh36 := hd.get 36 rfl
      clear hd
      refine Wants.pos (s := 75) rfl rfl (V 36 _ _ rfl rfl jh36) ?_
      have jr76 := V.read 37 rfl rfl jh37
      go_simp
      exact hK.out (.bool true) _ ⟨V.set 38 _ _ rfl rfl rfl, jb0, jb1, bb⟩
    · rintro L a W ho ⟨V, jb0, jb1, bb⟩ hn hd K hK
      have jh36 := hd.get 36 rfl
      have jh38 := hd.get 38 rfl
      clear hd
      refine Wants.free rfl ?_
      have jr75 := V.read 36 rfl rfl jh36
      have jr77 := V.read 38 rfl rfl jh38
      go_simp
      exact hK.out (.bool true) _ ⟨V.set 39 _ _ rfl rfl rfl, jb0, jb1, bb⟩
    · rintro L a W ho ⟨V, jb0, jb1, bb⟩ hn hd K hK
      have jh39 := hd.get 39 rfl
      clear hd
      refine Wants.free rfl ?_
      have jr78 := V.read 39 rfl rfl jh39
      go_simp
      exact hK.out (.bool true) _ ⟨V.set 40 _ _ rfl rfl rfl, jb0, jb1, bb⟩
  rintro L σ W ⟨V, jb0, jb1, bb⟩ hL
  have jf0 := V 0 _ _ rfl rfl (hL 0 (by decide))
  have jf1 := V 1 _ _ rfl rfl (hL 1 (by decide))
  have jf2 := V 2 _ _ rfl rfl (hL 2 (by decide))
  have jf3 := V 3 _ _ rfl rfl (hL 3 (by decide))
  have jf4 := V 4 _ _ rfl rfl (hL 4 (by decide))
  have jf5 := V 5 _ _ rfl rfl (hL 5 (by decide))
  have jf6 := V 6 _ _ rfl rfl (hL 6 (by decide))
  have jf7 := V 7 _ _ rfl rfl (hL 7 (by decide))
  have jf8 := V 8 _ _ rfl rfl (hL 8 (by decide))
  have jf9 := V 9 _ _ rfl rfl (hL 9 (by decide))
  have jf10 := V 10 _ _ rfl rfl (hL 10 (by decide))
  have jf11 := V 11 _ _ rfl rfl (hL 11 (by decide))
  have jf12 := V 12 _ _ rfl rfl (hL 12 (by decide))
  have jf13 := V 13 _ _ rfl rfl (hL 13 (by decide))
  have jf14 := V 14 _ _ rfl rfl (hL 14 (by decide))
  have jf15 := V 15 _ _ rfl rfl (hL 15 (by decide))
  have jf16 := V 16 _ _ rfl rfl (hL 16 (by decide))
  have jf17 := V 17 _ _ rfl rfl (hL 17 (by decide))
  have jf18 := V 18 _ _ rfl rfl (hL 18 (by decide))
  have jf19 := V 19 _ _ rfl rfl (hL 19 (by decide))
  have jf20 := V 20 _ _ rfl rfl (hL 20 (by decide))
  have jf21 := V 21 _ _ rfl rfl (hL 21 (by decide))
  have jf22 := V 22 _ _ rfl rfl (hL 22 (by decide))
  have jf23 := V 23 _ _ rfl rfl (hL 23 (by decide))
  have jf24 := V 24 _ _ rfl rfl (hL 24 (by decide))
  have jf25 := V 25 _ _ rfl rfl (hL 25 (by decide))
  have jf26 := V 26 _ _ rfl rfl (hL 26 (by decide))
  have jf27 := V 27 _ _ rfl rfl (hL 27 (by decide))
  have jf28 := V 28 _ _ rfl rfl (hL 28 (by decide))
  have jf29 := V 29 _ _ rfl rfl (hL 29 (by decide))
  have jf30 := V 30 _ _ rfl rfl (hL 30 (by decide))
  have jf31 := V 31 _ _ rfl rfl (hL 31 (by decide))
  have jf32 := V 32 _ _ rfl rfl (hL 32 (by decide))
  have jf33 := V 33 _ _ rfl rfl (hL 33 (by decide))
  have jf34 := V 34 _ _ rfl rfl (hL 34 (by decide))
  have jf35 := V 35 _ _ rfl rfl (hL 35 (by decide))
  have jf36 := V 36 _ _ rfl rfl (hL 36 (by decide))
  have jf37 := V 37 _ _ rfl rfl (hL 37 (by decide))
  have jf38 := V 38 _ _ rfl rfl (hL 38 (by decide))
  have jf39 := V 39 _ _ rfl rfl (hL 39 (by decide))
  have jf40 := V 40 _ _ rfl rfl (hL 40 (by decide))
  clear V
  clear hL
  rw [show List.map σ [39, 40, 41, 42, 43, 44, 45, 46, 47, 48, 49, 50, 51, 52, 53, 54, 55, 56, 57, 58, 59, 60, 61, 62, 63, 64, 65, 66, 67, 68, 69, 70, 71, 72, 73, 74, 75, 76, 77, 78, 0] = [σ 39, σ 40, σ 41, σ 42, σ 43, σ 44, σ 45, σ 46, σ 47, σ 48, σ 49, σ 50, σ 51, σ 52, σ 53, σ 54, σ 55, σ 56, σ 57, σ 58, σ 59, σ 60, σ 61, σ 62, σ 63, σ 64, σ 65, σ 66, σ 67, σ 68, σ 69, σ 70, σ 71, σ 72, σ 73, σ 74, σ 75, σ 76, σ 77, σ 78, σ 0] from rfl, jf0, jf1, jf2, jf3, jf4, jf5, jf6, jf7, jf8, jf9, jf10, jf11, jf12, jf13, jf14, jf15, jf16, jf17, jf18, jf19, jf20, jf21, jf22, jf23, jf24, jf25, jf26, jf27, jf28, jf29, jf30, jf31, jf32, jf33, jf34, jf35, jf36, jf37, jf38, jf39, jf40]
  clear jf0 jf1 jf2 jf3 jf4 jf5 jf6 jf7 jf8 jf9 jf10 jf11 jf12 jf13 jf14 jf15 jf16 jf17 jf18 jf19 jf20 jf21 jf22 jf23 jf24 jf25 jf26 jf27 jf28 jf29 jf30 jf31 jf32 jf33 jf34 jf35 jf36 jf37 jf38 jf39 jf40
  simp only [putAll, List.map, Act.put, List.setIfInBounds_toArray, List.set_cons_succ, List.set_cons_zero]
  replace K0 := Lib.hid jb0
  replace K1 := Lib.hid jb1
  replace B := Lib.hid bb
  clear bb jb0 jb1
  have c0_0 := K0.out.at_ 0 _ rfl
  have c0_1 := K0.out.at_ 1 _ rfl
  have c0_2 := K0.out.at_ 2 _ rfl
  have c1_0 := K1.out.at_ 0 _ rfl
  have c1_1 := K1.out.at_ 1 _ rfl
  have c1_2 := K1.out.at_ 2 _ rfl
  go_wp2
  go_ret
  exact ⟨rfl, B.out⟩

end Go.Proofs.YtajkeoapfkkjbaaGreatDoor
