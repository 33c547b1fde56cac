/- The walk of LineationMultiples, over texts and ints. -/
import Derived.Test.YtajkeoapfkkjbaaGreatDoorShelf
import Derived.Test.YtajkeoapfkkjbaaGreatDoorPar
import Derived.Deep.RegionHeld3
import Derived.Laws.ResultCell
import Derived.Deep.Cut
import Derived.Deep.CutRange
import Derived.Deep.DeepCutAuto
import Derived.Outline
namespace Go.Proofs.YtajkeoapfkkjbaaGreatDoor
set_option linter.all false
open Go.RowKit

set_option maxRecDepth 100000 in
set_option maxHeartbeats 4000000 in
theorem multiples_z1 (x1 y1 z1 b1 k p1 p2 p3 : Int) (w : World)
    (kn : ∀ W, Below w.heap.size w W → Calls Tryz.prog 12 #[] W fun e w' => e = .returned (.bool true) ∧ Below W.heap.size W w')
    (i1 : ∀ W, Below w.heap.size w W → Calls Tryz.prog 14 #[.agg #[.int .i8 x1, .int .i8 y1, .int .i8 z1, .int .u8 b1]] W fun e w' => e = .returned (.agg #[.int .i64 p1, .int .i64 p2, .int .i64 p3]) ∧ Below W.heap.size W w')
    (s1 : ∀ W, Below w.heap.size w W → Calls Tryz.prog 13 #[.agg #[.int .i64 p1, .int .i64 p2, .int .i64 p3]] W fun e w' => e = .returned (.bool true) ∧ Below W.heap.size W w') :
    Calls Tryz.prog 9 #[.agg #[.int .i8 x1, .int .i8 y1, .int .i8 z1, .int .u8 b1], .int .i8 k] w fun e w' => e = .returned (.bool true) ∧ Below w.heap.size w w' := by
  have KN := Lib.hid kn
  have I1 := Lib.hid i1
  have S1 := Lib.hid s1
  clear kn i1 s1
  have k0 := Blk.fresh w #[.int .i8 x1, .int .i8 y1, .int .i8 z1, .int .u8 b1] 24
  have jb0 : Below w.heap.size w (w.alloc (Obj.cells #[.int .i8 x1, .int .i8 y1, .int .i8 z1, .int .u8 b1] 24)) := ((Below.refl _ _).alloc (Nat.le_refl _) _)
  have K0 := Lib.hid k0
  have B := Lib.hid jb0
  clear jb0 k0
  go_enter Tryz.func9, Tryz.ntmps9
  go_upto_region 1 with (fail)
  generalize (w.alloc (Obj.cells #[.int .i8 x1, .int .i8 y1, .int .i8 z1, .int .u8 b1] 24)) = W0 at *
  have c0_0 := K0.out.at_ 0 _ rfl
  have c0_1 := K0.out.at_ 1 _ rfl
  have c0_2 := K0.out.at_ 2 _ rfl
  have c0_3 := K0.out.at_ 3 _ rfl
  go_wp2_with (
   (first
    | (go_at_call 12; with_reducible refine (KN.out _ (baseI B.out)).mono ?_)
    | (go_at_call 14; with_reducible refine (I1.out _ (baseI B.out)).mono ?_)
    | (go_at_call 13; with_reducible refine (S1.out _ (baseI B.out)).mono ?_)
    | fail "arm"); rintro e wx ⟨rfl, q⟩; replace K0 := Lib.hid (K0.out.nearI q); replace B := Lib.hid (goI B.out q); clear q; replace c0_0 := K0.out.at_ 0 _ rfl; replace c0_1 := K0.out.at_ 1 _ rfl; replace c0_2 := K0.out.at_ 2 _ rfl; replace c0_3 := K0.out.at_ 3 _ rfl)
  go_ret
  exact ⟨rfl, B.out⟩

set_option maxRecDepth 100000 in
set_option maxHeartbeats 4000000 in
theorem multiples_k0 (x1 y1 z1 b1 p1 p2 p3 : Int) (w : World)
    (kn : ∀ W, Below w.heap.size w W → Calls Tryz.prog 12 #[] W fun e w' => e = .returned (.bool true) ∧ Below W.heap.size W w')
    (i1 : ∀ W, Below w.heap.size w W → Calls Tryz.prog 14 #[.agg #[.int .i8 x1, .int .i8 y1, .int .i8 z1, .int .u8 b1]] W fun e w' => e = .returned (.agg #[.int .i64 p1, .int .i64 p2, .int .i64 p3]) ∧ Below W.heap.size W w')
    (s1 : ∀ W, Below w.heap.size w W → Calls Tryz.prog 13 #[.agg #[.int .i64 p1, .int .i64 p2, .int .i64 p3]] W fun e w' => e = .returned (.bool false) ∧ Below W.heap.size W w') :
    Calls Tryz.prog 9 #[.agg #[.int .i8 x1, .int .i8 y1, .int .i8 z1, .int .u8 b1], .int .i8 0] w fun e w' => e = .returned (.bool true) ∧ Below w.heap.size w w' := by
  have KN := Lib.hid kn
  have I1 := Lib.hid i1
  have S1 := Lib.hid s1
  clear kn i1 s1
  have k0 := Blk.fresh w #[.int .i8 x1, .int .i8 y1, .int .i8 z1, .int .u8 b1] 24
  have jb0 : Below w.heap.size w (w.alloc (Obj.cells #[.int .i8 x1, .int .i8 y1, .int .i8 z1, .int .u8 b1] 24)) := ((Below.refl _ _).alloc (Nat.le_refl _) _)
  have K0 := Lib.hid k0
  have B := Lib.hid jb0
  clear jb0 k0
  go_enter Tryz.func9, Tryz.ntmps9
  go_upto_region 1 with (fail)
  generalize (w.alloc (Obj.cells #[.int .i8 x1, .int .i8 y1, .int .i8 z1, .int .u8 b1] 24)) = W0 at *
  have c0_0 := K0.out.at_ 0 _ rfl
  have c0_1 := K0.out.at_ 1 _ rfl
  have c0_2 := K0.out.at_ 2 _ rfl
  have c0_3 := K0.out.at_ 3 _ rfl
  go_wp2_with (
   (first
    | (go_at_call 12; with_reducible refine (KN.out _ (baseI B.out)).mono ?_)
    | (go_at_call 14; with_reducible refine (I1.out _ (baseI B.out)).mono ?_)
    | (go_at_call 13; with_reducible refine (S1.out _ (baseI B.out)).mono ?_)
    | fail "arm"); rintro e wx ⟨rfl, q⟩; replace K0 := Lib.hid (K0.out.nearI q); replace B := Lib.hid (goI B.out q); clear q; replace c0_0 := K0.out.at_ 0 _ rfl; replace c0_1 := K0.out.at_ 1 _ rfl; replace c0_2 := K0.out.at_ 2 _ rfl; replace c0_3 := K0.out.at_ 3 _ rfl)
  go_ret
  exact ⟨rfl, B.out⟩

set_option maxRecDepth 100000 in
set_option maxHeartbeats 20000000 in
theorem multiples_ok (x1 y1 z1 b1 k p1 p2 p3 n m : Int) (A1 A2 A3 C1 C2 C3 P1 P2 P3 R S : ByteArray) (v : Bool) (w : World)
    (hk : (k == 0) = false)
    (hw : IntKind.i64.wrap k = k)
    (kn : ∀ W, Below w.heap.size w W → Calls Tryz.prog 12 #[] W fun e w' => e = .returned (.bool true) ∧ Below W.heap.size W w')
    (i1 : ∀ W, Below w.heap.size w W → Calls Tryz.prog 14 #[.agg #[.int .i8 x1, .int .i8 y1, .int .i8 z1, .int .u8 b1]] W fun e w' => e = .returned (.agg #[.int .i64 p1, .int .i64 p2, .int .i64 p3]) ∧ Below W.heap.size W w')
    (s1 : ∀ W, Below w.heap.size w W → Calls Tryz.prog 13 #[.agg #[.int .i64 p1, .int .i64 p2, .int .i64 p3]] W fun e w' => e = .returned (.bool false) ∧ Below W.heap.size W w')
    (m1 : ∀ W, Below w.heap.size w W → Calls Tryz.prog 16 #[.agg #[.int .i8 x1, .int .i8 y1, .int .i8 z1, .int .u8 b1]] W fun e w' => e = .returned (.agg #[.string A1, .string A2, .string A3]) ∧ Below W.heap.size W w')
    (qu : ∀ W, Below w.heap.size w W → Calls Tryz.prog 26 #[.int .i64 k, .int .i64 2] W fun e w' => e = .returned (.string R) ∧ Below W.heap.size W w')
    (u1 : ∀ W, Below w.heap.size w W → Calls Tryz.prog 34 #[.string R, .string A1] W fun e w' => e = .returned (.string C1) ∧ Below W.heap.size W w')
    (u2 : ∀ W, Below w.heap.size w W → Calls Tryz.prog 34 #[.string R, .string A2] W fun e w' => e = .returned (.string C2) ∧ Below W.heap.size W w')
    (u3 : ∀ W, Below w.heap.size w W → Calls Tryz.prog 34 #[.string R, .string A3] W fun e w' => e = .returned (.string C3) ∧ Below W.heap.size W w')
    (o1 : ∀ W, Below w.heap.size w W → Calls Tryz.prog 18 #[.agg #[.string A1, .string A2, .string A3]] W fun e w' => e = .returned (.tuple #[.agg #[.string P1, .string P2, .string P3], .int .i64 0]) ∧ Below W.heap.size W w')
    (o2 : ∀ W, Below w.heap.size w W → Calls Tryz.prog 18 #[.agg #[.string C1, .string C2, .string C3]] W fun e w' => e = .returned (.tuple #[.agg #[.string P1, .string P2, .string P3], .int .i64 0]) ∧ Below W.heap.size W w')
    (o3 : ∀ W, Below w.heap.size w W → Calls Tryz.prog 18 #[.agg #[.string P1, .string P2, .string P3]] W fun e w' => e = .returned (.tuple #[.agg #[.string P1, .string P2, .string P3], .int .i64 0]) ∧ Below W.heap.size W w')
    (o4 : ∀ W, Below w.heap.size w W → Calls Tryz.prog 19 #[.agg #[.string A1, .string A2, .string A3], .agg #[.string C1, .string C2, .string C3]] W fun e w' => e = .returned (.tuple #[.bool true, .int .i64 0]) ∧ Below W.heap.size W w')
    (o5 : ∀ W, Below w.heap.size w W → Calls Tryz.prog 31 #[.agg #[.string A1, .string A2, .string A3]] W fun e w' => e = .returned (.tuple #[.int .i64 n, .int .i64 m]) ∧ Below W.heap.size W w')
    (o6 : ∀ W, Below w.heap.size w W → Calls Tryz.prog 31 #[.agg #[.string P1, .string P2, .string P3]] W fun e w' => e = .returned (.tuple #[.int .i64 n, .int .i64 m]) ∧ Below W.heap.size W w')
    (o7 : ∀ W, Below w.heap.size w W → Calls Tryz.prog 35 #[.agg #[.string C1, .string C2, .string C3]] W fun e w' => e = .returned (.tuple #[.string S, .bool v, .int .i64 0]) ∧ Below W.heap.size W w')
    (o8 : ∀ W, Below w.heap.size w W → Calls Tryz.prog 35 #[.agg #[.string P1, .string P2, .string P3]] W fun e w' => e = .returned (.tuple #[.string S, .bool v, .int .i64 0]) ∧ Below W.heap.size W w') :
    Calls Tryz.prog 9 #[.agg #[.int .i8 x1, .int .i8 y1, .int .i8 z1, .int .u8 b1], .int .i8 k] w fun e w' => e = .returned (.bool true) ∧ Below w.heap.size w w' := by
  have KN := Lib.hid kn
  have I1 := Lib.hid i1
  have S1 := Lib.hid s1
  have M1 := Lib.hid m1
  have QU := Lib.hid qu
  have U1 := Lib.hid u1
  have U2 := Lib.hid u2
  have U3 := Lib.hid u3
  have O1 := Lib.hid o1
  have O2 := Lib.hid o2
  have O3 := Lib.hid o3
  have O4 := Lib.hid o4
  have O5 := Lib.hid o5
  have O6 := Lib.hid o6
  have O7 := Lib.hid o7
  have O8 := Lib.hid o8
  clear kn i1 s1 m1 qu u1 u2 u3 o1 o2 o3 o4 o5 o6 o7 o8
  have k0 := Blk.fresh w #[.int .i8 x1, .int .i8 y1, .int .i8 z1, .int .u8 b1] 24
  have jb0 : Below w.heap.size w (w.alloc (Obj.cells #[.int .i8 x1, .int .i8 y1, .int .i8 z1, .int .u8 b1] 24)) := ((Below.refl _ _).alloc (Nat.le_refl _) _)
  have K0 := Lib.hid k0
  have B := Lib.hid jb0
  clear jb0 k0
  go_enter Tryz.func9, Tryz.ntmps9
  go_upto_region 1 with (fail)
  generalize (w.alloc (Obj.cells #[.int .i8 x1, .int .i8 y1, .int .i8 z1, .int .u8 b1] 24)) = W0 at *
  have c0_0 := K0.out.at_ 0 _ rfl
  have c0_1 := K0.out.at_ 1 _ rfl
  have c0_2 := K0.out.at_ 2 _ rfl
  have c0_3 := K0.out.at_ 3 _ rfl
  go_upto_region 3 with (
   (first
    | (go_at_call 12; with_reducible refine (KN.out _ (baseI B.out)).mono ?_)
    | (go_at_call 14; with_reducible refine (I1.out _ (baseI B.out)).mono ?_)
    | (go_at_call 13; with_reducible refine (S1.out _ (baseI B.out)).mono ?_)
    | fail "arm"); rintro e wx ⟨rfl, q⟩; replace K0 := Lib.hid (K0.out.nearI q); replace B := Lib.hid (goI B.out q); clear q; replace c0_0 := K0.out.at_ 0 _ rfl; replace c0_1 := K0.out.at_ 1 _ rfl; replace c0_2 := K0.out.at_ 2 _ rfl; replace c0_3 := K0.out.at_ 3 _ rfl)
  go_upto_region 4 with (
   (first
    | (go_at_call 16; with_reducible refine (M1.out _ (baseI B.out)).mono ?_)
    | fail "arm"); rintro e wx ⟨rfl, q⟩; replace K0 := Lib.hid (K0.out.nearI q); replace B := Lib.hid (goI B.out q); clear q; replace c0_0 := K0.out.at_ 0 _ rfl; replace c0_1 := K0.out.at_ 1 _ rfl; replace c0_2 := K0.out.at_ 2 _ rfl; replace c0_3 := K0.out.at_ 3 _ rfl)
  have n1 := Blk.fresh wx #[.string A1, .string A2, .string A3] 34
  replace K0 := Lib.hid (K0.out.alloc (Obj.cells #[.string A1, .string A2, .string A3] 34))
  replace B := Lib.hid (B.out.trans ((below_new wx (Obj.cells #[.string A1, .string A2, .string A3] 34)).mono B.out.size))
  generalize wx.alloc (Obj.cells #[.string A1, .string A2, .string A3] 34) = wl1 at *
  generalize wx.heap.size = gl1 at *
  have K1 := Lib.hid n1
  clear n1
  replace c0_0 := K0.out.at_ 0 _ rfl
  replace c0_1 := K0.out.at_ 1 _ rfl
  replace c0_2 := K0.out.at_ 2 _ rfl
  replace c0_3 := K0.out.at_ 3 _ rfl
  have c1_0 := K1.out.at_ 0 _ rfl
  have c1_1 := K1.out.at_ 1 _ rfl
  have c1_2 := K1.out.at_ 2 _ rfl
  go_upto_region 5 with (
   (first
    | (go_at_call 26; with_reducible refine (QU.out _ (baseI B.out)).mono ?_)
    | fail "arm"); rintro e wx ⟨rfl, q⟩; replace K0 := Lib.hid (K0.out.nearI q); replace K1 := Lib.hid (K1.out.nearI q); replace B := Lib.hid (goI B.out q); clear q; replace c0_0 := K0.out.at_ 0 _ rfl; replace c0_1 := K0.out.at_ 1 _ rfl; replace c0_2 := K0.out.at_ 2 _ rfl; replace c0_3 := K0.out.at_ 3 _ rfl; replace c1_0 := K1.out.at_ 0 _ rfl; replace c1_1 := K1.out.at_ 1 _ rfl; replace c1_2 := K1.out.at_ 2 _ rfl)
  clear c0_0 c0_1 c0_2 c0_3 c1_0 c1_1 c1_2
  refine wp_region_par (by kernel_rfl) [39, 40, 41, 42, 43, 44, 45, 46, 47, 48, 49, 50, 51, 7] (fun L σ W => Vals [some 39, some 40, some 41, some 42, some 43, some 44, some 45, some 46, some 47, some 48, some 49, some 50, some 51, none, none] [(.string R), (.pointer (some ⟨gl1, 0, none⟩)), (.string A1), (.string C1), (.string R), (.pointer (some ⟨gl1, 1, none⟩)), (.string A2), (.string C2), (.string R), (.pointer (some ⟨gl1, 2, none⟩)), (.string A3), (.string C3), (.agg #[.string C1, .string C2, .string C3]), undef, undef] L σ ∧ (L 13 → ∃ (g : Nat) (jy0 jy1 jy2 : Value), σ 7 = .pointer (some ⟨g, 0, none⟩) ∧ w.heap.size ≤ g ∧ Blk W g #[jy0, jy1, jy2] 34 ∧ (L 14 → #[jy0, jy1, jy2] = #[.string C1, .string C2, .string C3]) ∧ w.heap.size ≠ g ∧ gl1 ≠ g) ∧ (L 14 → L 13) ∧ Blk W (w.heap.size) #[.int .i8 x1, .int .i8 y1, .int .i8 z1, .int .u8 b1] 24 ∧ Blk W (gl1) #[.string A1, .string A2, .string A3] 34 ∧ Below w.heap.size w W) (by kernel_rfl) (by kernel_rfl) (by kernel_rfl) ?_ ?_ ?_
  · exact fun σ => ⟨Vals.start, fun h => h.elim, fun h => h.elim, K0.out.below (Below.refl _ _).drew, K1.out.below (Below.refl _ _).drew, B.out.drew⟩
  · refine ⟨?_, ?_, ?_, ?_, ?_, ?_, ?_, ?_, ?_, ?_, ?_, ?_, ?_, ?_, ?_, trivial⟩
    · rintro L a W ho ⟨V, jf13, js14, jb0, jb1, bb⟩ hn hd K hK
      clear hd
      refine Wants.free rfl ?_
      have jr6 : a.tmps[(6 : Nat)]?.getD undef = .string R := ho.slot 6 rfl
      go_simp
      exact hK.out (.string R) _ ⟨V.set 0 _ _ rfl rfl rfl, fun h => (by obtain ⟨jg, ju0, ju1, ju2, je1, je2, je3, je4, jne0, jne1⟩ := old jf13 rfl h; exact ⟨jg, _, _, _, je1, je2, je3, fun h => je4 (h.resolve_right (by decide)), jne0, jne1⟩), fun h => .inl (old js14 rfl h), jb0, jb1, bb⟩
    · rintro L a W ho ⟨V, jf13, js14, jb0, jb1, bb⟩ hn hd K hK
      clear hd
      refine Wants.free rfl ?_
      have jr5 : a.tmps[(5 : Nat)]?.getD undef = .pointer (some ⟨gl1, 0, none⟩) := ho.slot 5 rfl
      go_simp
      exact hK.out (.pointer (some ⟨gl1, 0, none⟩)) _ ⟨V.set 1 _ _ rfl rfl rfl, fun h => (by obtain ⟨jg, ju0, ju1, ju2, je1, je2, je3, je4, jne0, jne1⟩ := old jf13 rfl h; exact ⟨jg, _, _, _, je1, je2, je3, fun h => je4 (h.resolve_right (by decide)), jne0, jne1⟩), fun h => .inl (old js14 rfl h), jb0, jb1, bb⟩
    · rintro L a W ho ⟨V, jf13, js14, jb0, jb1, bb⟩ hn hd K hK
      have jh1 := hd.get 1 rfl
      clear hd
      refine Wants.free rfl ?_
      have jr40 := V.read 1 rfl rfl jh1
      have jc0 := jb1.at_ 0 _ rfl
      go_simp
      exact hK.out (.string A1) _ ⟨V.set 2 _ _ rfl rfl rfl, fun h => (by obtain ⟨jg, ju0, ju1, ju2, je1, je2, je3, je4, jne0, jne1⟩ := old jf13 rfl h; exact ⟨jg, _, _, _, je1, je2, je3, fun h => je4 (h.resolve_right (by decide)), jne0, jne1⟩), fun h => .inl (old js14 rfl h), jb0, jb1, bb⟩
    · rintro L a W ho ⟨V, jf13, js14, jb0, jb1, bb⟩ hn hd K hK
      have jh0 := hd.get 0 rfl
      have jh2 := hd.get 2 rfl
      clear hd
      refine Wants.free rfl ?_
      have jr39 := V.read 0 rfl rfl jh0
      have jr41 := V.read 2 rfl rfl jh2
      go_simp
      go_at_call 34
      with_reducible refine (U1.out _ bb).mono ?_
      rintro e wx ⟨rfl, q⟩
      go_simp
      exact hK.out (.string C1) _ ⟨V.set 3 _ _ rfl rfl rfl, fun h => (by obtain ⟨jg, ju0, ju1, ju2, je1, je2, je3, je4, jne0, jne1⟩ := old jf13 rfl h; exact ⟨jg, _, _, _, je1, je2, je3.below q, fun h => je4 (h.resolve_right (by decide)), jne0, jne1⟩), fun h => .inl (old js14 rfl h), jb0.below q, jb1.below q, bb.trans (q.mono bb.size)⟩
    · rintro L a W ho ⟨V, jf13, js14, jb0, jb1, bb⟩ hn hd K hK
      clear hd
      refine Wants.free rfl ?_
      have jr6 : a.tmps[(6 : Nat)]?.getD undef = .string R := ho.slot 6 rfl
      go_simp
      exact hK.out (.string R) _ ⟨V.set 4 _ _ rfl rfl rfl, fun h => (by obtain ⟨jg, ju0, ju1, ju2, je1, je2, je3, je4, jne0, jne1⟩ := old jf13 rfl h; exact ⟨jg, _, _, _, je1, je2, je3, fun h => je4 (h.resolve_right (by decide)), jne0, jne1⟩), fun h => .inl (old js14 rfl h), jb0, jb1, bb⟩
    · rintro L a W ho ⟨V, jf13, js14, jb0, jb1, bb⟩ hn hd K hK
      clear hd
      refine Wants.free rfl ?_
      have jr5 : a.tmps[(5 : Nat)]?.getD undef = .pointer (some ⟨gl1, 0, none⟩) := ho.slot 5 rfl
      go_simp
      exact hK.out (.pointer (some ⟨gl1, 1, none⟩)) _ ⟨V.set 5 _ _ rfl rfl rfl, fun h => (by obtain ⟨jg, ju0, ju1, ju2, je1, je2, je3, je4, jne0, jne1⟩ := old jf13 rfl h; exact ⟨jg, _, _, _, je1, je2, je3, fun h => je4 (h.resolve_right (by decide)), jne0, jne1⟩), fun h => .inl (old js14 rfl h), jb0, jb1, bb⟩
    · rintro L a W ho ⟨V, jf13, js14, jb0, jb1, bb⟩ hn hd K hK
      have jh5 := hd.get 5 rfl
      clear hd
      refine Wants.free rfl ?_
      have jr44 := V.read 5 rfl rfl jh5
      have jc1 := jb1.at_ 1 _ rfl
      go_simp
      exact hK.out (.string A2) _ ⟨V.set 6 _ _ rfl rfl rfl, fun h => (by obtain ⟨jg, ju0, ju1, ju2, je1, je2, je3, je4, jne0, jne1⟩ := old jf13 rfl h; exact ⟨jg, _, _, _, je1, je2, je3, fun h => je4 (h.resolve_right (by decide)), jne0, jne1⟩), fun h => .inl (old js14 rfl h), jb0, jb1, bb⟩
    · rintro L a W ho ⟨V, jf13, js14, jb0, jb1, bb⟩ hn hd K hK
      have jh4 := hd.get 4 rfl
      have jh6 := hd.get 6 rfl
      clear hd
      refine Wants.free rfl ?_
      have jr43 := V.read 4 rfl rfl jh4
      have jr45 := V.read 6 rfl rfl jh6
      go_simp
      go_at_call 34
      with_reducible refine (U2.out _ bb).mono ?_
      rintro e wx ⟨rfl, q⟩
      go_simp
      exact hK.out (.string C2) _ ⟨V.set 7 _ _ rfl rfl rfl, fun h => (by obtain ⟨jg, ju0, ju1, ju2, je1, je2, je3, je4, jne0, jne1⟩ := old jf13 rfl h; exact ⟨jg, _, _, _, je1, je2, je3.below q, fun h => je4 (h.resolve_right (by decide)), jne0, jne1⟩), fun h => .inl (old js14 rfl h), jb0.below q, jb1.below q, bb.trans (q.mono bb.size)⟩
    · rintro L a W ho ⟨V, jf13, js14, jb0, jb1, bb⟩ hn hd K hK
      clear hd
      refine Wants.free rfl ?_
      have jr6 : a.tmps[(6 : Nat)]?.getD undef = .string R := ho.slot 6 rfl
      go_simp
      exact hK.out (.string R) _ ⟨V.set 8 _ _ rfl rfl rfl, fun h => (by obtain ⟨jg, ju0, ju1, ju2, je1, je2, je3, je4, jne0, jne1⟩ := old jf13 rfl h; exact ⟨jg, _, _, _, je1, je2, je3, fun h => je4 (h.resolve_right (by decide)), jne0, jne1⟩), fun h => .inl (old js14 rfl h), jb0, jb1, bb⟩
    · rintro L a W ho ⟨V, jf13, js14, jb0, jb1, bb⟩ hn hd K hK
      clear hd
      refine Wants.free rfl ?_
      have jr5 : a.tmps[(5 : Nat)]?.getD undef = .pointer (some ⟨gl1, 0, none⟩) := ho.slot 5 rfl
      go_simp
      exact hK.out (.pointer (some ⟨gl1, 2, none⟩)) _ ⟨V.set 9 _ _ rfl rfl rfl, fun h => (by obtain ⟨jg, ju0, ju1, ju2, je1, je2, je3, je4, jne0, jne1⟩ := old jf13 rfl h; exact ⟨jg, _, _, _, je1, je2, je3, fun h => je4 (h.resolve_right (by decide)), jne0, jne1⟩), fun h => .inl (old js14 rfl h), jb0, jb1, bb⟩
    · rintro L a W ho ⟨V, jf13, js14, jb0, jb1, bb⟩ hn hd K hK
      have jh9 := hd.get 9 rfl
      clear hd
      refine Wants.free rfl ?_
      have jr48 := V.read 9 rfl rfl jh9
      have jc2 := jb1.at_ 2 _ rfl
      go_simp
      exact hK.out (.string A3) _ ⟨V.set 10 _ _ rfl rfl rfl, fun h => (by obtain ⟨jg, ju0, ju1, ju2, je1, je2, je3, je4, jne0, jne1⟩ := old jf13 rfl h; exact ⟨jg, _, _, _, je1, je2, je3, fun h => je4 (h.resolve_right (by decide)), jne0, jne1⟩), fun h => .inl (old js14 rfl h), jb0, jb1, bb⟩
    · rintro L a W ho ⟨V, jf13, js14, jb0, jb1, bb⟩ hn hd K hK
      have jh8 := hd.get 8 rfl
      have jh10 := hd.get 10 rfl
      clear hd
      refine Wants.free rfl ?_
      have jr47 := V.read 8 rfl rfl jh8
      have jr49 := V.read 10 rfl rfl jh10
      go_simp
      go_at_call 34
      with_reducible refine (U3.out _ bb).mono ?_
      rintro e wx ⟨rfl, q⟩
      go_simp
      exact hK.out (.string C3) _ ⟨V.set 11 _ _ rfl rfl rfl, fun h => (by obtain ⟨jg, ju0, ju1, ju2, je1, je2, je3, je4, jne0, jne1⟩ := old jf13 rfl h; exact ⟨jg, _, _, _, je1, je2, je3.below q, fun h => je4 (h.resolve_right (by decide)), jne0, jne1⟩), fun h => .inl (old js14 rfl h), jb0.below q, jb1.below q, bb.trans (q.mono bb.size)⟩
    · rintro L a W ho ⟨V, jf13, js14, jb0, jb1, bb⟩ hn hd K hK
      have jh3 := hd.get 3 rfl
      have jh7 := hd.get 7 rfl
      have jh11 := hd.get 11 rfl
      clear hd
      refine Wants.free rfl ?_
      have jr42 := V.read 3 rfl rfl jh3
      have jr46 := V.read 7 rfl rfl jh7
      have jr50 := V.read 11 rfl rfl jh11
      go_simp
      exact hK.out (.agg #[.string C1, .string C2, .string C3]) _ ⟨V.set 12 _ _ rfl rfl rfl, fun h => (by obtain ⟨jg, ju0, ju1, ju2, je1, je2, je3, je4, jne0, jne1⟩ := old jf13 rfl h; exact ⟨jg, _, _, _, je1, je2, je3, fun h => je4 (h.resolve_right (by decide)), jne0, jne1⟩), fun h => .inl (old js14 rfl h), jb0, jb1, bb⟩
    · rintro L a W ho ⟨V, jf13, js14, jb0, jb1, bb⟩ hn hd K hK
      clear hd
      refine Wants.free rfl ?_
      go_simp
      exact hK.out (.pointer (some ⟨W.heap.size, 0, none⟩)) _ ⟨V.apart 13 _ _ rfl rfl, fun _ => ⟨W.heap.size, .string ⟨#[]⟩, .string ⟨#[]⟩, .string ⟨#[]⟩, rfl, bb.size, Blk.fresh W #[.string ⟨#[]⟩, .string ⟨#[]⟩, .string ⟨#[]⟩] 34, fun h => absurd (old js14 rfl h) hn, (Nat.ne_of_lt jb0.lt), (Nat.ne_of_lt jb1.lt)⟩, fun h => .inl (old js14 rfl h), jb0.alloc (Obj.cells #[.string ⟨#[]⟩, .string ⟨#[]⟩, .string ⟨#[]⟩] 34), jb1.alloc (Obj.cells #[.string ⟨#[]⟩, .string ⟨#[]⟩, .string ⟨#[]⟩] 34), bb.trans ((below_new W (Obj.cells #[.string ⟨#[]⟩, .string ⟨#[]⟩, .string ⟨#[]⟩] 34)).mono bb.size)⟩
    · rintro L a W ho ⟨V, jf13, js14, jb0, jb1, bb⟩ hn hd K hK
      have jh13 := hd.get 13 rfl
      have jh12 := hd.get 12 rfl
      clear hd
      refine Wants.free rfl ?_
      have jr51 := V.read 12 rfl rfl jh12
      obtain ⟨jg, jy0, jy1, jy2, je1, je2, je3, je4, jne0, jne1⟩ := jf13 jh13
      have jr7 : a.tmps[(7 : Nat)]?.getD undef = .pointer (some ⟨jg, 0, none⟩) := je1
      have jc0 := je3.at_ 0 _ rfl
      have jz0 := je3.free 0
      have jc1 := je3.at_ 1 _ rfl
      have jz1 := je3.free 1
      have jc2 := je3.at_ 2 _ rfl
      have jz2 := je3.free 2
      go_simp
      exact hK.out (undef) _ ⟨V.same 14 _ rfl, fun _ => ⟨jg, .string C1, .string C2, .string C3, je1, je2, je3.set3 (.string C1) (.string C2) (.string C3), fun _ => rfl, jne0, jne1⟩, fun _ => .inl jh13, jb0.else3 jne0 (.string C1) (.string C2) (.string C3), jb1.else3 jne1 (.string C1) (.string C2) (.string C3), bb.trans (below_else3 W w.heap.size jg je2 (.string C1) (.string C2) (.string C3))⟩
  rintro L σ W ⟨V, jf13, js14, jb0, jb1, bb⟩ hL
  have jf0 := V 0 _ _ rfl rfl (hL 0 (by decide))
  have jf1 := V 1 _ _ rfl rfl (hL 1 (by decide))
  have jf2 := V 2 _ _ rfl rfl (hL 2 (by decide))
  have jf3 := V 3 _ _ rfl rfl (hL 3 (by decide))
  have jf4 := V 4 _ _ rfl rfl (hL 4 (by decide))
  have jf5 := V 5 _ _ rfl rfl (hL 5 (by decide))
  have jf6 := V 6 _ _ rfl rfl (hL 6 (by decide))
  have jf7 := V 7 _ _ rfl rfl (hL 7 (by decide))
  have jf8 := V 8 _ _ rfl rfl (hL 8 (by decide))
  have jf9 := V 9 _ _ rfl rfl (hL 9 (by decide))
  have jf10 := V 10 _ _ rfl rfl (hL 10 (by decide))
  have jf11 := V 11 _ _ rfl rfl (hL 11 (by decide))
  have jf12 := V 12 _ _ rfl rfl (hL 12 (by decide))
  clear V
  obtain ⟨g5_13, jy13_0, jy13_1, jy13_2, jf13, jl13, jv13, je13, jne13_0, jne13_1⟩ := jf13 (hL 13 (by decide))
  rw [je13 (hL 14 (by decide))] at jv13
  clear je13 jne13_0 jne13_1
  clear hL js14
  rw [show List.map σ [39, 40, 41, 42, 43, 44, 45, 46, 47, 48, 49, 50, 51, 7] = [σ 39, σ 40, σ 41, σ 42, σ 43, σ 44, σ 45, σ 46, σ 47, σ 48, σ 49, σ 50, σ 51, σ 7] from rfl, jf0, jf1, jf2, jf3, jf4, jf5, jf6, jf7, jf8, jf9, jf10, jf11, jf12, jf13]
  clear jf0 jf1 jf2 jf3 jf4 jf5 jf6 jf7 jf8 jf9 jf10 jf11 jf12 jf13
  simp only [putAll, List.map, Act.put, List.setIfInBounds_toArray, List.set_cons_succ, List.set_cons_zero]
  replace K0 := Lib.hid jb0
  replace K1 := Lib.hid jb1
  have K2 := Lib.hid jv13
  replace B := Lib.hid bb
  clear bb jb0 jb1 jv13 jl13
  have c0_0 := K0.out.at_ 0 _ rfl
  have c0_1 := K0.out.at_ 1 _ rfl
  have c0_2 := K0.out.at_ 2 _ rfl
  have c0_3 := K0.out.at_ 3 _ rfl
  have c1_0 := K1.out.at_ 0 _ rfl
  have c1_1 := K1.out.at_ 1 _ rfl
  have c1_2 := K1.out.at_ 2 _ rfl
  have c2_0 := K2.out.at_ 0 _ rfl
  have c2_1 := K2.out.at_ 1 _ rfl
  have c2_2 := K2.out.at_ 2 _ rfl
  go_upto_region 7 with (
   (first
    | (go_at_call 18; with_reducible refine (O1.out _ (baseI B.out)).mono ?_)
    | fail "arm"); rintro e wx ⟨rfl, q⟩; replace K0 := Lib.hid (K0.out.nearI q); replace K1 := Lib.hid (K1.out.nearI q); replace K2 := Lib.hid (K2.out.nearI q); replace B := Lib.hid (goI B.out q); clear q; replace c0_0 := K0.out.at_ 0 _ rfl; replace c0_1 := K0.out.at_ 1 _ rfl; replace c0_2 := K0.out.at_ 2 _ rfl; replace c0_3 := K0.out.at_ 3 _ rfl; replace c1_0 := K1.out.at_ 0 _ rfl; replace c1_1 := K1.out.at_ 1 _ rfl; replace c1_2 := K1.out.at_ 2 _ rfl; replace c2_0 := K2.out.at_ 0 _ rfl; replace c2_1 := K2.out.at_ 1 _ rfl; replace c2_2 := K2.out.at_ 2 _ rfl)
  have n3 := Blk.fresh wx #[.string P1, .string P2, .string P3] 34
  replace K0 := Lib.hid (K0.out.alloc (Obj.cells #[.string P1, .string P2, .string P3] 34))
  replace K1 := Lib.hid (K1.out.alloc (Obj.cells #[.string P1, .string P2, .string P3] 34))
  replace K2 := Lib.hid (K2.out.alloc (Obj.cells #[.string P1, .string P2, .string P3] 34))
  replace B := Lib.hid (B.out.trans ((below_new wx (Obj.cells #[.string P1, .string P2, .string P3] 34)).mono B.out.size))
  generalize wx.alloc (Obj.cells #[.string P1, .string P2, .string P3] 34) = wl3 at *
  generalize wx.heap.size = gl3 at *
  have K3 := Lib.hid n3
  clear n3
  replace c0_0 := K0.out.at_ 0 _ rfl
  replace c0_1 := K0.out.at_ 1 _ rfl
  replace c0_2 := K0.out.at_ 2 _ rfl
  replace c0_3 := K0.out.at_ 3 _ rfl
  replace c1_0 := K1.out.at_ 0 _ rfl
  replace c1_1 := K1.out.at_ 1 _ rfl
  replace c1_2 := K1.out.at_ 2 _ rfl
  replace c2_0 := K2.out.at_ 0 _ rfl
  replace c2_1 := K2.out.at_ 1 _ rfl
  replace c2_2 := K2.out.at_ 2 _ rfl
  have c3_0 := K3.out.at_ 0 _ rfl
  have c3_1 := K3.out.at_ 1 _ rfl
  have c3_2 := K3.out.at_ 2 _ rfl
  go_upto_region 8 with (
   (first
    | (go_at_call 18; with_reducible refine (O2.out _ (baseI B.out)).mono ?_)
    | fail "arm"); rintro e wx ⟨rfl, q⟩; replace K0 := Lib.hid (K0.out.nearI q); replace K1 := Lib.hid (K1.out.nearI q); replace K2 := Lib.hid (K2.out.nearI q); replace K3 := Lib.hid (K3.out.nearI q); replace B := Lib.hid (goI B.out q); clear q; replace c0_0 := K0.out.at_ 0 _ rfl; replace c0_1 := K0.out.at_ 1 _ rfl; replace c0_2 := K0.out.at_ 2 _ rfl; replace c0_3 := K0.out.at_ 3 _ rfl; replace c1_0 := K1.out.at_ 0 _ rfl; replace c1_1 := K1.out.at_ 1 _ rfl; replace c1_2 := K1.out.at_ 2 _ rfl; replace c2_0 := K2.out.at_ 0 _ rfl; replace c2_1 := K2.out.at_ 1 _ rfl; replace c2_2 := K2.out.at_ 2 _ rfl; replace c3_0 := K3.out.at_ 0 _ rfl; replace c3_1 := K3.out.at_ 1 _ rfl; replace c3_2 := K3.out.at_ 2 _ rfl)
  have n4 := Blk.fresh wx #[.string P1, .string P2, .string P3] 34
  replace K0 := Lib.hid (K0.out.alloc (Obj.cells #[.string P1, .string P2, .string P3] 34))
  replace K1 := Lib.hid (K1.out.alloc (Obj.cells #[.string P1, .string P2, .string P3] 34))
  replace K2 := Lib.hid (K2.out.alloc (Obj.cells #[.string P1, .string P2, .string P3] 34))
  replace K3 := Lib.hid (K3.out.alloc (Obj.cells #[.string P1, .string P2, .string P3] 34))
  replace B := Lib.hid (B.out.trans ((below_new wx (Obj.cells #[.string P1, .string P2, .string P3] 34)).mono B.out.size))
  generalize wx.alloc (Obj.cells #[.string P1, .string P2, .string P3] 34) = wl4 at *
  generalize wx.heap.size = gl4 at *
  have K4 := Lib.hid n4
  clear n4
  replace c0_0 := K0.out.at_ 0 _ rfl
  replace c0_1 := K0.out.at_ 1 _ rfl
  replace c0_2 := K0.out.at_ 2 _ rfl
  replace c0_3 := K0.out.at_ 3 _ rfl
  replace c1_0 := K1.out.at_ 0 _ rfl
  replace c1_1 := K1.out.at_ 1 _ rfl
  replace c1_2 := K1.out.at_ 2 _ rfl
  replace c2_0 := K2.out.at_ 0 _ rfl
  replace c2_1 := K2.out.at_ 1 _ rfl
  replace c2_2 := K2.out.at_ 2 _ rfl
  replace c3_0 := K3.out.at_ 0 _ rfl
  replace c3_1 := K3.out.at_ 1 _ rfl
  replace c3_2 := K3.out.at_ 2 _ rfl
  have c4_0 := K4.out.at_ 0 _ rfl
  have c4_1 := K4.out.at_ 1 _ rfl
  have c4_2 := K4.out.at_ 2 _ rfl
  go_upto_region 9 with (
   (first
    | (go_at_call 18; with_reducible refine (O3.out _ (baseI B.out)).mono ?_)
    | fail "arm"); rintro e wx ⟨rfl, q⟩; replace K0 := Lib.hid (K0.out.nearI q); replace K1 := Lib.hid (K1.out.nearI q); replace K2 := Lib.hid (K2.out.nearI q); replace K3 := Lib.hid (K3.out.nearI q); replace K4 := Lib.hid (K4.out.nearI q); replace B := Lib.hid (goI B.out q); clear q; replace c0_0 := K0.out.at_ 0 _ rfl; replace c0_1 := K0.out.at_ 1 _ rfl; replace c0_2 := K0.out.at_ 2 _ rfl; replace c0_3 := K0.out.at_ 3 _ rfl; replace c1_0 := K1.out.at_ 0 _ rfl; replace c1_1 := K1.out.at_ 1 _ rfl; replace c1_2 := K1.out.at_ 2 _ rfl; replace c2_0 := K2.out.at_ 0 _ rfl; replace c2_1 := K2.out.at_ 1 _ rfl; replace c2_2 := K2.out.at_ 2 _ rfl; replace c3_0 := K3.out.at_ 0 _ rfl; replace c3_1 := K3.out.at_ 1 _ rfl; replace c3_2 := K3.out.at_ 2 _ rfl; replace c4_0 := K4.out.at_ 0 _ rfl; replace c4_1 := K4.out.at_ 1 _ rfl; replace c4_2 := K4.out.at_ 2 _ rfl)
  have n5 := Blk.fresh wx #[.string P1, .string P2, .string P3] 34
  replace K0 := Lib.hid (K0.out.alloc (Obj.cells #[.string P1, .string P2, .string P3] 34))
  replace K1 := Lib.hid (K1.out.alloc (Obj.cells #[.string P1, .string P2, .string P3] 34))
  replace K2 := Lib.hid (K2.out.alloc (Obj.cells #[.string P1, .string P2, .string P3] 34))
  replace K3 := Lib.hid (K3.out.alloc (Obj.cells #[.string P1, .string P2, .string P3] 34))
  replace K4 := Lib.hid (K4.out.alloc (Obj.cells #[.string P1, .string P2, .string P3] 34))
  replace B := Lib.hid (B.out.trans ((below_new wx (Obj.cells #[.string P1, .string P2, .string P3] 34)).mono B.out.size))
  generalize wx.alloc (Obj.cells #[.string P1, .string P2, .string P3] 34) = wl5 at *
  generalize wx.heap.size = gl5 at *
  have K5 := Lib.hid n5
  clear n5
  replace c0_0 := K0.out.at_ 0 _ rfl
  replace c0_1 := K0.out.at_ 1 _ rfl
  replace c0_2 := K0.out.at_ 2 _ rfl
  replace c0_3 := K0.out.at_ 3 _ rfl
  replace c1_0 := K1.out.at_ 0 _ rfl
  replace c1_1 := K1.out.at_ 1 _ rfl
  replace c1_2 := K1.out.at_ 2 _ rfl
  replace c2_0 := K2.out.at_ 0 _ rfl
  replace c2_1 := K2.out.at_ 1 _ rfl
  replace c2_2 := K2.out.at_ 2 _ rfl
  replace c3_0 := K3.out.at_ 0 _ rfl
  replace c3_1 := K3.out.at_ 1 _ rfl
  replace c3_2 := K3.out.at_ 2 _ rfl
  replace c4_0 := K4.out.at_ 0 _ rfl
  replace c4_1 := K4.out.at_ 1 _ rfl
  replace c4_2 := K4.out.at_ 2 _ rfl
  have c5_0 := K5.out.at_ 0 _ rfl
  have c5_1 := K5.out.at_ 1 _ rfl
  have c5_2 := K5.out.at_ 2 _ rfl
  go_wp2_with (
   (first
    | (go_at_call 19; with_reducible refine (O4.out _ (baseI B.out)).mono ?_)
    | (go_at_call 31; with_reducible refine (O5.out _ (baseI B.out)).mono ?_)
    | (go_at_call 31; with_reducible refine (O6.out _ (baseI B.out)).mono ?_)
    | (go_at_call 35; with_reducible refine (O7.out _ (baseI B.out)).mono ?_)
    | (go_at_call 35; with_reducible refine (O8.out _ (baseI B.out)).mono ?_)
    | fail "arm"); rintro e wx ⟨rfl, q⟩; replace K0 := Lib.hid (K0.out.nearI q); replace K1 := Lib.hid (K1.out.nearI q); replace K2 := Lib.hid (K2.out.nearI q); replace K3 := Lib.hid (K3.out.nearI q); replace K4 := Lib.hid (K4.out.nearI q); replace K5 := Lib.hid (K5.out.nearI q); replace B := Lib.hid (goI B.out q); clear q; replace c0_0 := K0.out.at_ 0 _ rfl; replace c0_1 := K0.out.at_ 1 _ rfl; replace c0_2 := K0.out.at_ 2 _ rfl; replace c0_3 := K0.out.at_ 3 _ rfl; replace c1_0 := K1.out.at_ 0 _ rfl; replace c1_1 := K1.out.at_ 1 _ rfl; replace c1_2 := K1.out.at_ 2 _ rfl; replace c2_0 := K2.out.at_ 0 _ rfl; replace c2_1 := K2.out.at_ 1 _ rfl; replace c2_2 := K2.out.at_ 2 _ rfl; replace c3_0 := K3.out.at_ 0 _ rfl; replace c3_1 := K3.out.at_ 1 _ rfl; replace c3_2 := K3.out.at_ 2 _ rfl; replace c4_0 := K4.out.at_ 0 _ rfl; replace c4_1 := K4.out.at_ 1 _ rfl; replace c4_2 := K4.out.at_ 2 _ rfl; replace c5_0 := K5.out.at_ 0 _ rfl; replace c5_1 := K5.out.at_ 1 _ rfl; replace c5_2 := K5.out.at_ 2 _ rfl)
  go_ret
  exact ⟨rfl, B.out⟩

end Go.Proofs.YtajkeoapfkkjbaaGreatDoor
