/- The walks of klippelaw42 and its references: vectors, planes, the examples. -/
import Derived.Test.YtopilnlniidejaaGreatDoorShelf
import Derived.Test.YtopilnlniidejaaGreatDoorGPar
import Derived.Deep.RegionHeld3
import Derived.Laws.ResultCell
import Derived.Deep.Cut
import Derived.Deep.CutRange
import Derived.Deep.DeepCutAuto
import Derived.Outline
/- The walks of klippelaw42 and of its references, over texts: the references' vectors. -/
namespace Go.Proofs.YtopilnlniidejaaGreatDoor
set_option linter.all false
open Go.RowKit

set_option maxRecDepth 100000 in
set_option maxHeartbeats 4000000 in
theorem rzero_t (A1 A2 A3 : ByteArray) (w : World)
    (h0 : (A1.toList == [48]) = true)
    (h1 : (A2.toList == [48]) = true)
    (h2 : (A3.toList == [48]) = true) :
    Calls Tryz.prog 16 #[.agg #[.string A1, .string A2, .string A3]] w fun e w' => e = .returned (.bool true) ∧ Below w.heap.size w w' := by
  have B := Lib.hid (Below.refl w.heap.size w)
  go_enter Tryz.func16, Tryz.ntmps16
  go_upto_region 0 with (fail)
  refine wp_region_seq2 [1, 2] (RJ w w.heap.size [.n 1, .v 2 (.bool false)] [⟨0, 1, fun g => .pointer (some ⟨g, 0, none⟩), #[.string A1, .string A2, .string A3], 24, none⟩] [] [] [] [] []) (by kernel_rfl) (by kernel_rfl) ?_ ?_ ?_
  · exact RJ.start rfl B.out (by exact trivial)
  · refine ⟨?_, ?_, trivial⟩
    · rintro L a U ho J hn hd KK hK; refine Wants.free rfl ?_; have r0 : a.tmps[(0 : Nat)]?.getD undef = .agg #[.string A1, .string A2, .string A3] := ho.slot 0 rfl; go_simp; exact hK.out _ _ (J.mf 0 0 rfl rfl rfl rfl rfl hn)
    · rintro L a U ho J hn hd KK hK; refine Wants.free rfl ?_; go_simp; exact hK.out _ _ (J.st 1 rfl rfl)
  rintro L σ W1 J hL
  have hf := J.fin rfl hL
  simp only [finR] at hf
  obtain ⟨e0, l0, k0⟩ := J.nw 0 rfl (hL 0 (by decide))
  have low := J.low
  replace B := Lib.hid J.bb
  clear J hL
  try dsimp only at e0
  generalize blkOf (σ 1) = g1_0 at *
  have K0 := Lib.hid k0
  have L0 := Lib.hid (Nat.le_trans low l0)
  clear l0 k0 low
  rw [show List.map σ [1, 2] = _ from hf, e0]
  clear hf e0
  simp only [putAll, List.map, Act.put, List.setIfInBounds_toArray, List.set_cons_succ, List.set_cons_zero]
  have c0_0 := K0.out.at_ 0 _ rfl
  have c0_1 := K0.out.at_ 1 _ rfl
  have c0_2 := K0.out.at_ 2 _ rfl
  go_wp2
  clear c0_0 c0_1 c0_2
  go_ret
  exact ⟨rfl, B.out⟩

set_option maxRecDepth 100000 in
set_option maxHeartbeats 4000000 in
theorem rzero_x (A1 A2 A3 : ByteArray) (w : World)
    (h0 : (A1.toList == [48]) = false) :
    Calls Tryz.prog 16 #[.agg #[.string A1, .string A2, .string A3]] w fun e w' => e = .returned (.bool false) ∧ Below w.heap.size w w' := by
  have B := Lib.hid (Below.refl w.heap.size w)
  go_enter Tryz.func16, Tryz.ntmps16
  go_upto_region 0 with (fail)
  refine wp_region_seq2 [1, 2] (RJ w w.heap.size [.n 1, .v 2 (.bool false)] [⟨0, 1, fun g => .pointer (some ⟨g, 0, none⟩), #[.string A1, .string A2, .string A3], 24, none⟩] [] [] [] [] []) (by kernel_rfl) (by kernel_rfl) ?_ ?_ ?_
  · exact RJ.start rfl B.out (by exact trivial)
  · refine ⟨?_, ?_, trivial⟩
    · rintro L a U ho J hn hd KK hK; refine Wants.free rfl ?_; have r0 : a.tmps[(0 : Nat)]?.getD undef = .agg #[.string A1, .string A2, .string A3] := ho.slot 0 rfl; go_simp; exact hK.out _ _ (J.mf 0 0 rfl rfl rfl rfl rfl hn)
    · rintro L a U ho J hn hd KK hK; refine Wants.free rfl ?_; go_simp; exact hK.out _ _ (J.st 1 rfl rfl)
  rintro L σ W1 J hL
  have hf := J.fin rfl hL
  simp only [finR] at hf
  obtain ⟨e0, l0, k0⟩ := J.nw 0 rfl (hL 0 (by decide))
  have low := J.low
  replace B := Lib.hid J.bb
  clear J hL
  try dsimp only at e0
  generalize blkOf (σ 1) = g1_0 at *
  have K0 := Lib.hid k0
  have L0 := Lib.hid (Nat.le_trans low l0)
  clear l0 k0 low
  rw [show List.map σ [1, 2] = _ from hf, e0]
  clear hf e0
  simp only [putAll, List.map, Act.put, List.setIfInBounds_toArray, List.set_cons_succ, List.set_cons_zero]
  have c0_0 := K0.out.at_ 0 _ rfl
  go_wp2
  clear c0_0
  go_ret
  exact ⟨rfl, B.out⟩

set_option maxRecDepth 100000 in
set_option maxHeartbeats 4000000 in
theorem rzero_y (A1 A2 A3 : ByteArray) (w : World)
    (h0 : (A1.toList == [48]) = true)
    (h1 : (A2.toList == [48]) = false) :
    Calls Tryz.prog 16 #[.agg #[.string A1, .string A2, .string A3]] w fun e w' => e = .returned (.bool false) ∧ Below w.heap.size w w' := by
  have B := Lib.hid (Below.refl w.heap.size w)
  go_enter Tryz.func16, Tryz.ntmps16
  go_upto_region 0 with (fail)
  refine wp_region_seq2 [1, 2] (RJ w w.heap.size [.n 1, .v 2 (.bool false)] [⟨0, 1, fun g => .pointer (some ⟨g, 0, none⟩), #[.string A1, .string A2, .string A3], 24, none⟩] [] [] [] [] []) (by kernel_rfl) (by kernel_rfl) ?_ ?_ ?_
  · exact RJ.start rfl B.out (by exact trivial)
  · refine ⟨?_, ?_, trivial⟩
    · rintro L a U ho J hn hd KK hK; refine Wants.free rfl ?_; have r0 : a.tmps[(0 : Nat)]?.getD undef = .agg #[.string A1, .string A2, .string A3] := ho.slot 0 rfl; go_simp; exact hK.out _ _ (J.mf 0 0 rfl rfl rfl rfl rfl hn)
    · rintro L a U ho J hn hd KK hK; refine Wants.free rfl ?_; go_simp; exact hK.out _ _ (J.st 1 rfl rfl)
  rintro L σ W1 J hL
  have hf := J.fin rfl hL
  simp only [finR] at hf
  obtain ⟨e0, l0, k0⟩ := J.nw 0 rfl (hL 0 (by decide))
  have low := J.low
  replace B := Lib.hid J.bb
  clear J hL
  try dsimp only at e0
  generalize blkOf (σ 1) = g1_0 at *
  have K0 := Lib.hid k0
  have L0 := Lib.hid (Nat.le_trans low l0)
  clear l0 k0 low
  rw [show List.map σ [1, 2] = _ from hf, e0]
  clear hf e0
  simp only [putAll, List.map, Act.put, List.setIfInBounds_toArray, List.set_cons_succ, List.set_cons_zero]
  have c0_0 := K0.out.at_ 0 _ rfl
  have c0_1 := K0.out.at_ 1 _ rfl
  go_wp2
  clear c0_0 c0_1
  go_ret
  exact ⟨rfl, B.out⟩

set_option maxRecDepth 100000 in
set_option maxHeartbeats 4000000 in
theorem rzero_z (A1 A2 A3 : ByteArray) (w : World)
    (h0 : (A1.toList == [48]) = true)
    (h1 : (A2.toList == [48]) = true)
    (h2 : (A3.toList == [48]) = false) :
    Calls Tryz.prog 16 #[.agg #[.string A1, .string A2, .string A3]] w fun e w' => e = .returned (.bool false) ∧ Below w.heap.size w w' := by
  have B := Lib.hid (Below.refl w.heap.size w)
  go_enter Tryz.func16, Tryz.ntmps16
  go_upto_region 0 with (fail)
  refine wp_region_seq2 [1, 2] (RJ w w.heap.size [.n 1, .v 2 (.bool false)] [⟨0, 1, fun g => .pointer (some ⟨g, 0, none⟩), #[.string A1, .string A2, .string A3], 24, none⟩] [] [] [] [] []) (by kernel_rfl) (by kernel_rfl) ?_ ?_ ?_
  · exact RJ.start rfl B.out (by exact trivial)
  · refine ⟨?_, ?_, trivial⟩
    · rintro L a U ho J hn hd KK hK; refine Wants.free rfl ?_; have r0 : a.tmps[(0 : Nat)]?.getD undef = .agg #[.string A1, .string A2, .string A3] := ho.slot 0 rfl; go_simp; exact hK.out _ _ (J.mf 0 0 rfl rfl rfl rfl rfl hn)
    · rintro L a U ho J hn hd KK hK; refine Wants.free rfl ?_; go_simp; exact hK.out _ _ (J.st 1 rfl rfl)
  rintro L σ W1 J hL
  have hf := J.fin rfl hL
  simp only [finR] at hf
  obtain ⟨e0, l0, k0⟩ := J.nw 0 rfl (hL 0 (by decide))
  have low := J.low
  replace B := Lib.hid J.bb
  clear J hL
  try dsimp only at e0
  generalize blkOf (σ 1) = g1_0 at *
  have K0 := Lib.hid k0
  have L0 := Lib.hid (Nat.le_trans low l0)
  clear l0 k0 low
  rw [show List.map σ [1, 2] = _ from hf, e0]
  clear hf e0
  simp only [putAll, List.map, Act.put, List.setIfInBounds_toArray, List.set_cons_succ, List.set_cons_zero]
  have c0_0 := K0.out.at_ 0 _ rfl
  have c0_1 := K0.out.at_ 1 _ rfl
  have c0_2 := K0.out.at_ 2 _ rfl
  go_wp2
  clear c0_0 c0_1 c0_2
  go_ret
  exact ⟨rfl, B.out⟩

set_option maxRecDepth 100000 in
set_option maxHeartbeats 4000000 in
theorem rlist_of (A1 A2 A3 : ByteArray) (w : World) :
    Calls Tryz.prog 60 #[.agg #[.string A1, .string A2, .string A3]] w fun e w' => ∃ g, e = .returned (.slice (some ⟨g, 0, none⟩) 3 3) ∧ w.heap.size ≤ g ∧ Blk w' g #[.string A1, .string A2, .string A3] 22 ∧ Below w.heap.size w w' := by
  have B := Lib.hid (Below.refl w.heap.size w)
  go_enter Tryz.func60, Tryz.ntmps60
  go_upto_region 0 with (fail)
  refine wp_region_seq2 [1, 2] (RJ w w.heap.size [.n 1, .v 2 (.slice none 0 0)] [⟨0, 1, fun g => .pointer (some ⟨g, 0, none⟩), #[.string A1, .string A2, .string A3], 24, none⟩] [] [] [] [] []) (by kernel_rfl) (by kernel_rfl) ?_ ?_ ?_
  · exact RJ.start rfl B.out (by exact trivial)
  · refine ⟨?_, ?_, trivial⟩
    · rintro L a U ho J hn hd KK hK; refine Wants.free rfl ?_; have r0 : a.tmps[(0 : Nat)]?.getD undef = .agg #[.string A1, .string A2, .string A3] := ho.slot 0 rfl; go_simp; exact hK.out _ _ (J.mf 0 0 rfl rfl rfl rfl rfl hn)
    · rintro L a U ho J hn hd KK hK; refine Wants.free rfl ?_; go_simp; exact hK.out _ _ (J.st 1 rfl rfl)
  rintro L σ W1 J hL
  have hf := J.fin rfl hL
  simp only [finR] at hf
  obtain ⟨e0, l0, k0⟩ := J.nw 0 rfl (hL 0 (by decide))
  have low := J.low
  replace B := Lib.hid J.bb
  clear J hL
  try dsimp only at e0
  generalize blkOf (σ 1) = g1_0 at *
  have K0 := Lib.hid k0
  have L0 := Lib.hid (Nat.le_trans low l0)
  clear l0 k0 low
  rw [show List.map σ [1, 2] = _ from hf, e0]
  clear hf e0
  simp only [putAll, List.map, Act.put, List.setIfInBounds_toArray, List.set_cons_succ, List.set_cons_zero]
  go_upto_region 1 with (fail)
  have lt0 := K0.out.lt
  refine wp_region_seq2 [3, 4, 5, 6, 7, 8, 9, 2] (RJ w W1.heap.size [.v 3 (.pointer (some ⟨g1_0, 0, none⟩)), .v 4 (.string A1), .v 5 (.pointer (some ⟨g1_0, 1, none⟩)), .v 6 (.string A2), .v 7 (.pointer (some ⟨g1_0, 2, none⟩)), .v 8 (.string A3), .n 9, .n 2] [⟨6, 9, fun g => .slice (some ⟨g, 0, none⟩) 3 3, #[.string A1, .string A2, .string A3], 22, none⟩] [⟨g1_0, #[.string A1, .string A2, .string A3], 24, none⟩] [⟨7, 2, 9, 6, fun g => .slice (some ⟨g, 0, none⟩) 3 3⟩] [] [] []) (by kernel_rfl) (by kernel_rfl) ?_ ?_ ?_
  · exact RJ.start rfl B.out (by exact ⟨K0.out, trivial⟩)
  · refine ⟨?_, ?_, ?_, ?_, ?_, ?_, ?_, ?_, trivial⟩
    · rintro L a U ho J hn hd KK hK; refine Wants.free rfl ?_; have r1 : a.tmps[(1 : Nat)]?.getD undef = .pointer (some ⟨g1_0, 0, none⟩) := ho.slot 1 rfl; go_simp; exact hK.out _ _ (J.st 0 rfl rfl)
    · rintro L a U ho J hn hd KK hK; refine Wants.free rfl ?_; have r3 := J.read 0 rfl (hd 0 (by decide)); have kb := (J.eld 0 rfl); have c0 := kb.at_ 0 _ rfl; clear kb; go_simp; exact hK.out _ _ (J.st 1 rfl rfl)
    · rintro L a U ho J hn hd KK hK; refine Wants.free rfl ?_; have r1 : a.tmps[(1 : Nat)]?.getD undef = .pointer (some ⟨g1_0, 0, none⟩) := ho.slot 1 rfl; go_simp; exact hK.out _ _ (J.st 2 rfl rfl)
    · rintro L a U ho J hn hd KK hK; refine Wants.free rfl ?_; have r5 := J.read 2 rfl (hd 2 (by decide)); have kb := (J.eld 0 rfl); have c1 := kb.at_ 1 _ rfl; clear kb; go_simp; exact hK.out _ _ (J.st 3 rfl rfl)
    · rintro L a U ho J hn hd KK hK; refine Wants.free rfl ?_; have r1 : a.tmps[(1 : Nat)]?.getD undef = .pointer (some ⟨g1_0, 0, none⟩) := ho.slot 1 rfl; go_simp; exact hK.out _ _ (J.st 4 rfl rfl)
    · rintro L a U ho J hn hd KK hK; refine Wants.free rfl ?_; have r7 := J.read 4 rfl (hd 4 (by decide)); have kb := (J.eld 0 rfl); have c2 := kb.at_ 2 _ rfl; clear kb; go_simp; exact hK.out _ _ (J.st 5 rfl rfl)
    · rintro L a U ho J hn hd KK hK; refine Wants.free rfl ?_; have r4 := J.read 1 rfl (hd 1 (by decide)); have r6 := J.read 3 rfl (hd 3 (by decide)); have r8 := J.read 5 rfl (hd 5 (by decide)); go_simp; exact hK.out _ _ (J.mf 6 0 rfl rfl rfl rfl rfl hn)
    · rintro L a U ho J hn hd KK hK; refine Wants.free rfl ?_; have r9 : a.tmps[(9 : Nat)]?.getD undef = .slice (some ⟨(blkOf (slotOf a 9)), 0, none⟩) 3 3 := J.readN 0 rfl (hd 6 (by decide)); go_simp; exact hK.out _ _ (J.way 7 0 rfl rfl rfl rfl rfl rfl rfl (hd 6 (by decide)) hn)
  rintro L σ W2 J hL
  have hf := J.fin rfl hL
  simp only [finR] at hf
  obtain ⟨e1, l1, k1⟩ := J.nw 0 rfl (hL 6 (by decide))
  have ja7 : σ 2 = .slice (some ⟨(blkOf (σ 9)), 0, none⟩) 3 3 := (J.als 0 _ rfl (hL 7 (by decide))).1
  replace K0 := Lib.hid (J.eld 0 rfl)
  have low := J.low
  replace B := Lib.hid J.bb
  clear J hL
  try dsimp only at e1
  generalize blkOf (σ 9) = g2_6 at *
  have K1 := Lib.hid k1
  have L1 := Lib.hid (Nat.le_trans low l1)
  clear lt0 l1 k1 low
  rw [show List.map σ [3, 4, 5, 6, 7, 8, 9, 2] = _ from hf, e1, ja7]
  clear hf e1 ja7
  simp only [putAll, List.map, Act.put, List.setIfInBounds_toArray, List.set_cons_succ, List.set_cons_zero]
  go_wp2
  go_ret
  exact ⟨_, rfl, L1.out, K1.out, B.out⟩

set_option maxRecDepth 100000 in
set_option maxHeartbeats 4000000 in
theorem rdot_of (A1 A2 A3 C1 C2 C3 R : ByteArray) (w : World)
    (h_l1 : ∀ (W : World), Below w.heap.size w W → Calls Tryz.prog 60 #[.agg #[.string A1, .string A2, .string A3]] W fun e w' => ∃ g, e = .returned (.slice (some ⟨g, 0, none⟩) 3 3) ∧ W.heap.size ≤ g ∧ Blk w' g #[.string A1, .string A2, .string A3] 22 ∧ Below W.heap.size W w')
    (h_l2 : ∀ (W : World), Below w.heap.size w W → Calls Tryz.prog 60 #[.agg #[.string C1, .string C2, .string C3]] W fun e w' => ∃ g, e = .returned (.slice (some ⟨g, 0, none⟩) 3 3) ∧ W.heap.size ≤ g ∧ Blk w' g #[.string C1, .string C2, .string C3] 22 ∧ Below W.heap.size W w')
    (h_d1 : ∀ (W : World) (b0 : Nat) (b1 : Nat), Blk W b0 #[.string A1, .string A2, .string A3] 22 → Blk W b1 #[.string C1, .string C2, .string C3] 22 → Below w.heap.size w W → Calls Tryz.prog 89 #[.slice (some ⟨b0, 0, none⟩) 3 3, .slice (some ⟨b1, 0, none⟩) 3 3] W fun e w' => e = .returned (.string R) ∧ Below W.heap.size W w') :
    Calls Tryz.prog 58 #[.agg #[.string A1, .string A2, .string A3], .agg #[.string C1, .string C2, .string C3]] w fun e w' => e = .returned (.string R) ∧ Below w.heap.size w w' := by
  have H_L1 := Lib.hid h_l1
  have H_L2 := Lib.hid h_l2
  have H_D1 := Lib.hid h_d1
  clear h_l1 h_l2 h_d1
  have B := Lib.hid (Below.refl w.heap.size w)
  go_enter Tryz.func58, Tryz.ntmps58
  go_upto_region 0 with (fail)
  refine wp_region_seq2 [2, 3, 4] (RJ w w.heap.size [.n 2, .n 3, .v 4 (.string ⟨#[]⟩)] [⟨0, 2, fun g => .pointer (some ⟨g, 0, none⟩), #[.string A1, .string A2, .string A3], 24, none⟩, ⟨1, 3, fun g => .pointer (some ⟨g, 0, none⟩), #[.string C1, .string C2, .string C3], 24, none⟩] [] [] [] [] []) (by kernel_rfl) (by kernel_rfl) ?_ ?_ ?_
  · exact RJ.start rfl B.out (by exact trivial)
  · refine ⟨?_, ?_, ?_, trivial⟩
    · rintro L a U ho J hn hd KK hK; refine Wants.free rfl ?_; have r0 : a.tmps[(0 : Nat)]?.getD undef = .agg #[.string A1, .string A2, .string A3] := ho.slot 0 rfl; go_simp; exact hK.out _ _ (J.mf 0 0 rfl rfl rfl rfl rfl hn)
    · rintro L a U ho J hn hd KK hK; refine Wants.free rfl ?_; have r1 : a.tmps[(1 : Nat)]?.getD undef = .agg #[.string C1, .string C2, .string C3] := ho.slot 1 rfl; go_simp; exact hK.out _ _ (J.mf 1 1 rfl rfl rfl rfl rfl hn)
    · rintro L a U ho J hn hd KK hK; refine Wants.free rfl ?_; go_simp; exact hK.out _ _ (J.st 2 rfl rfl)
  rintro L σ W1 J hL
  have hf := J.fin rfl hL
  simp only [finR] at hf
  obtain ⟨e0, l0, k0⟩ := J.nw 0 rfl (hL 0 (by decide))
  obtain ⟨e1, l1, k1⟩ := J.nw 1 rfl (hL 1 (by decide))
  have low := J.low
  replace B := Lib.hid J.bb
  clear J hL
  try dsimp only at e0 e1
  generalize blkOf (σ 2) = g1_0 at *
  generalize blkOf (σ 3) = g1_1 at *
  have K0 := Lib.hid k0
  have L0 := Lib.hid (Nat.le_trans low l0)
  have K1 := Lib.hid k1
  have L1 := Lib.hid (Nat.le_trans low l1)
  clear l0 l1 k0 k1 low
  rw [show List.map σ [2, 3, 4] = _ from hf, e0, e1]
  clear hf e0 e1
  simp only [putAll, List.map, Act.put, List.setIfInBounds_toArray, List.set_cons_succ, List.set_cons_zero]
  go_upto_region 1 with (fail)
  have lt0 := K0.out.lt
  have lt1 := K1.out.lt
  refine wp_region_par2 (by kernel_rfl) [5, 6, 7, 8, 9, 4] (RJ w W1.heap.size [.v 5 (.agg #[.string A1, .string A2, .string A3]), .n 6, .v 7 (.agg #[.string C1, .string C2, .string C3]), .n 8, .v 9 (.string R), .v 4 (.string R)] [⟨1, 6, fun g => .slice (some ⟨g, 0, none⟩) 3 3, #[.string A1, .string A2, .string A3], 22, none⟩, ⟨3, 8, fun g => .slice (some ⟨g, 0, none⟩) 3 3, #[.string C1, .string C2, .string C3], 22, none⟩] [⟨g1_0, #[.string A1, .string A2, .string A3], 24, none⟩, ⟨g1_1, #[.string C1, .string C2, .string C3], 24, none⟩] [] [] [] []) (by kernel_rfl) (by kernel_rfl) (by kernel_rfl) ?_ ?_ ?_
  · exact RJ.drew (RJ.start rfl B.out (by exact ⟨K0.out, K1.out, trivial⟩))
  · refine ⟨?_, ?_, ?_, ?_, ?_, ?_, trivial⟩
    · rintro L a U ho J hn hd KK hK; refine Wants.free rfl ?_; have r2 : a.tmps[(2 : Nat)]?.getD undef = .pointer (some ⟨g1_0, 0, none⟩) := ho.slot 2 rfl; have kb := (J.eld 0 rfl); have c0 := kb.at_ 0 _ rfl; have c1 := kb.at_ 1 _ rfl; have c2 := kb.at_ 2 _ rfl; clear kb; go_simp; exact hK.out _ _ (J.st 0 rfl rfl)
    · rintro L a U ho J hn hd KK hK; refine Wants.free rfl ?_; have r5 := J.read 0 rfl (hd.get 0 rfl); go_simp; go_at_call 60; (with_reducible refine (H_L1.out _ J.bb).mono ?_); rintro e wy ⟨jg, rfl, jgl, jgb, q⟩; go_simp; exact hK.out _ _ (J.mq 1 0 rfl rfl rfl rfl rfl jgl jgb q hn)
    · rintro L a U ho J hn hd KK hK; refine Wants.free rfl ?_; have r3 : a.tmps[(3 : Nat)]?.getD undef = .pointer (some ⟨g1_1, 0, none⟩) := ho.slot 3 rfl; have kb := (J.eld 1 rfl); have c0 := kb.at_ 0 _ rfl; have c1 := kb.at_ 1 _ rfl; have c2 := kb.at_ 2 _ rfl; clear kb; go_simp; exact hK.out _ _ (J.st 2 rfl rfl)
    · rintro L a U ho J hn hd KK hK; refine Wants.free rfl ?_; have r7 := J.read 2 rfl (hd.get 2 rfl); go_simp; go_at_call 60; (with_reducible refine (H_L2.out _ J.bb).mono ?_); rintro e wy ⟨jg, rfl, jgl, jgb, q⟩; go_simp; exact hK.out _ _ (J.mq 3 1 rfl rfl rfl rfl rfl jgl jgb q hn)
    · rintro L a U ho J hn hd KK hK; refine Wants.free rfl ?_; have r6 : a.tmps[(6 : Nat)]?.getD undef = .slice (some ⟨(blkOf (slotOf a 6)), 0, none⟩) 3 3 := J.readN 0 rfl (hd.get 1 rfl); have r8 : a.tmps[(8 : Nat)]?.getD undef = .slice (some ⟨(blkOf (slotOf a 8)), 0, none⟩) 3 3 := J.readN 1 rfl (hd.get 3 rfl); go_simp; go_at_call 89; (with_reducible refine (H_D1.out _ _ _ (J.nw 0 rfl (hd.get 1 rfl)).blk (J.nw 1 rfl (hd.get 3 rfl)).blk J.bb).mono ?_); rintro e wy ⟨rfl, q⟩; go_simp; exact hK.out _ _ (J.sq 4 rfl rfl q)
    · rintro L a U ho J hn hd KK hK; refine Wants.free rfl ?_; have r9 := J.read 4 rfl (hd.get 4 rfl); go_simp; exact hK.out _ _ (J.st 5 rfl rfl)
  rintro L σ W2 J hL
  have hf := J.fin rfl hL
  simp only [finR] at hf
  obtain ⟨e2, l2, k2⟩ := J.nw 0 rfl (hL 1 (by decide))
  obtain ⟨e3, l3, k3⟩ := J.nw 1 rfl (hL 3 (by decide))
  replace K0 := Lib.hid (J.eld 0 rfl)
  replace K1 := Lib.hid (J.eld 1 rfl)
  have low := J.low
  replace B := Lib.hid J.bb
  clear J hL
  try dsimp only at e2 e3
  generalize blkOf (σ 6) = g2_1 at *
  generalize blkOf (σ 8) = g2_3 at *
  have K2 := Lib.hid k2
  have L2 := Lib.hid (Nat.le_trans low l2)
  have K3 := Lib.hid k3
  have L3 := Lib.hid (Nat.le_trans low l3)
  clear lt0 lt1 l2 l3 k2 k3 low
  rw [show List.map σ [5, 6, 7, 8, 9, 4] = _ from hf, e2, e3]
  clear hf e2 e3
  simp only [putAll, List.map, Act.put, List.setIfInBounds_toArray, List.set_cons_succ, List.set_cons_zero]
  go_wp2
  go_ret
  exact ⟨rfl, B.out⟩

set_option maxRecDepth 100000 in
set_option maxHeartbeats 4000000 in
theorem rright_of (A1 A2 A3 : ByteArray) (r : Bool) (w : World)
    (h_l1 : ∀ (W : World), Below w.heap.size w W → Calls Tryz.prog 60 #[.agg #[.string A1, .string A2, .string A3]] W fun e w' => ∃ g, e = .returned (.slice (some ⟨g, 0, none⟩) 3 3) ∧ W.heap.size ≤ g ∧ Blk w' g #[.string A1, .string A2, .string A3] 22 ∧ Below W.heap.size W w')
    (h_n1 : ∀ (W : World) (b0 : Nat), Blk W b0 #[.string A1, .string A2, .string A3] 22 → Below w.heap.size w W → Calls Tryz.prog 39 #[.slice (some ⟨b0, 0, none⟩) 3 3] W fun e w' => e = .returned (.bool r) ∧ Below W.heap.size W w') :
    Calls Tryz.prog 19 #[.agg #[.string A1, .string A2, .string A3]] w fun e w' => e = .returned (.bool r) ∧ Below w.heap.size w w' := by
  have H_L1 := Lib.hid h_l1
  have H_N1 := Lib.hid h_n1
  clear h_l1 h_n1
  have B := Lib.hid (Below.refl w.heap.size w)
  go_enter Tryz.func19, Tryz.ntmps19
  go_upto_region 0 with (fail)
  refine wp_region_seq2 [1, 2] (RJ w w.heap.size [.n 1, .v 2 (.bool false)] [⟨0, 1, fun g => .pointer (some ⟨g, 0, none⟩), #[.string A1, .string A2, .string A3], 24, none⟩] [] [] [] [] []) (by kernel_rfl) (by kernel_rfl) ?_ ?_ ?_
  · exact RJ.start rfl B.out (by exact trivial)
  · refine ⟨?_, ?_, trivial⟩
    · rintro L a U ho J hn hd KK hK; refine Wants.free rfl ?_; have r0 : a.tmps[(0 : Nat)]?.getD undef = .agg #[.string A1, .string A2, .string A3] := ho.slot 0 rfl; go_simp; exact hK.out _ _ (J.mf 0 0 rfl rfl rfl rfl rfl hn)
    · rintro L a U ho J hn hd KK hK; refine Wants.free rfl ?_; go_simp; exact hK.out _ _ (J.st 1 rfl rfl)
  rintro L σ W1 J hL
  have hf := J.fin rfl hL
  simp only [finR] at hf
  obtain ⟨e0, l0, k0⟩ := J.nw 0 rfl (hL 0 (by decide))
  have low := J.low
  replace B := Lib.hid J.bb
  clear J hL
  try dsimp only at e0
  generalize blkOf (σ 1) = g1_0 at *
  have K0 := Lib.hid k0
  have L0 := Lib.hid (Nat.le_trans low l0)
  clear l0 k0 low
  rw [show List.map σ [1, 2] = _ from hf, e0]
  clear hf e0
  simp only [putAll, List.map, Act.put, List.setIfInBounds_toArray, List.set_cons_succ, List.set_cons_zero]
  go_upto_region 1 with (fail)
  have lt0 := K0.out.lt
  refine wp_region_seq2 [3, 4, 5, 2] (RJ w W1.heap.size [.v 3 (.agg #[.string A1, .string A2, .string A3]), .n 4, .v 5 (.bool r), .v 2 (.bool r)] [⟨1, 4, fun g => .slice (some ⟨g, 0, none⟩) 3 3, #[.string A1, .string A2, .string A3], 22, none⟩] [⟨g1_0, #[.string A1, .string A2, .string A3], 24, none⟩] [] [] [] []) (by kernel_rfl) (by kernel_rfl) ?_ ?_ ?_
  · exact RJ.start rfl B.out (by exact ⟨K0.out, trivial⟩)
  · refine ⟨?_, ?_, ?_, ?_, trivial⟩
    · rintro L a U ho J hn hd KK hK; refine Wants.free rfl ?_; have r1 : a.tmps[(1 : Nat)]?.getD undef = .pointer (some ⟨g1_0, 0, none⟩) := ho.slot 1 rfl; have kb := (J.eld 0 rfl); have c0 := kb.at_ 0 _ rfl; have c1 := kb.at_ 1 _ rfl; have c2 := kb.at_ 2 _ rfl; clear kb; go_simp; exact hK.out _ _ (J.st 0 rfl rfl)
    · rintro L a U ho J hn hd KK hK; refine Wants.free rfl ?_; have r3 := J.read 0 rfl (hd 0 (by decide)); go_simp; go_at_call 60; (with_reducible refine (H_L1.out _ J.bb).mono ?_); rintro e wy ⟨jg, rfl, jgl, jgb, q⟩; go_simp; exact hK.out _ _ (J.mq 1 0 rfl rfl rfl rfl rfl jgl jgb q hn)
    · rintro L a U ho J hn hd KK hK; refine Wants.free rfl ?_; have r4 : a.tmps[(4 : Nat)]?.getD undef = .slice (some ⟨(blkOf (slotOf a 4)), 0, none⟩) 3 3 := J.readN 0 rfl (hd 1 (by decide)); go_simp; go_at_call 39; (with_reducible refine (H_N1.out _ _ (J.nw 0 rfl (hd 1 (by decide))).blk J.bb).mono ?_); rintro e wy ⟨rfl, q⟩; go_simp; exact hK.out _ _ (J.sq 2 rfl rfl q)
    · rintro L a U ho J hn hd KK hK; refine Wants.free rfl ?_; have r5 := J.read 2 rfl (hd 2 (by decide)); go_simp; exact hK.out _ _ (J.st 3 rfl rfl)
  rintro L σ W2 J hL
  have hf := J.fin rfl hL
  simp only [finR] at hf
  obtain ⟨e1, l1, k1⟩ := J.nw 0 rfl (hL 1 (by decide))
  replace K0 := Lib.hid (J.eld 0 rfl)
  have low := J.low
  replace B := Lib.hid J.bb
  clear J hL
  try dsimp only at e1
  generalize blkOf (σ 4) = g2_1 at *
  have K1 := Lib.hid k1
  have L1 := Lib.hid (Nat.le_trans low l1)
  clear lt0 l1 k1 low
  rw [show List.map σ [3, 4, 5, 2] = _ from hf, e1]
  clear hf e1
  simp only [putAll, List.map, Act.put, List.setIfInBounds_toArray, List.set_cons_succ, List.set_cons_zero]
  go_wp2
  go_ret
  exact ⟨rfl, B.out⟩

set_option maxRecDepth 100000 in
set_option maxHeartbeats 4000000 in
theorem rminor_of (A C D F P Q R : ByteArray) (w : World)
    (h_m1 : ∀ (W : World), Below w.heap.size w W → Calls Tryz.prog 37 #[.string A, .string F] W fun e w' => e = .returned (.string P) ∧ Below W.heap.size W w')
    (h_m2 : ∀ (W : World), Below w.heap.size w W → Calls Tryz.prog 37 #[.string C, .string D] W fun e w' => e = .returned (.string Q) ∧ Below W.heap.size W w')
    (h_m3 : ∀ (W : World), Below w.heap.size w W → Calls Tryz.prog 20 #[.string P, .string Q] W fun e w' => e = .returned (.string R) ∧ Below W.heap.size W w') :
    Calls Tryz.prog 59 #[.string A, .string C, .string D, .string F] w fun e w' => e = .returned (.string R) ∧ Below w.heap.size w w' := by
  have H_M1 := Lib.hid h_m1
  have H_M2 := Lib.hid h_m2
  have H_M3 := Lib.hid h_m3
  clear h_m1 h_m2 h_m3
  have B := Lib.hid (Below.refl w.heap.size w)
  go_enter Tryz.func59, Tryz.ntmps59
  go_wp2_with (
   (first
    | (go_at_call 37; with_reducible refine (H_M1.out _ (baseI B.out)).mono ?_)
    | (go_at_call 37; with_reducible refine (H_M2.out _ (baseI B.out)).mono ?_)
    | (go_at_call 20; with_reducible refine (H_M3.out _ (baseI B.out)).mono ?_)
    | fail "arm"); rintro e wx ⟨rfl, q⟩; replace B := Lib.hid (goI B.out q); clear q)
  go_ret
  exact ⟨rfl, B.out⟩

set_option maxRecDepth 100000 in
set_option maxHeartbeats 4000000 in
theorem rcross_of (A1 A2 A3 C1 C2 C3 P1 P2 P3 : ByteArray) (w : World)
    (h_m1 : ∀ (W : World), Below w.heap.size w W → Calls Tryz.prog 59 #[.string A2, .string A3, .string C2, .string C3] W fun e w' => e = .returned (.string P1) ∧ Below W.heap.size W w')
    (h_m2 : ∀ (W : World), Below w.heap.size w W → Calls Tryz.prog 59 #[.string A3, .string A1, .string C3, .string C1] W fun e w' => e = .returned (.string P2) ∧ Below W.heap.size W w')
    (h_m3 : ∀ (W : World), Below w.heap.size w W → Calls Tryz.prog 59 #[.string A1, .string A2, .string C1, .string C2] W fun e w' => e = .returned (.string P3) ∧ Below W.heap.size W w') :
    Calls Tryz.prog 18 #[.agg #[.string A1, .string A2, .string A3], .agg #[.string C1, .string C2, .string C3]] w fun e w' => e = .returned (.agg #[.string P1, .string P2, .string P3]) ∧ Below w.heap.size w w' := by
  have H_M1 := Lib.hid h_m1
  have H_M2 := Lib.hid h_m2
  have H_M3 := Lib.hid h_m3
  clear h_m1 h_m2 h_m3
  have B := Lib.hid (Below.refl w.heap.size w)
  go_enter Tryz.func18, Tryz.ntmps18
  go_upto_region 0 with (fail)
  refine wp_region_seq2 [2, 3, 4] (RJ w w.heap.size [.n 2, .n 3, .n 4] [⟨0, 2, fun g => .pointer (some ⟨g, 0, none⟩), #[.string A1, .string A2, .string A3], 24, none⟩, ⟨1, 3, fun g => .pointer (some ⟨g, 0, none⟩), #[.string C1, .string C2, .string C3], 24, none⟩, ⟨2, 4, fun g => .pointer (some ⟨g, 0, none⟩), #[.string ⟨#[]⟩, .string ⟨#[]⟩, .string ⟨#[]⟩], 24, none⟩] [] [] [] [(0, 2), (1, 2)] []) (by kernel_rfl) (by kernel_rfl) ?_ ?_ ?_
  · exact RJ.start rfl B.out (by exact trivial)
  · refine ⟨?_, ?_, ?_, trivial⟩
    · rintro L a U ho J hn hd KK hK; refine Wants.free rfl ?_; have r0 : a.tmps[(0 : Nat)]?.getD undef = .agg #[.string A1, .string A2, .string A3] := ho.slot 0 rfl; go_simp; exact hK.out _ _ (J.mf 0 0 rfl rfl rfl rfl rfl hn)
    · rintro L a U ho J hn hd KK hK; refine Wants.free rfl ?_; have r1 : a.tmps[(1 : Nat)]?.getD undef = .agg #[.string C1, .string C2, .string C3] := ho.slot 1 rfl; go_simp; exact hK.out _ _ (J.mf 1 1 rfl rfl rfl rfl rfl hn)
    · rintro L a U ho J hn hd KK hK; refine Wants.free rfl ?_; go_simp; exact hK.out _ _ (J.mf 2 2 rfl rfl rfl rfl rfl hn)
  rintro L σ W1 J hL
  have hf := J.fin rfl hL
  simp only [finR] at hf
  obtain ⟨e0, l0, k0⟩ := J.nw 0 rfl (hL 0 (by decide))
  obtain ⟨e1, l1, k1⟩ := J.nw 1 rfl (hL 1 (by decide))
  obtain ⟨e2, l2, k2⟩ := J.nw 2 rfl (hL 2 (by decide))
  have jd0_2 : blkOf (σ 2) ≠ blkOf (σ 4) := J.dis 0 _ _ _ rfl rfl rfl (hL 0 (by decide)) (hL 2 (by decide))
  have jd1_2 : blkOf (σ 3) ≠ blkOf (σ 4) := J.dis 1 _ _ _ rfl rfl rfl (hL 1 (by decide)) (hL 2 (by decide))
  have low := J.low
  replace B := Lib.hid J.bb
  clear J hL
  try dsimp only at e0 e1 e2
  generalize blkOf (σ 2) = g1_0 at *
  generalize blkOf (σ 3) = g1_1 at *
  generalize blkOf (σ 4) = g1_2 at *
  have K0 := Lib.hid k0
  have L0 := Lib.hid (Nat.le_trans low l0)
  have K1 := Lib.hid k1
  have L1 := Lib.hid (Nat.le_trans low l1)
  have K2 := Lib.hid k2
  have L2 := Lib.hid (Nat.le_trans low l2)
  have D0_2 := Lib.hid jd0_2
  have D1_2 := Lib.hid jd1_2
  clear l0 l1 l2 k0 k1 k2 jd0_2 jd1_2 low
  rw [show List.map σ [2, 3, 4] = _ from hf, e0, e1, e2]
  clear hf e0 e1 e2
  simp only [putAll, List.map, Act.put, List.setIfInBounds_toArray, List.set_cons_succ, List.set_cons_zero]
  go_upto_region 1 with (fail)
  have lt0 := K0.out.lt
  have lt1 := K1.out.lt
  have lt2 := K2.out.lt
  refine wp_region_par2 (by kernel_rfl) [5, 6, 7, 8, 9, 10, 11, 12, 13, 14, 15, 16, 17, 18, 19, 20, 21, 22, 23, 24, 25, 26, 27, 28, 29, 30, 31, 32] (RJ w W1.heap.size [.v 5 (.pointer (some ⟨g1_0, 1, none⟩)), .v 6 (.string A2), .v 7 (.pointer (some ⟨g1_0, 2, none⟩)), .v 8 (.string A3), .v 9 (.pointer (some ⟨g1_1, 1, none⟩)), .v 10 (.string C2), .v 11 (.pointer (some ⟨g1_1, 2, none⟩)), .v 12 (.string C3), .v 13 (.string P1), .v 14 (.pointer (some ⟨g1_0, 2, none⟩)), .v 15 (.string A3), .v 16 (.pointer (some ⟨g1_0, 0, none⟩)), .v 17 (.string A1), .v 18 (.pointer (some ⟨g1_1, 2, none⟩)), .v 19 (.string C3), .v 20 (.pointer (some ⟨g1_1, 0, none⟩)), .v 21 (.string C1), .v 22 (.string P2), .v 23 (.pointer (some ⟨g1_0, 0, none⟩)), .v 24 (.string A1), .v 25 (.pointer (some ⟨g1_0, 1, none⟩)), .v 26 (.string A2), .v 27 (.pointer (some ⟨g1_1, 0, none⟩)), .v 28 (.string C1), .v 29 (.pointer (some ⟨g1_1, 1, none⟩)), .v 30 (.string C2), .v 31 (.string P3), .v 32 (.agg #[.string P1, .string P2, .string P3]), .z] [] [⟨g1_0, #[.string A1, .string A2, .string A3], 24, none⟩, ⟨g1_1, #[.string C1, .string C2, .string C3], 24, none⟩, ⟨g1_2, #[.string ⟨#[]⟩, .string ⟨#[]⟩, .string ⟨#[]⟩], 24, some (28, #[.string P1, .string P2, .string P3])⟩] [] [] [] []) (by kernel_rfl) (by kernel_rfl) (by kernel_rfl) ?_ ?_ ?_
  · exact RJ.drew (RJ.start rfl B.out (by exact ⟨K0.out, K1.out, K2.out, trivial⟩))
  · refine ⟨?_, ?_, ?_, ?_, ?_, ?_, ?_, ?_, ?_, ?_, ?_, ?_, ?_, ?_, ?_, ?_, ?_, ?_, ?_, ?_, ?_, ?_, ?_, ?_, ?_, ?_, ?_, ?_, ?_, trivial⟩
    · rintro L a U ho J hn hd KK hK; refine Wants.free rfl ?_; have r2 : a.tmps[(2 : Nat)]?.getD undef = .pointer (some ⟨g1_0, 0, none⟩) := ho.slot 2 rfl; go_simp; exact hK.out _ _ (J.st 0 rfl rfl)
    · rintro L a U ho J hn hd KK hK; refine Wants.free rfl ?_; have r5 := J.read 0 rfl (hd.get 0 rfl); have kb := (J.eld 0 rfl); have c1 := kb.at_ 1 _ rfl; clear kb; go_simp; exact hK.out _ _ (J.st 1 rfl rfl)
    · rintro L a U ho J hn hd KK hK; refine Wants.free rfl ?_; have r2 : a.tmps[(2 : Nat)]?.getD undef = .pointer (some ⟨g1_0, 0, none⟩) := ho.slot 2 rfl; go_simp; exact hK.out _ _ (J.st 2 rfl rfl)
    · rintro L a U ho J hn hd KK hK; refine Wants.free rfl ?_; have r7 := J.read 2 rfl (hd.get 2 rfl); have kb := (J.eld 0 rfl); have c2 := kb.at_ 2 _ rfl; clear kb; go_simp; exact hK.out _ _ (J.st 3 rfl rfl)
    · rintro L a U ho J hn hd KK hK; refine Wants.free rfl ?_; have r3 : a.tmps[(3 : Nat)]?.getD undef = .pointer (some ⟨g1_1, 0, none⟩) := ho.slot 3 rfl; go_simp; exact hK.out _ _ (J.st 4 rfl rfl)
    · rintro L a U ho J hn hd KK hK; refine Wants.free rfl ?_; have r9 := J.read 4 rfl (hd.get 4 rfl); have kb := (J.eld 1 rfl); have c1 := kb.at_ 1 _ rfl; clear kb; go_simp; exact hK.out _ _ (J.st 5 rfl rfl)
    · rintro L a U ho J hn hd KK hK; refine Wants.free rfl ?_; have r3 : a.tmps[(3 : Nat)]?.getD undef = .pointer (some ⟨g1_1, 0, none⟩) := ho.slot 3 rfl; go_simp; exact hK.out _ _ (J.st 6 rfl rfl)
    · rintro L a U ho J hn hd KK hK; refine Wants.free rfl ?_; have r11 := J.read 6 rfl (hd.get 6 rfl); have kb := (J.eld 1 rfl); have c2 := kb.at_ 2 _ rfl; clear kb; go_simp; exact hK.out _ _ (J.st 7 rfl rfl)
    · rintro L a U ho J hn hd KK hK; refine Wants.free rfl ?_; have r6 := J.read 1 rfl (hd.get 1 rfl); have r8 := J.read 3 rfl (hd.get 3 rfl); have r10 := J.read 5 rfl (hd.get 5 rfl); have r12 := J.read 7 rfl (hd.get 7 rfl); go_simp; go_at_call 59; (with_reducible refine (H_M1.out _ J.bb).mono ?_); rintro e wy ⟨rfl, q⟩; go_simp; exact hK.out _ _ (J.sq 8 rfl rfl q)
    · rintro L a U ho J hn hd KK hK; refine Wants.free rfl ?_; have r2 : a.tmps[(2 : Nat)]?.getD undef = .pointer (some ⟨g1_0, 0, none⟩) := ho.slot 2 rfl; go_simp; exact hK.out _ _ (J.st 9 rfl rfl)
    · rintro L a U ho J hn hd KK hK; refine Wants.free rfl ?_; have r14 := J.read 9 rfl (hd.get 9 rfl); have kb := (J.eld 0 rfl); have c2 := kb.at_ 2 _ rfl; clear kb; go_simp; exact hK.out _ _ (J.st 10 rfl rfl)
    · rintro L a U ho J hn hd KK hK; refine Wants.free rfl ?_; have r2 : a.tmps[(2 : Nat)]?.getD undef = .pointer (some ⟨g1_0, 0, none⟩) := ho.slot 2 rfl; go_simp; exact hK.out _ _ (J.st 11 rfl rfl)
    · rintro L a U ho J hn hd KK hK; refine Wants.free rfl ?_; have r16 := J.read 11 rfl (hd.get 11 rfl); have kb := (J.eld 0 rfl); have c0 := kb.at_ 0 _ rfl; clear kb; go_simp; exact hK.out _ _ (J.st 12 rfl rfl)
    · rintro L a U ho J hn hd KK hK; refine Wants.free rfl ?_; have r3 : a.tmps[(3 : Nat)]?.getD undef = .pointer (some ⟨g1_1, 0, none⟩) := ho.slot 3 rfl; go_simp; exact hK.out _ _ (J.st 13 rfl rfl)
    · rintro L a U ho J hn hd KK hK; refine Wants.free rfl ?_; have r18 := J.read 13 rfl (hd.get 13 rfl); have kb := (J.eld 1 rfl); have c2 := kb.at_ 2 _ rfl; clear kb; go_simp; exact hK.out _ _ (J.st 14 rfl rfl)
    · rintro L a U ho J hn hd KK hK; refine Wants.free rfl ?_; have r3 : a.tmps[(3 : Nat)]?.getD undef = .pointer (some ⟨g1_1, 0, none⟩) := ho.slot 3 rfl; go_simp; exact hK.out _ _ (J.st 15 rfl rfl)
    · rintro L a U ho J hn hd KK hK; refine Wants.free rfl ?_; have r20 := J.read 15 rfl (hd.get 15 rfl); have kb := (J.eld 1 rfl); have c0 := kb.at_ 0 _ rfl; clear kb; go_simp; exact hK.out _ _ (J.st 16 rfl rfl)
    · rintro L a U ho J hn hd KK hK; refine Wants.free rfl ?_; have r15 := J.read 10 rfl (hd.get 10 rfl); have r17 := J.read 12 rfl (hd.get 12 rfl); have r19 := J.read 14 rfl (hd.get 14 rfl); have r21 := J.read 16 rfl (hd.get 16 rfl); go_simp; go_at_call 59; (with_reducible refine (H_M2.out _ J.bb).mono ?_); rintro e wy ⟨rfl, q⟩; go_simp; exact hK.out _ _ (J.sq 17 rfl rfl q)
    · rintro L a U ho J hn hd KK hK; refine Wants.free rfl ?_; have r2 : a.tmps[(2 : Nat)]?.getD undef = .pointer (some ⟨g1_0, 0, none⟩) := ho.slot 2 rfl; go_simp; exact hK.out _ _ (J.st 18 rfl rfl)
    · rintro L a U ho J hn hd KK hK; refine Wants.free rfl ?_; have r23 := J.read 18 rfl (hd.get 18 rfl); have kb := (J.eld 0 rfl); have c0 := kb.at_ 0 _ rfl; clear kb; go_simp; exact hK.out _ _ (J.st 19 rfl rfl)
    · rintro L a U ho J hn hd KK hK; refine Wants.free rfl ?_; have r2 : a.tmps[(2 : Nat)]?.getD undef = .pointer (some ⟨g1_0, 0, none⟩) := ho.slot 2 rfl; go_simp; exact hK.out _ _ (J.st 20 rfl rfl)
    · rintro L a U ho J hn hd KK hK; refine Wants.free rfl ?_; have r25 := J.read 20 rfl (hd.get 20 rfl); have kb := (J.eld 0 rfl); have c1 := kb.at_ 1 _ rfl; clear kb; go_simp; exact hK.out _ _ (J.st 21 rfl rfl)
    · rintro L a U ho J hn hd KK hK; refine Wants.free rfl ?_; have r3 : a.tmps[(3 : Nat)]?.getD undef = .pointer (some ⟨g1_1, 0, none⟩) := ho.slot 3 rfl; go_simp; exact hK.out _ _ (J.st 22 rfl rfl)
    · rintro L a U ho J hn hd KK hK; refine Wants.free rfl ?_; have r27 := J.read 22 rfl (hd.get 22 rfl); have kb := (J.eld 1 rfl); have c0 := kb.at_ 0 _ rfl; clear kb; go_simp; exact hK.out _ _ (J.st 23 rfl rfl)
    · rintro L a U ho J hn hd KK hK; refine Wants.free rfl ?_; have r3 : a.tmps[(3 : Nat)]?.getD undef = .pointer (some ⟨g1_1, 0, none⟩) := ho.slot 3 rfl; go_simp; exact hK.out _ _ (J.st 24 rfl rfl)
    · rintro L a U ho J hn hd KK hK; refine Wants.free rfl ?_; have r29 := J.read 24 rfl (hd.get 24 rfl); have kb := (J.eld 1 rfl); have c1 := kb.at_ 1 _ rfl; clear kb; go_simp; exact hK.out _ _ (J.st 25 rfl rfl)
    · rintro L a U ho J hn hd KK hK; refine Wants.free rfl ?_; have r24 := J.read 19 rfl (hd.get 19 rfl); have r26 := J.read 21 rfl (hd.get 21 rfl); have r28 := J.read 23 rfl (hd.get 23 rfl); have r30 := J.read 25 rfl (hd.get 25 rfl); go_simp; go_at_call 59; (with_reducible refine (H_M3.out _ J.bb).mono ?_); rintro e wy ⟨rfl, q⟩; go_simp; exact hK.out _ _ (J.sq 26 rfl rfl q)
    · rintro L a U ho J hn hd KK hK; refine Wants.free rfl ?_; have r13 := J.read 8 rfl (hd.get 8 rfl); have r22 := J.read 17 rfl (hd.get 17 rfl); have r31 := J.read 26 rfl (hd.get 26 rfl); go_simp; exact hK.out _ _ (J.st 27 rfl rfl)
    · rintro L a U ho J hn hd KK hK; refine Wants.free rfl ?_; have r4 : a.tmps[(4 : Nat)]?.getD undef = .pointer (some ⟨g1_2, 0, none⟩) := ho.slot 4 rfl; have r32 := J.read 27 rfl (hd.get 27 rfl); have kb := (J.eldB 2 rfl hn); have c0 := kb.at_ 0 _ rfl; have z0 := kb.free 0; have c1 := kb.at_ 1 _ rfl; have z1 := kb.free 1; have c2 := kb.at_ 2 _ rfl; have z2 := kb.free 2; clear kb; go_simp; exact hK.out undef _ (J.stored 28 2 rfl rfl (.inl rfl) rfl rfl 0 [.string P1, .string P2, .string P3] rfl L2.out lt2 ⟨.inr D0_2.out, .inr D1_2.out, .inl rfl, trivial⟩ hn trivial)
  rintro L σ W2 J hL
  have hf := J.fin rfl hL
  simp only [finR] at hf
  replace K0 := Lib.hid (J.eld 0 rfl)
  replace K1 := Lib.hid (J.eld 1 rfl)
  replace K2 := Lib.hid (J.eldW 2 rfl (hL 28 (by decide)))
  replace B := Lib.hid J.bb
  clear J hL
  clear lt0 lt1 lt2
  rw [show List.map σ [5, 6, 7, 8, 9, 10, 11, 12, 13, 14, 15, 16, 17, 18, 19, 20, 21, 22, 23, 24, 25, 26, 27, 28, 29, 30, 31, 32] = _ from hf]
  clear hf
  simp only [putAll, List.map, Act.put, List.setIfInBounds_toArray, List.set_cons_succ, List.set_cons_zero]
  go_wp2
  have c2_0 := K2.out.at_ 0 _ rfl
  have c2_1 := K2.out.at_ 1 _ rfl
  have c2_2 := K2.out.at_ 2 _ rfl
  exact bodyPost_ret (v := .agg #[.string P1, .string P2, .string P3]) (by simp [results, Tryz.results18, go_sem, c2_0, c2_1, c2_2]) rfl ⟨rfl, B.out⟩

set_option maxRecDepth 100000 in
set_option maxHeartbeats 4000000 in
theorem ldot42_of (A1 A2 A3 C1 C2 C3 R : ByteArray) (w : World)
    (h_d1 : ∀ (W : World), Below w.heap.size w W → Calls Tryz.prog 58 #[.agg #[.string A1, .string A2, .string A3], .agg #[.string C1, .string C2, .string C3]] W fun e w' => e = .returned (.string R) ∧ Below W.heap.size W w') :
    Calls Tryz.prog 17 #[.agg #[.string A1, .string A2, .string A3], .agg #[.string C1, .string C2, .string C3]] w fun e w' => e = .returned (.string R) ∧ Below w.heap.size w w' := by
  have H_D1 := Lib.hid h_d1
  clear h_d1
  have B := Lib.hid (Below.refl w.heap.size w)
  go_enter Tryz.func17, Tryz.ntmps17
  go_upto_region 0 with (fail)
  refine wp_region_seq2 [2, 3, 4] (RJ w w.heap.size [.n 2, .n 3, .v 4 (.string ⟨#[]⟩)] [⟨0, 2, fun g => .pointer (some ⟨g, 0, none⟩), #[.string A1, .string A2, .string A3], 24, none⟩, ⟨1, 3, fun g => .pointer (some ⟨g, 0, none⟩), #[.string C1, .string C2, .string C3], 24, none⟩] [] [] [] [] []) (by kernel_rfl) (by kernel_rfl) ?_ ?_ ?_
  · exact RJ.start rfl B.out (by exact trivial)
  · refine ⟨?_, ?_, ?_, trivial⟩
    · rintro L a U ho J hn hd KK hK; refine Wants.free rfl ?_; have r0 : a.tmps[(0 : Nat)]?.getD undef = .agg #[.string A1, .string A2, .string A3] := ho.slot 0 rfl; go_simp; exact hK.out _ _ (J.mf 0 0 rfl rfl rfl rfl rfl hn)
    · rintro L a U ho J hn hd KK hK; refine Wants.free rfl ?_; have r1 : a.tmps[(1 : Nat)]?.getD undef = .agg #[.string C1, .string C2, .string C3] := ho.slot 1 rfl; go_simp; exact hK.out _ _ (J.mf 1 1 rfl rfl rfl rfl rfl hn)
    · rintro L a U ho J hn hd KK hK; refine Wants.free rfl ?_; go_simp; exact hK.out _ _ (J.st 2 rfl rfl)
  rintro L σ W1 J hL
  have hf := J.fin rfl hL
  simp only [finR] at hf
  obtain ⟨e0, l0, k0⟩ := J.nw 0 rfl (hL 0 (by decide))
  obtain ⟨e1, l1, k1⟩ := J.nw 1 rfl (hL 1 (by decide))
  have low := J.low
  replace B := Lib.hid J.bb
  clear J hL
  try dsimp only at e0 e1
  generalize blkOf (σ 2) = g1_0 at *
  generalize blkOf (σ 3) = g1_1 at *
  have K0 := Lib.hid k0
  have L0 := Lib.hid (Nat.le_trans low l0)
  have K1 := Lib.hid k1
  have L1 := Lib.hid (Nat.le_trans low l1)
  clear l0 l1 k0 k1 low
  rw [show List.map σ [2, 3, 4] = _ from hf, e0, e1]
  clear hf e0 e1
  simp only [putAll, List.map, Act.put, List.setIfInBounds_toArray, List.set_cons_succ, List.set_cons_zero]
  have c0_0 := K0.out.at_ 0 _ rfl
  have c0_1 := K0.out.at_ 1 _ rfl
  have c0_2 := K0.out.at_ 2 _ rfl
  have c1_0 := K1.out.at_ 0 _ rfl
  have c1_1 := K1.out.at_ 1 _ rfl
  have c1_2 := K1.out.at_ 2 _ rfl
  go_wp2_with (
   (first
    | (go_at_call 58; with_reducible refine (H_D1.out _ (baseI B.out)).mono ?_)
    | fail "arm"); rintro e wx ⟨rfl, q⟩; replace K0 := Lib.hid (K0.out.nearI q); replace K1 := Lib.hid (K1.out.nearI q); replace B := Lib.hid (goI B.out q); clear q; replace c0_0 := K0.out.at_ 0 _ rfl; replace c0_1 := K0.out.at_ 1 _ rfl; replace c0_2 := K0.out.at_ 2 _ rfl; replace c1_0 := K1.out.at_ 0 _ rfl; replace c1_1 := K1.out.at_ 1 _ rfl; replace c1_2 := K1.out.at_ 2 _ rfl)
  clear c0_0 c0_1 c0_2 c1_0 c1_1 c1_2
  go_ret
  exact ⟨rfl, B.out⟩

end Go.Proofs.YtopilnlniidejaaGreatDoor

/- The walks of klippelaw42 and of its references, over texts: planes, directions. -/
namespace Go.Proofs.YtopilnlniidejaaGreatDoor
set_option linter.all false
open Go.RowKit

set_option maxRecDepth 100000 in
set_option maxHeartbeats 4000000 in
theorem lplace_1 (P1 P2 P3 : ByteArray) (x y z : Int) (w : World)
    (kw0 : IntKind.i64.wrap x = x)
    (kw1 : IntKind.i64.wrap y = y)
    (kw2 : IntKind.i64.wrap z = z)
    (h_o1 : ∀ (W : World), Below w.heap.size w W → Calls Tryz.prog 44 #[.int .i64 (x.tmod 8), .int .i64 1] W fun e w' => e = .returned (.string P1) ∧ Below W.heap.size W w')
    (h_o2 : ∀ (W : World), Below w.heap.size w W → Calls Tryz.prog 44 #[.int .i64 (y.tmod 8), .int .i64 1] W fun e w' => e = .returned (.string P2) ∧ Below W.heap.size W w')
    (h_o3 : ∀ (W : World), Below w.heap.size w W → Calls Tryz.prog 44 #[.int .i64 (z.tmod 8), .int .i64 1] W fun e w' => e = .returned (.string P3) ∧ Below W.heap.size W w') :
    Calls Tryz.prog 69 #[.agg #[.int .i8 x, .int .i8 y, .int .i8 z], .bool false] w fun e w' => e = .returned (.agg #[.string P1, .string P2, .string P3]) ∧ Below w.heap.size w w' := by
  have H_O1 := Lib.hid h_o1
  have H_O2 := Lib.hid h_o2
  have H_O3 := Lib.hid h_o3
  clear h_o1 h_o2 h_o3
  have B := Lib.hid (Below.refl w.heap.size w)
  go_enter Tryz.func69, Tryz.ntmps69
  go_upto_region 0 with (fail)
  refine wp_region_seq2 [2, 4] (RJ w w.heap.size [.n 2, .n 4] [⟨0, 2, fun g => .pointer (some ⟨g, 0, none⟩), #[.int .i8 x, .int .i8 y, .int .i8 z], 52, none⟩, ⟨1, 4, fun g => .pointer (some ⟨g, 0, none⟩), #[.string ⟨#[]⟩, .string ⟨#[]⟩, .string ⟨#[]⟩], 24, none⟩] [] [] [] [(0, 1)] []) (by kernel_rfl) (by kernel_rfl) ?_ ?_ ?_
  · exact RJ.start rfl B.out (by exact trivial)
  · refine ⟨?_, ?_, trivial⟩
    · rintro L a U ho J hn hd KK hK; refine Wants.free rfl ?_; have r0 : a.tmps[(0 : Nat)]?.getD undef = .agg #[.int .i8 x, .int .i8 y, .int .i8 z] := ho.slot 0 rfl; go_simp; exact hK.out _ _ (J.mf 0 0 rfl rfl rfl rfl rfl hn)
    · rintro L a U ho J hn hd KK hK; refine Wants.free rfl ?_; go_simp; exact hK.out _ _ (J.mf 1 1 rfl rfl rfl rfl rfl hn)
  rintro L σ W1 J hL
  have hf := J.fin rfl hL
  simp only [finR] at hf
  obtain ⟨e0, l0, k0⟩ := J.nw 0 rfl (hL 0 (by decide))
  obtain ⟨e1, l1, k1⟩ := J.nw 1 rfl (hL 1 (by decide))
  have jd0_1 : blkOf (σ 2) ≠ blkOf (σ 4) := J.dis 0 _ _ _ rfl rfl rfl (hL 0 (by decide)) (hL 1 (by decide))
  have low := J.low
  replace B := Lib.hid J.bb
  clear J hL
  try dsimp only at e0 e1
  generalize blkOf (σ 2) = g1_0 at *
  generalize blkOf (σ 4) = g1_1 at *
  have K0 := Lib.hid k0
  have L0 := Lib.hid (Nat.le_trans low l0)
  have K1 := Lib.hid k1
  have L1 := Lib.hid (Nat.le_trans low l1)
  have D0_1 := Lib.hid jd0_1
  clear l0 l1 k0 k1 jd0_1 low
  rw [show List.map σ [2, 4] = _ from hf, e0, e1]
  clear hf e0 e1
  simp only [putAll, List.map, Act.put, List.setIfInBounds_toArray, List.set_cons_succ, List.set_cons_zero]
  go_upto_region 4 with (fail)
  have lt0 := K0.out.lt
  have lt1 := K1.out.lt
  refine wp_region_par2 (by kernel_rfl) [7, 8, 9, 10, 11, 12, 13, 14, 15, 16, 17, 18, 19, 20, 21, 22, 23, 24, 25] (RJ w W1.heap.size [.v 7 (.pointer (some ⟨g1_0, 0, none⟩)), .v 8 (.int .i8 x), .v 9 (.int .i64 x), .v 10 (.int .i64 (x.tmod 8)), .v 11 (.int .i64 1), .v 12 (.string P1), .v 13 (.pointer (some ⟨g1_0, 1, none⟩)), .v 14 (.int .i8 y), .v 15 (.int .i64 y), .v 16 (.int .i64 (y.tmod 8)), .v 17 (.int .i64 1), .v 18 (.string P2), .v 19 (.pointer (some ⟨g1_0, 2, none⟩)), .v 20 (.int .i8 z), .v 21 (.int .i64 z), .v 22 (.int .i64 (z.tmod 8)), .v 23 (.int .i64 1), .v 24 (.string P3), .v 25 (.agg #[.string P1, .string P2, .string P3]), .z] [] [⟨g1_0, #[.int .i8 x, .int .i8 y, .int .i8 z], 52, none⟩, ⟨g1_1, #[.string ⟨#[]⟩, .string ⟨#[]⟩, .string ⟨#[]⟩], 24, some (19, #[.string P1, .string P2, .string P3])⟩] [] [] [] []) (by kernel_rfl) (by kernel_rfl) (by kernel_rfl) ?_ ?_ ?_
  · exact RJ.drew (RJ.start rfl B.out (by exact ⟨K0.out, K1.out, trivial⟩))
  · refine ⟨?_, ?_, ?_, ?_, ?_, ?_, ?_, ?_, ?_, ?_, ?_, ?_, ?_, ?_, ?_, ?_, ?_, ?_, ?_, ?_, trivial⟩
    · rintro L a U ho J hn hd KK hK; refine Wants.free rfl ?_; have r2 : a.tmps[(2 : Nat)]?.getD undef = .pointer (some ⟨g1_0, 0, none⟩) := ho.slot 2 rfl; go_simp; exact hK.out _ _ (J.st 0 rfl rfl)
    · rintro L a U ho J hn hd KK hK; refine Wants.free rfl ?_; have r7 := J.read 0 rfl (hd.get 0 rfl); have kb := (J.eld 0 rfl); have c0 := kb.at_ 0 _ rfl; clear kb; go_simp; exact hK.out _ _ (J.st 1 rfl rfl)
    · rintro L a U ho J hn hd KK hK; refine Wants.free rfl ?_; have r8 := J.read 1 rfl (hd.get 1 rfl); go_simp; exact hK.out _ _ (J.st 2 rfl rfl)
    · rintro L a U ho J hn hd KK hK; refine Wants.free rfl ?_; have r9 := J.read 2 rfl (hd.get 2 rfl); go_simp; exact hK.out _ _ (J.st 3 rfl rfl)
    · rintro L a U ho J hn hd KK hK; refine Wants.free rfl ?_; have r5 : a.tmps[(5 : Nat)]?.getD undef = .int .i64 1 := ho.slot 5 rfl; go_simp; exact hK.out _ _ (J.st 4 rfl rfl)
    · rintro L a U ho J hn hd KK hK; refine Wants.free rfl ?_; have r10 := J.read 3 rfl (hd.get 3 rfl); have r11 := J.read 4 rfl (hd.get 4 rfl); go_simp; go_at_call 44; (with_reducible refine (H_O1.out _ J.bb).mono ?_); rintro e wy ⟨rfl, q⟩; go_simp; exact hK.out _ _ (J.sq 5 rfl rfl q)
    · rintro L a U ho J hn hd KK hK; refine Wants.free rfl ?_; have r2 : a.tmps[(2 : Nat)]?.getD undef = .pointer (some ⟨g1_0, 0, none⟩) := ho.slot 2 rfl; go_simp; exact hK.out _ _ (J.st 6 rfl rfl)
    · rintro L a U ho J hn hd KK hK; refine Wants.free rfl ?_; have r13 := J.read 6 rfl (hd.get 6 rfl); have kb := (J.eld 0 rfl); have c1 := kb.at_ 1 _ rfl; clear kb; go_simp; exact hK.out _ _ (J.st 7 rfl rfl)
    · rintro L a U ho J hn hd KK hK; refine Wants.free rfl ?_; have r14 := J.read 7 rfl (hd.get 7 rfl); go_simp; exact hK.out _ _ (J.st 8 rfl rfl)
    · rintro L a U ho J hn hd KK hK; refine Wants.free rfl ?_; have r15 := J.read 8 rfl (hd.get 8 rfl); go_simp; exact hK.out _ _ (J.st 9 rfl rfl)
    · rintro L a U ho J hn hd KK hK; refine Wants.free rfl ?_; have r5 : a.tmps[(5 : Nat)]?.getD undef = .int .i64 1 := ho.slot 5 rfl; go_simp; exact hK.out _ _ (J.st 10 rfl rfl)
    · rintro L a U ho J hn hd KK hK; refine Wants.free rfl ?_; have r16 := J.read 9 rfl (hd.get 9 rfl); have r17 := J.read 10 rfl (hd.get 10 rfl); go_simp; go_at_call 44; (with_reducible refine (H_O2.out _ J.bb).mono ?_); rintro e wy ⟨rfl, q⟩; go_simp; exact hK.out _ _ (J.sq 11 rfl rfl q)
    · rintro L a U ho J hn hd KK hK; refine Wants.free rfl ?_; have r2 : a.tmps[(2 : Nat)]?.getD undef = .pointer (some ⟨g1_0, 0, none⟩) := ho.slot 2 rfl; go_simp; exact hK.out _ _ (J.st 12 rfl rfl)
    · rintro L a U ho J hn hd KK hK; refine Wants.free rfl ?_; have r19 := J.read 12 rfl (hd.get 12 rfl); have kb := (J.eld 0 rfl); have c2 := kb.at_ 2 _ rfl; clear kb; go_simp; exact hK.out _ _ (J.st 13 rfl rfl)
    · rintro L a U ho J hn hd KK hK; refine Wants.free rfl ?_; have r20 := J.read 13 rfl (hd.get 13 rfl); go_simp; exact hK.out _ _ (J.st 14 rfl rfl)
    · rintro L a U ho J hn hd KK hK; refine Wants.free rfl ?_; have r21 := J.read 14 rfl (hd.get 14 rfl); go_simp; exact hK.out _ _ (J.st 15 rfl rfl)
    · rintro L a U ho J hn hd KK hK; refine Wants.free rfl ?_; have r5 : a.tmps[(5 : Nat)]?.getD undef = .int .i64 1 := ho.slot 5 rfl; go_simp; exact hK.out _ _ (J.st 16 rfl rfl)
    · rintro L a U ho J hn hd KK hK; refine Wants.free rfl ?_; have r22 := J.read 15 rfl (hd.get 15 rfl); have r23 := J.read 16 rfl (hd.get 16 rfl); go_simp; go_at_call 44; (with_reducible refine (H_O3.out _ J.bb).mono ?_); rintro e wy ⟨rfl, q⟩; go_simp; exact hK.out _ _ (J.sq 17 rfl rfl q)
    · rintro L a U ho J hn hd KK hK; refine Wants.free rfl ?_; have r12 := J.read 5 rfl (hd.get 5 rfl); have r18 := J.read 11 rfl (hd.get 11 rfl); have r24 := J.read 17 rfl (hd.get 17 rfl); go_simp; exact hK.out _ _ (J.st 18 rfl rfl)
    · rintro L a U ho J hn hd KK hK; refine Wants.free rfl ?_; have r4 : a.tmps[(4 : Nat)]?.getD undef = .pointer (some ⟨g1_1, 0, none⟩) := ho.slot 4 rfl; have r25 := J.read 18 rfl (hd.get 18 rfl); have kb := (J.eldB 1 rfl hn); have c0 := kb.at_ 0 _ rfl; have z0 := kb.free 0; have c1 := kb.at_ 1 _ rfl; have z1 := kb.free 1; have c2 := kb.at_ 2 _ rfl; have z2 := kb.free 2; clear kb; go_simp; exact hK.out undef _ (J.stored 19 1 rfl rfl (.inl rfl) rfl rfl 0 [.string P1, .string P2, .string P3] rfl L1.out lt1 ⟨.inr D0_1.out, .inl rfl, trivial⟩ hn trivial)
  rintro L σ W2 J hL
  have hf := J.fin rfl hL
  simp only [finR] at hf
  replace K0 := Lib.hid (J.eld 0 rfl)
  replace K1 := Lib.hid (J.eldW 1 rfl (hL 19 (by decide)))
  replace B := Lib.hid J.bb
  clear J hL
  clear lt0 lt1
  rw [show List.map σ [7, 8, 9, 10, 11, 12, 13, 14, 15, 16, 17, 18, 19, 20, 21, 22, 23, 24, 25] = _ from hf]
  clear hf
  simp only [putAll, List.map, Act.put, List.setIfInBounds_toArray, List.set_cons_succ, List.set_cons_zero]
  go_wp2
  have c1_0 := K1.out.at_ 0 _ rfl
  have c1_1 := K1.out.at_ 1 _ rfl
  have c1_2 := K1.out.at_ 2 _ rfl
  exact bodyPost_ret (v := .agg #[.string P1, .string P2, .string P3]) (by simp [results, Tryz.results69, go_sem, c1_0, c1_1, c1_2]) rfl ⟨rfl, B.out⟩

set_option maxRecDepth 100000 in
set_option maxHeartbeats 4000000 in
theorem lPlace_of (P1 P2 P3 : ByteArray) (x y z : Int) (w : World)
    (h_p1 : ∀ (W : World), Below w.heap.size w W → Calls Tryz.prog 69 #[.agg #[.int .i8 x, .int .i8 y, .int .i8 z], .bool false] W fun e w' => e = .returned (.agg #[.string P1, .string P2, .string P3]) ∧ Below W.heap.size W w') :
    Calls Tryz.prog 74 #[.agg #[.int .i8 x, .int .i8 y, .int .i8 z], .bool false] w fun e w' => e = .returned (.agg #[.string P1, .string P2, .string P3]) ∧ Below w.heap.size w w' := by
  have H_P1 := Lib.hid h_p1
  clear h_p1
  have B := Lib.hid (Below.refl w.heap.size w)
  go_enter Tryz.func74, Tryz.ntmps74
  go_upto_region 0 with (fail)
  refine wp_region_seq2 [2, 4] (RJ w w.heap.size [.n 2, .n 4] [⟨0, 2, fun g => .pointer (some ⟨g, 0, none⟩), #[.int .i8 x, .int .i8 y, .int .i8 z], 52, none⟩, ⟨1, 4, fun g => .pointer (some ⟨g, 0, none⟩), #[.string ⟨#[]⟩, .string ⟨#[]⟩, .string ⟨#[]⟩], 24, none⟩] [] [] [] [(0, 1)] []) (by kernel_rfl) (by kernel_rfl) ?_ ?_ ?_
  · exact RJ.start rfl B.out (by exact trivial)
  · refine ⟨?_, ?_, trivial⟩
    · rintro L a U ho J hn hd KK hK; refine Wants.free rfl ?_; have r0 : a.tmps[(0 : Nat)]?.getD undef = .agg #[.int .i8 x, .int .i8 y, .int .i8 z] := ho.slot 0 rfl; go_simp; exact hK.out _ _ (J.mf 0 0 rfl rfl rfl rfl rfl hn)
    · rintro L a U ho J hn hd KK hK; refine Wants.free rfl ?_; go_simp; exact hK.out _ _ (J.mf 1 1 rfl rfl rfl rfl rfl hn)
  rintro L σ W1 J hL
  have hf := J.fin rfl hL
  simp only [finR] at hf
  obtain ⟨e0, l0, k0⟩ := J.nw 0 rfl (hL 0 (by decide))
  obtain ⟨e1, l1, k1⟩ := J.nw 1 rfl (hL 1 (by decide))
  have jd0_1 : blkOf (σ 2) ≠ blkOf (σ 4) := J.dis 0 _ _ _ rfl rfl rfl (hL 0 (by decide)) (hL 1 (by decide))
  have low := J.low
  replace B := Lib.hid J.bb
  clear J hL
  try dsimp only at e0 e1
  generalize blkOf (σ 2) = g1_0 at *
  generalize blkOf (σ 4) = g1_1 at *
  have K0 := Lib.hid k0
  have L0 := Lib.hid (Nat.le_trans low l0)
  have K1 := Lib.hid k1
  have L1 := Lib.hid (Nat.le_trans low l1)
  have D0_1 := Lib.hid jd0_1
  clear l0 l1 k0 k1 jd0_1 low
  rw [show List.map σ [2, 4] = _ from hf, e0, e1]
  clear hf e0 e1
  simp only [putAll, List.map, Act.put, List.setIfInBounds_toArray, List.set_cons_succ, List.set_cons_zero]
  go_upto_region 1 with (fail)
  have lt0 := K0.out.lt
  have lt1 := K1.out.lt
  refine wp_region_seq2 [5, 6, 7] (RJ w W1.heap.size [.v 5 (.agg #[.int .i8 x, .int .i8 y, .int .i8 z]), .v 6 (.bool false), .v 7 (.agg #[.string P1, .string P2, .string P3]), .z] [] [⟨g1_0, #[.int .i8 x, .int .i8 y, .int .i8 z], 52, none⟩, ⟨g1_1, #[.string ⟨#[]⟩, .string ⟨#[]⟩, .string ⟨#[]⟩], 24, some (3, #[.string P1, .string P2, .string P3])⟩] [] [] [] []) (by kernel_rfl) (by kernel_rfl) ?_ ?_ ?_
  · exact RJ.start rfl B.out (by exact ⟨K0.out, K1.out, trivial⟩)
  · refine ⟨?_, ?_, ?_, ?_, trivial⟩
    · rintro L a U ho J hn hd KK hK; refine Wants.free rfl ?_; have r2 : a.tmps[(2 : Nat)]?.getD undef = .pointer (some ⟨g1_0, 0, none⟩) := ho.slot 2 rfl; have kb := (J.eld 0 rfl); have c0 := kb.at_ 0 _ rfl; have c1 := kb.at_ 1 _ rfl; have c2 := kb.at_ 2 _ rfl; clear kb; go_simp; exact hK.out _ _ (J.st 0 rfl rfl)
    · rintro L a U ho J hn hd KK hK; refine Wants.free rfl ?_; have r1 : a.tmps[(1 : Nat)]?.getD undef = .bool false := ho.slot 1 rfl; go_simp; exact hK.out _ _ (J.st 1 rfl rfl)
    · rintro L a U ho J hn hd KK hK; refine Wants.free rfl ?_; have r5 := J.read 0 rfl (hd 0 (by decide)); have r6 := J.read 1 rfl (hd 1 (by decide)); go_simp; go_at_call 69; (with_reducible refine (H_P1.out _ J.bb).mono ?_); rintro e wy ⟨rfl, q⟩; go_simp; exact hK.out _ _ (J.sq 2 rfl rfl q)
    · rintro L a U ho J hn hd KK hK; refine Wants.free rfl ?_; have r4 : a.tmps[(4 : Nat)]?.getD undef = .pointer (some ⟨g1_1, 0, none⟩) := ho.slot 4 rfl; have r7 := J.read 2 rfl (hd 2 (by decide)); have kb := (J.eldB 1 rfl hn); have c0 := kb.at_ 0 _ rfl; have z0 := kb.free 0; have c1 := kb.at_ 1 _ rfl; have z1 := kb.free 1; have c2 := kb.at_ 2 _ rfl; have z2 := kb.free 2; clear kb; go_simp; exact hK.out undef _ (J.stored 3 1 rfl rfl (.inl rfl) rfl rfl 0 [.string P1, .string P2, .string P3] rfl L1.out lt1 ⟨.inr D0_1.out, .inl rfl, trivial⟩ hn trivial)
  rintro L σ W2 J hL
  have hf := J.fin rfl hL
  simp only [finR] at hf
  replace K0 := Lib.hid (J.eld 0 rfl)
  replace K1 := Lib.hid (J.eldW 1 rfl (hL 3 (by decide)))
  replace B := Lib.hid J.bb
  clear J hL
  clear lt0 lt1
  rw [show List.map σ [5, 6, 7] = _ from hf]
  clear hf
  simp only [putAll, List.map, Act.put, List.setIfInBounds_toArray, List.set_cons_succ, List.set_cons_zero]
  go_wp2
  have c1_0 := K1.out.at_ 0 _ rfl
  have c1_1 := K1.out.at_ 1 _ rfl
  have c1_2 := K1.out.at_ 2 _ rfl
  exact bodyPost_ret (v := .agg #[.string P1, .string P2, .string P3]) (by simp [results, Tryz.results74, go_sem, c1_0, c1_1, c1_2]) rfl ⟨rfl, B.out⟩

set_option maxRecDepth 100000 in
set_option maxHeartbeats 4000000 in
theorem lspot_of (P1 P2 P3 : ByteArray) (x y z : Int) (w : World)
    (kw0 : IntKind.i8.wrap x = x)
    (kw1 : IntKind.i8.wrap y = y)
    (kw2 : IntKind.i8.wrap z = z)
    (h_p1 : ∀ (W : World), Below w.heap.size w W → Calls Tryz.prog 74 #[.agg #[.int .i8 x, .int .i8 y, .int .i8 z], .bool false] W fun e w' => e = .returned (.agg #[.string P1, .string P2, .string P3]) ∧ Below W.heap.size W w') :
    Calls Tryz.prog 30 #[.int .i64 x, .int .i64 y, .int .i64 z] w fun e w' => e = .returned (.agg #[.string P1, .string P2, .string P3]) ∧ Below w.heap.size w w' := by
  have H_P1 := Lib.hid h_p1
  clear h_p1
  have B := Lib.hid (Below.refl w.heap.size w)
  go_enter Tryz.func30, Tryz.ntmps30
  go_upto_region 0 with (fail)
  refine wp_region_seq2 [6] (RJ w w.heap.size [.n 6] [⟨0, 6, fun g => .pointer (some ⟨g, 0, none⟩), #[.string ⟨#[]⟩, .string ⟨#[]⟩, .string ⟨#[]⟩], 24, none⟩] [] [] [] [] []) (by kernel_rfl) (by kernel_rfl) ?_ ?_ ?_
  · exact RJ.start rfl B.out (by exact trivial)
  · refine ⟨?_, trivial⟩
    · rintro L a U ho J hn hd KK hK; refine Wants.free rfl ?_; go_simp; exact hK.out _ _ (J.mf 0 0 rfl rfl rfl rfl rfl hn)
  rintro L σ W1 J hL
  have hf := J.fin rfl hL
  simp only [finR] at hf
  obtain ⟨e0, l0, k0⟩ := J.nw 0 rfl (hL 0 (by decide))
  have low := J.low
  replace B := Lib.hid J.bb
  clear J hL
  try dsimp only at e0
  generalize blkOf (σ 6) = g1_0 at *
  have K0 := Lib.hid k0
  have L0 := Lib.hid (Nat.le_trans low l0)
  clear l0 k0 low
  rw [show List.map σ [6] = _ from hf, e0]
  clear hf e0
  simp only [putAll, List.map, Act.put, List.setIfInBounds_toArray, List.set_cons_succ, List.set_cons_zero]
  go_upto_region 1 with (fail)
  have lt0 := K0.out.lt
  refine wp_region_seq2 [7, 8, 9, 10, 11, 12, 13, 14] (RJ w W1.heap.size [.v 7 (.int .i64 x), .v 8 (.int .i8 x), .v 9 (.int .i64 y), .v 10 (.int .i8 y), .v 11 (.int .i64 z), .v 12 (.int .i8 z), .v 13 (.agg #[.int .i8 x, .int .i8 y, .int .i8 z]), .v 14 (.agg #[.string P1, .string P2, .string P3]), .z] [] [⟨g1_0, #[.string ⟨#[]⟩, .string ⟨#[]⟩, .string ⟨#[]⟩], 24, some (8, #[.string P1, .string P2, .string P3])⟩] [] [] [] []) (by kernel_rfl) (by kernel_rfl) ?_ ?_ ?_
  · exact RJ.start rfl B.out (by exact ⟨K0.out, trivial⟩)
  · refine ⟨?_, ?_, ?_, ?_, ?_, ?_, ?_, ?_, ?_, trivial⟩
    · rintro L a U ho J hn hd KK hK; refine Wants.free rfl ?_; have r0 : a.tmps[(0 : Nat)]?.getD undef = .int .i64 x := ho.slot 0 rfl; go_simp; exact hK.out _ _ (J.st 0 rfl rfl)
    · rintro L a U ho J hn hd KK hK; refine Wants.free rfl ?_; have r7 := J.read 0 rfl (hd 0 (by decide)); go_simp; exact hK.out _ _ (J.st 1 rfl rfl)
    · rintro L a U ho J hn hd KK hK; refine Wants.free rfl ?_; have r1 : a.tmps[(1 : Nat)]?.getD undef = .int .i64 y := ho.slot 1 rfl; go_simp; exact hK.out _ _ (J.st 2 rfl rfl)
    · rintro L a U ho J hn hd KK hK; refine Wants.free rfl ?_; have r9 := J.read 2 rfl (hd 2 (by decide)); go_simp; exact hK.out _ _ (J.st 3 rfl rfl)
    · rintro L a U ho J hn hd KK hK; refine Wants.free rfl ?_; have r2 : a.tmps[(2 : Nat)]?.getD undef = .int .i64 z := ho.slot 2 rfl; go_simp; exact hK.out _ _ (J.st 4 rfl rfl)
    · rintro L a U ho J hn hd KK hK; refine Wants.free rfl ?_; have r11 := J.read 4 rfl (hd 4 (by decide)); go_simp; exact hK.out _ _ (J.st 5 rfl rfl)
    · rintro L a U ho J hn hd KK hK; refine Wants.free rfl ?_; have r8 := J.read 1 rfl (hd 1 (by decide)); have r10 := J.read 3 rfl (hd 3 (by decide)); have r12 := J.read 5 rfl (hd 5 (by decide)); go_simp; exact hK.out _ _ (J.st 6 rfl rfl)
    · rintro L a U ho J hn hd KK hK; refine Wants.free rfl ?_; have r13 := J.read 6 rfl (hd 6 (by decide)); go_simp; go_at_call 74; (with_reducible refine (H_P1.out _ J.bb).mono ?_); rintro e wy ⟨rfl, q⟩; go_simp; exact hK.out _ _ (J.sq 7 rfl rfl q)
    · rintro L a U ho J hn hd KK hK; refine Wants.free rfl ?_; have r6 : a.tmps[(6 : Nat)]?.getD undef = .pointer (some ⟨g1_0, 0, none⟩) := ho.slot 6 rfl; have r14 := J.read 7 rfl (hd 7 (by decide)); have kb := (J.eldB 0 rfl hn); have c0 := kb.at_ 0 _ rfl; have z0 := kb.free 0; have c1 := kb.at_ 1 _ rfl; have z1 := kb.free 1; have c2 := kb.at_ 2 _ rfl; have z2 := kb.free 2; clear kb; go_simp; exact hK.out undef _ (J.stored 8 0 rfl rfl (.inl rfl) rfl rfl 0 [.string P1, .string P2, .string P3] rfl L0.out lt0 ⟨.inl rfl, trivial⟩ hn trivial)
  rintro L σ W2 J hL
  have hf := J.fin rfl hL
  simp only [finR] at hf
  replace K0 := Lib.hid (J.eldW 0 rfl (hL 8 (by decide)))
  replace B := Lib.hid J.bb
  clear J hL
  clear lt0
  rw [show List.map σ [7, 8, 9, 10, 11, 12, 13, 14] = _ from hf]
  clear hf
  simp only [putAll, List.map, Act.put, List.setIfInBounds_toArray, List.set_cons_succ, List.set_cons_zero]
  go_wp2
  have c0_0 := K0.out.at_ 0 _ rfl
  have c0_1 := K0.out.at_ 1 _ rfl
  have c0_2 := K0.out.at_ 2 _ rfl
  exact bodyPost_ret (v := .agg #[.string P1, .string P2, .string P3]) (by simp [results, Tryz.results30, go_sem, c0_0, c0_1, c0_2]) rfl ⟨rfl, B.out⟩

end Go.Proofs.YtopilnlniidejaaGreatDoor

/- The walk of known of klippelaw42, over texts. -/
namespace Go.Proofs.YtopilnlniidejaaGreatDoor
set_option linter.all false
open Go.RowKit

set_option maxRecDepth 100000 in
set_option maxHeartbeats 4000000 in
theorem known42_of (A1 A2 A3 S1 S2 S3 C1 C2 C3 D1 D2 D3 : ByteArray) (w : World)
    (h_s1 : ∀ (W : World), Below w.heap.size w W → Calls Tryz.prog 30 #[.int .i64 1, .int .i64 0, .int .i64 1] W fun e w' => e = .returned (.agg #[.string A1, .string A2, .string A3]) ∧ Below W.heap.size W w')
    (h_s2 : ∀ (W : World), Below w.heap.size w W → Calls Tryz.prog 30 #[.int .i64 1, .int .i64 0, .int .i64 (-1)] W fun e w' => e = .returned (.agg #[.string S1, .string S2, .string S3]) ∧ Below W.heap.size W w')
    (h_s3 : ∀ (W : World), Below w.heap.size w W → Calls Tryz.prog 30 #[.int .i64 0, .int .i64 0, .int .i64 1] W fun e w' => e = .returned (.agg #[.string C1, .string C2, .string C3]) ∧ Below W.heap.size W w')
    (h_s4 : ∀ (W : World), Below w.heap.size w W → Calls Tryz.prog 30 #[.int .i64 0, .int .i64 1, .int .i64 0] W fun e w' => e = .returned (.agg #[.string D1, .string D2, .string D3]) ∧ Below W.heap.size W w')
    (h_pa : ∀ (W : World), Below w.heap.size w W → Calls Tryz.prog 33 #[.agg #[.string A1, .string A2, .string A3, .string ⟨#[48]⟩, .string S1, .string S2, .string S3]] W fun e w' => e = .returned (.tuple #[.string ⟨#[48]⟩, .string ⟨#[45, 49]⟩, .int .i64 0]) ∧ Below W.heap.size W w')
    (h_ki : ∀ (W : World), Below w.heap.size w W → Calls Tryz.prog 34 #[.agg #[.string A1, .string A2, .string A3, .string ⟨#[48]⟩, .string S1, .string S2, .string S3]] W fun e w' => e = .returned (.tuple #[.int .i64 1, .int .i64 0]) ∧ Below W.heap.size W w')
    (h_so : ∀ (W : World), Below w.heap.size w W → Calls Tryz.prog 13 #[.agg #[.string A1, .string A2, .string A3, .string ⟨#[48]⟩], .agg #[.string C1, .string C2, .string C3, .string ⟨#[48]⟩, .string ⟨#[45, 49]⟩], .agg #[.string D1, .string D2, .string D3, .string ⟨#[48]⟩, .string ⟨#[48]⟩]] W fun e w' => e = .returned (.tuple #[.agg #[.string S1, .string S2, .string S3], .int .i64 0]) ∧ Below W.heap.size W w') :
    Calls Tryz.prog 11 #[] w fun e w' => e = .returned (.bool true) ∧ Below w.heap.size w w' := by
  have H_S1 := Lib.hid h_s1
  have H_S2 := Lib.hid h_s2
  have H_S3 := Lib.hid h_s3
  have H_S4 := Lib.hid h_s4
  have H_PA := Lib.hid h_pa
  have H_KI := Lib.hid h_ki
  have H_SO := Lib.hid h_so
  clear h_s1 h_s2 h_s3 h_s4 h_pa h_ki h_so
  have B := Lib.hid (Below.refl w.heap.size w)
  go_enter Tryz.func11, Tryz.ntmps11
  go_upto_region 1 with (fail)
  refine wp_region_seq2 [11, 12, 13, 14, 1] (RJ w w.heap.size [.v 11 (.agg #[.string A1, .string A2, .string A3]), .v 12 (.agg #[.string A1, .string A2, .string A3, .string ⟨#[48]⟩]), .v 13 (.agg #[.string S1, .string S2, .string S3]), .v 14 (.agg #[.string A1, .string A2, .string A3, .string ⟨#[48]⟩, .string S1, .string S2, .string S3]), .n 1, .z] [⟨4, 1, fun g => .pointer (some ⟨g, 0, none⟩), #[.string ⟨#[]⟩, .string ⟨#[]⟩, .string ⟨#[]⟩, .string ⟨#[]⟩, .string ⟨#[]⟩, .string ⟨#[]⟩, .string ⟨#[]⟩], 58, some (5, #[.string A1, .string A2, .string A3, .string ⟨#[48]⟩, .string S1, .string S2, .string S3])⟩] [] [] [(5, 4)] [] []) (by kernel_rfl) (by kernel_rfl) ?_ ?_ ?_
  · exact RJ.start rfl B.out (by exact trivial)
  · refine ⟨?_, ?_, ?_, ?_, ?_, ?_, trivial⟩
    · rintro L a U ho J hn hd KK hK; refine Wants.free rfl ?_; go_simp; go_at_call 30; (with_reducible refine (H_S1.out _ J.bb).mono ?_); rintro e wy ⟨rfl, q⟩; go_simp; exact hK.out _ _ (J.sq 0 rfl rfl q)
    · rintro L a U ho J hn hd KK hK; refine Wants.free rfl ?_; have r11 := J.read 0 rfl (hd 0 (by decide)); go_simp; exact hK.out _ _ (J.st 1 rfl rfl)
    · rintro L a U ho J hn hd KK hK; refine Wants.free rfl ?_; go_simp; go_at_call 30; (with_reducible refine (H_S2.out _ J.bb).mono ?_); rintro e wy ⟨rfl, q⟩; go_simp; exact hK.out _ _ (J.sq 2 rfl rfl q)
    · rintro L a U ho J hn hd KK hK; refine Wants.free rfl ?_; have r12 := J.read 1 rfl (hd 1 (by decide)); have r13 := J.read 2 rfl (hd 2 (by decide)); go_simp; exact hK.out _ _ (J.st 3 rfl rfl)
    · rintro L a U ho J hn hd KK hK; refine Wants.free rfl ?_; go_simp; exact hK.out _ _ (J.mf 4 0 rfl rfl rfl rfl rfl hn)
    · rintro L a U ho J hn hd KK hK; refine Wants.free rfl ?_; have r1 : a.tmps[(1 : Nat)]?.getD undef = .pointer (some ⟨(blkOf (slotOf a 1)), 0, none⟩) := J.readN 0 rfl (hd 4 (by decide)); have r14 := J.read 3 rfl (hd 3 (by decide)); have kb := (J.nwB 0 rfl (hd 4 (by decide)) hn).blk; have c0 := kb.at_ 0 _ rfl; have z0 := kb.free 0; have c1 := kb.at_ 1 _ rfl; have z1 := kb.free 1; have c2 := kb.at_ 2 _ rfl; have z2 := kb.free 2; have c3 := kb.at_ 3 _ rfl; have z3 := kb.free 3; have c4 := kb.at_ 4 _ rfl; have z4 := kb.free 4; have c5 := kb.at_ 5 _ rfl; have z5 := kb.free 5; have c6 := kb.at_ 6 _ rfl; have z6 := kb.free 6; clear kb; go_simp; exact hK.out undef _ (J.storedN 5 0 rfl rfl rfl rfl rfl 0 [.string A1, .string A2, .string A3, .string ⟨#[48]⟩, .string S1, .string S2, .string S3] rfl trivial (hd 4 (by decide)) hn ⟨.inr (hd 4 (by decide)), trivial⟩)
  rintro L σ W1 J hL
  have hf := J.fin rfl hL
  simp only [finR] at hf
  obtain ⟨e0, l0, k0⟩ := J.nwW 0 rfl (hL 4 (by decide)) (hL 5 (by decide))
  have low := J.low
  replace B := Lib.hid J.bb
  clear J hL
  try dsimp only at e0
  generalize blkOf (σ 1) = g1_4 at *
  have K0 := Lib.hid k0
  have L0 := Lib.hid (Nat.le_trans low l0)
  clear l0 k0 low
  rw [show List.map σ [11, 12, 13, 14, 1] = _ from hf, e0]
  clear hf e0
  simp only [putAll, List.map, Act.put, List.setIfInBounds_toArray, List.set_cons_succ, List.set_cons_zero]
  have c0_0 := K0.out.at_ 0 _ rfl
  have c0_1 := K0.out.at_ 1 _ rfl
  have c0_2 := K0.out.at_ 2 _ rfl
  have c0_3 := K0.out.at_ 3 _ rfl
  have c0_4 := K0.out.at_ 4 _ rfl
  have c0_5 := K0.out.at_ 5 _ rfl
  have c0_6 := K0.out.at_ 6 _ rfl
  go_upto_region 4 with (
   (first
    | (go_at_call 33; with_reducible refine (H_PA.out _ (baseI B.out)).mono ?_)
    | (go_at_call 34; with_reducible refine (H_KI.out _ (baseI B.out)).mono ?_)
    | fail "arm"); rintro e wx ⟨rfl, q⟩; replace K0 := Lib.hid (K0.out.nearI q); replace B := Lib.hid (goI B.out q); clear q; replace c0_0 := K0.out.at_ 0 _ rfl; replace c0_1 := K0.out.at_ 1 _ rfl; replace c0_2 := K0.out.at_ 2 _ rfl; replace c0_3 := K0.out.at_ 3 _ rfl; replace c0_4 := K0.out.at_ 4 _ rfl; replace c0_5 := K0.out.at_ 5 _ rfl; replace c0_6 := K0.out.at_ 6 _ rfl)
  clear c0_0 c0_1 c0_2 c0_3 c0_4 c0_5 c0_6
  have lt0 := K0.out.lt
  refine wp_region_seq2 [26, 27, 28, 29, 7, 8] (RJ w wx.heap.size [.v 26 (.agg #[.string C1, .string C2, .string C3]), .v 27 (.agg #[.string C1, .string C2, .string C3, .string ⟨#[48]⟩]), .v 28 (.agg #[.string D1, .string D2, .string D3]), .v 29 (.agg #[.string D1, .string D2, .string D3, .string ⟨#[48]⟩]), .n 7, .n 8, .z, .z] [⟨4, 7, fun g => .pointer (some ⟨g, 0, none⟩), #[.string ⟨#[]⟩, .string ⟨#[]⟩, .string ⟨#[]⟩, .string ⟨#[]⟩], 26, some (6, #[.string C1, .string C2, .string C3, .string ⟨#[48]⟩])⟩, ⟨5, 8, fun g => .pointer (some ⟨g, 0, none⟩), #[.string ⟨#[]⟩, .string ⟨#[]⟩, .string ⟨#[]⟩, .string ⟨#[]⟩], 26, some (7, #[.string D1, .string D2, .string D3, .string ⟨#[48]⟩])⟩] [⟨g1_4, #[.string A1, .string A2, .string A3, .string ⟨#[48]⟩, .string S1, .string S2, .string S3], 58, none⟩] [] [(6, 4), (7, 5)] [(0, 1)] []) (by kernel_rfl) (by kernel_rfl) ?_ ?_ ?_
  · exact RJ.start rfl B.out (by exact ⟨K0.out, trivial⟩)
  · refine ⟨?_, ?_, ?_, ?_, ?_, ?_, ?_, ?_, trivial⟩
    · rintro L a U ho J hn hd KK hK; refine Wants.free rfl ?_; go_simp; go_at_call 30; (with_reducible refine (H_S3.out _ J.bb).mono ?_); rintro e wy ⟨rfl, q⟩; go_simp; exact hK.out _ _ (J.sq 0 rfl rfl q)
    · rintro L a U ho J hn hd KK hK; refine Wants.free rfl ?_; have r26 := J.read 0 rfl (hd 0 (by decide)); go_simp; exact hK.out _ _ (J.st 1 rfl rfl)
    · rintro L a U ho J hn hd KK hK; refine Wants.free rfl ?_; go_simp; go_at_call 30; (with_reducible refine (H_S4.out _ J.bb).mono ?_); rintro e wy ⟨rfl, q⟩; go_simp; exact hK.out _ _ (J.sq 2 rfl rfl q)
    · rintro L a U ho J hn hd KK hK; refine Wants.free rfl ?_; have r28 := J.read 2 rfl (hd 2 (by decide)); go_simp; exact hK.out _ _ (J.st 3 rfl rfl)
    · rintro L a U ho J hn hd KK hK; refine Wants.free rfl ?_; go_simp; exact hK.out _ _ (J.mf 4 0 rfl rfl rfl rfl rfl hn)
    · rintro L a U ho J hn hd KK hK; refine Wants.free rfl ?_; go_simp; exact hK.out _ _ (J.mf 5 1 rfl rfl rfl rfl rfl hn)
    · rintro L a U ho J hn hd KK hK; refine Wants.free rfl ?_; have r7 : a.tmps[(7 : Nat)]?.getD undef = .pointer (some ⟨(blkOf (slotOf a 7)), 0, none⟩) := J.readN 0 rfl (hd 4 (by decide)); have r27 := J.read 1 rfl (hd 1 (by decide)); have kb := (J.nwB 0 rfl (hd 4 (by decide)) hn).blk; have c0 := kb.at_ 0 _ rfl; have z0 := kb.free 0; have c1 := kb.at_ 1 _ rfl; have z1 := kb.free 1; have c2 := kb.at_ 2 _ rfl; have z2 := kb.free 2; have c3 := kb.at_ 3 _ rfl; have z3 := kb.free 3; clear kb; go_simp; exact hK.out undef _ (J.storedN 6 0 rfl rfl rfl rfl rfl 0 [.string C1, .string C2, .string C3, .string ⟨#[48]⟩] rfl ⟨lt0, trivial⟩ (hd 4 (by decide)) hn ⟨.inr (hd 4 (by decide)), .inl (by decide), trivial⟩)
    · rintro L a U ho J hn hd KK hK; refine Wants.free rfl ?_; have r8 : a.tmps[(8 : Nat)]?.getD undef = .pointer (some ⟨(blkOf (slotOf a 8)), 0, none⟩) := J.readN 1 rfl (hd 5 (by decide)); have r29 := J.read 3 rfl (hd 3 (by decide)); have kb := (J.nwB 1 rfl (hd 5 (by decide)) hn).blk; have c0 := kb.at_ 0 _ rfl; have z0 := kb.free 0; have c1 := kb.at_ 1 _ rfl; have z1 := kb.free 1; have c2 := kb.at_ 2 _ rfl; have z2 := kb.free 2; have c3 := kb.at_ 3 _ rfl; have z3 := kb.free 3; clear kb; go_simp; exact hK.out undef _ (J.storedN 7 1 rfl rfl rfl rfl rfl 0 [.string D1, .string D2, .string D3, .string ⟨#[48]⟩] rfl ⟨lt0, trivial⟩ (hd 5 (by decide)) hn ⟨.inl (by decide), .inr (hd 5 (by decide)), trivial⟩)
  rintro L σ W2 J hL
  have hf := J.fin rfl hL
  simp only [finR] at hf
  obtain ⟨e1, l1, k1⟩ := J.nwW 0 rfl (hL 4 (by decide)) (hL 6 (by decide))
  obtain ⟨e2, l2, k2⟩ := J.nwW 1 rfl (hL 5 (by decide)) (hL 7 (by decide))
  have jd1_2 : blkOf (σ 7) ≠ blkOf (σ 8) := J.dis 0 _ _ _ rfl rfl rfl (hL 4 (by decide)) (hL 5 (by decide))
  replace K0 := Lib.hid (J.eld 0 rfl)
  have low := J.low
  replace B := Lib.hid J.bb
  clear J hL
  try dsimp only at e1 e2
  generalize blkOf (σ 7) = g2_4 at *
  generalize blkOf (σ 8) = g2_5 at *
  have K1 := Lib.hid k1
  have L1 := Lib.hid (Nat.le_trans low l1)
  have K2 := Lib.hid k2
  have L2 := Lib.hid (Nat.le_trans low l2)
  have D1_2 := Lib.hid jd1_2
  clear lt0 l1 l2 k1 k2 jd1_2 low
  rw [show List.map σ [26, 27, 28, 29, 7, 8] = _ from hf, e1, e2]
  clear hf e1 e2
  simp only [putAll, List.map, Act.put, List.setIfInBounds_toArray, List.set_cons_succ, List.set_cons_zero]
  go_upto_region 5 with (fail)
  have lt0 := K0.out.lt
  have lt1 := K1.out.lt
  have lt2 := K2.out.lt
  refine wp_region_seq2 [31, 32, 33, 34, 35, 36, 37, 30, 38, 39, 9, 10] (RJ w W2.heap.size [.v 31 (.pointer (some ⟨g1_4, 0, none⟩)), .v 32 (.agg #[.string A1, .string A2, .string A3, .string ⟨#[48]⟩]), .v 33 (.agg #[.string C1, .string C2, .string C3, .string ⟨#[48]⟩]), .v 34 (.agg #[.string C1, .string C2, .string C3, .string ⟨#[48]⟩, .string ⟨#[45, 49]⟩]), .v 35 (.agg #[.string D1, .string D2, .string D3, .string ⟨#[48]⟩]), .v 36 (.agg #[.string D1, .string D2, .string D3, .string ⟨#[48]⟩, .string ⟨#[48]⟩]), .v 37 (.tuple #[.agg #[.string S1, .string S2, .string S3], .int .i64 0]), .v 30 (.tuple #[.agg #[.string S1, .string S2, .string S3], .int .i64 0]), .v 38 (.agg #[.string S1, .string S2, .string S3]), .v 39 (.int .i64 0), .n 9, .z, .v 10 (.int .i64 0)] [⟨10, 9, fun g => .pointer (some ⟨g, 0, none⟩), #[.string ⟨#[]⟩, .string ⟨#[]⟩, .string ⟨#[]⟩], 24, some (11, #[.string S1, .string S2, .string S3])⟩] [⟨g1_4, #[.string A1, .string A2, .string A3, .string ⟨#[48]⟩, .string S1, .string S2, .string S3], 58, none⟩, ⟨g2_4, #[.string C1, .string C2, .string C3, .string ⟨#[48]⟩], 26, none⟩, ⟨g2_5, #[.string D1, .string D2, .string D3, .string ⟨#[48]⟩], 26, none⟩] [] [(11, 10)] [] []) (by kernel_rfl) (by kernel_rfl) ?_ ?_ ?_
  · exact RJ.start rfl B.out (by exact ⟨K0.out, K1.out, K2.out, trivial⟩)
  · refine ⟨?_, ?_, ?_, ?_, ?_, ?_, ?_, ?_, ?_, ?_, ?_, ?_, ?_, trivial⟩
    · rintro L a U ho J hn hd KK hK; refine Wants.free rfl ?_; have r1 : a.tmps[(1 : Nat)]?.getD undef = .pointer (some ⟨g1_4, 0, none⟩) := ho.slot 1 rfl; go_simp; exact hK.out _ _ (J.st 0 rfl rfl)
    · rintro L a U ho J hn hd KK hK; refine Wants.free rfl ?_; have r31 := J.read 0 rfl (hd 0 (by decide)); have kb := (J.eld 0 rfl); have c0 := kb.at_ 0 _ rfl; have c1 := kb.at_ 1 _ rfl; have c2 := kb.at_ 2 _ rfl; have c3 := kb.at_ 3 _ rfl; clear kb; go_simp; exact hK.out _ _ (J.st 1 rfl rfl)
    · rintro L a U ho J hn hd KK hK; refine Wants.free rfl ?_; have r7 : a.tmps[(7 : Nat)]?.getD undef = .pointer (some ⟨g2_4, 0, none⟩) := ho.slot 7 rfl; have kb := (J.eld 1 rfl); have c0 := kb.at_ 0 _ rfl; have c1 := kb.at_ 1 _ rfl; have c2 := kb.at_ 2 _ rfl; have c3 := kb.at_ 3 _ rfl; clear kb; go_simp; exact hK.out _ _ (J.st 2 rfl rfl)
    · rintro L a U ho J hn hd KK hK; refine Wants.free rfl ?_; have r33 := J.read 2 rfl (hd 2 (by decide)); go_simp; exact hK.out _ _ (J.st 3 rfl rfl)
    · rintro L a U ho J hn hd KK hK; refine Wants.free rfl ?_; have r8 : a.tmps[(8 : Nat)]?.getD undef = .pointer (some ⟨g2_5, 0, none⟩) := ho.slot 8 rfl; have kb := (J.eld 2 rfl); have c0 := kb.at_ 0 _ rfl; have c1 := kb.at_ 1 _ rfl; have c2 := kb.at_ 2 _ rfl; have c3 := kb.at_ 3 _ rfl; clear kb; go_simp; exact hK.out _ _ (J.st 4 rfl rfl)
    · rintro L a U ho J hn hd KK hK; refine Wants.free rfl ?_; have r35 := J.read 4 rfl (hd 4 (by decide)); go_simp; exact hK.out _ _ (J.st 5 rfl rfl)
    · rintro L a U ho J hn hd KK hK; refine Wants.free rfl ?_; have r32 := J.read 1 rfl (hd 1 (by decide)); have r34 := J.read 3 rfl (hd 3 (by decide)); have r36 := J.read 5 rfl (hd 5 (by decide)); go_simp; go_at_call 13; (with_reducible refine (H_SO.out _ J.bb).mono ?_); rintro e wy ⟨rfl, q⟩; go_simp; exact hK.out _ _ (J.sq 6 rfl rfl q)
    · rintro L a U ho J hn hd KK hK; refine Wants.free rfl ?_; have r37 := J.read 6 rfl (hd 6 (by decide)); go_simp; exact hK.out _ _ (J.st 7 rfl rfl)
    · rintro L a U ho J hn hd KK hK; refine Wants.free rfl ?_; have r30 := J.read 7 rfl (hd 7 (by decide)); go_simp; exact hK.out _ _ (J.st 8 rfl rfl)
    · rintro L a U ho J hn hd KK hK; refine Wants.free rfl ?_; have r30 := J.read 7 rfl (hd 7 (by decide)); go_simp; exact hK.out _ _ (J.st 9 rfl rfl)
    · rintro L a U ho J hn hd KK hK; refine Wants.free rfl ?_; go_simp; exact hK.out _ _ (J.mf 10 0 rfl rfl rfl rfl rfl hn)
    · rintro L a U ho J hn hd KK hK; refine Wants.free rfl ?_; have r9 : a.tmps[(9 : Nat)]?.getD undef = .pointer (some ⟨(blkOf (slotOf a 9)), 0, none⟩) := J.readN 0 rfl (hd 10 (by decide)); have r38 := J.read 8 rfl (hd 8 (by decide)); have kb := (J.nwB 0 rfl (hd 10 (by decide)) hn).blk; have c0 := kb.at_ 0 _ rfl; have z0 := kb.free 0; have c1 := kb.at_ 1 _ rfl; have z1 := kb.free 1; have c2 := kb.at_ 2 _ rfl; have z2 := kb.free 2; clear kb; go_simp; exact hK.out undef _ (J.storedN 11 0 rfl rfl rfl rfl rfl 0 [.string S1, .string S2, .string S3] rfl ⟨lt0, lt1, lt2, trivial⟩ (hd 10 (by decide)) hn ⟨.inr (hd 10 (by decide)), trivial⟩)
    · rintro L a U ho J hn hd KK hK; refine Wants.free rfl ?_; have r39 := J.read 9 rfl (hd 9 (by decide)); go_simp; exact hK.out _ _ (J.st 12 rfl rfl)
  rintro L σ W3 J hL
  have hf := J.fin rfl hL
  simp only [finR] at hf
  obtain ⟨e3, l3, k3⟩ := J.nwW 0 rfl (hL 10 (by decide)) (hL 11 (by decide))
  replace K0 := Lib.hid (J.eld 0 rfl)
  replace K1 := Lib.hid (J.eld 1 rfl)
  replace K2 := Lib.hid (J.eld 2 rfl)
  have low := J.low
  replace B := Lib.hid J.bb
  clear J hL
  try dsimp only at e3
  generalize blkOf (σ 9) = g3_10 at *
  have K3 := Lib.hid k3
  have L3 := Lib.hid (Nat.le_trans low l3)
  clear lt0 lt1 lt2 l3 k3 low
  rw [show List.map σ [31, 32, 33, 34, 35, 36, 37, 30, 38, 39, 9, 10] = _ from hf, e3]
  clear hf e3
  simp only [putAll, List.map, Act.put, List.setIfInBounds_toArray, List.set_cons_succ, List.set_cons_zero]
  have c0_4 := K0.out.at_ 4 _ rfl
  have c0_5 := K0.out.at_ 5 _ rfl
  have c0_6 := K0.out.at_ 6 _ rfl
  have c3_0 := K3.out.at_ 0 _ rfl
  have c3_1 := K3.out.at_ 1 _ rfl
  have c3_2 := K3.out.at_ 2 _ rfl
  go_wp2
  clear c0_4 c0_5 c0_6 c3_0 c3_1 c3_2
  go_ret
  exact ⟨rfl, B.out⟩

end Go.Proofs.YtopilnlniidejaaGreatDoor
