/- The walks of klippelaw42 and its references: vectors, planes, the examples. -/
import Derived.Test.YtopilnlniidejaaGreatDoorShelf
import Derived.Test.YtopilnlniidejaaGreatDoorGPar
import Derived.Deep.RegionHeld3
import Derived.Laws.ResultCell
import Derived.Deep.Cut
import Derived.Deep.CutRange
import Derived.Deep.DeepCutAuto
import Derived.Outline
/- The walks of klippelaw42 and of its references, over texts: the references' vectors. -/
namespace Go.Proofs.YtopilnlniidejaaGreatDoor
set_option linter.all false
open Go.RowKit

set_option maxRecDepth 100000 in
set_option maxHeartbeats 4000000 in
theorem rzero_t (A1 A2 A3 : ByteArray) (w : World)
  (h0 : (A1.toList == [48]) = true)
  (h1 : (A2.toList == [48]) = true)
  (h2 : (A3.toList == [48]) = true) :
  Calls Tryz.prog 16 #[.agg #[.string A1, .string A2, .string A3]] w fun e w' => e = .returned (.bool true) ∧ Below w.heap.size w w' := by
 have B := Lib.hid (Below.refl w.heap.size w)
 go_enter Tryz.func16, Tryz.ntmps16
 go_upto_region 0 with (fail)
 refine wp_tab [.n 1, .v 2 (.bool false)] [⟨0, 1, fun g => .pointer (some ⟨g, 0, none⟩), #[.string A1, .string A2, .string A3], 24, none⟩] [] [] [] [] [] [] (by kernel_rfl) B.out trivial trivial ⟨ml 0, pu, trivial⟩ ?_
 clear B
 rintro σ W1 ⟨⟨L0, K0⟩, _⟩ _ _ _ B
 simp only [slotsOf, finX, nval, nvalN, nvalA, Nat.reduceBEq, cond_true, cond_false, putAll, Act.put, List.setIfInBounds_toArray, List.set_cons_succ, List.set_cons_zero]
 generalize blkOf (σ 1) = g1_0 at *
 have c0_0 := K0.out.at_ 0 _ rfl
 have c0_1 := K0.out.at_ 1 _ rfl
 have c0_2 := K0.out.at_ 2 _ rfl
 go_wp2
 clear c0_0 c0_1 c0_2
 go_ret
 exact ⟨rfl, B.out⟩

set_option maxRecDepth 100000 in
set_option maxHeartbeats 4000000 in
theorem rzero_x (A1 A2 A3 : ByteArray) (w : World)
  (h0 : (A1.toList == [48]) = false) :
  Calls Tryz.prog 16 #[.agg #[.string A1, .string A2, .string A3]] w fun e w' => e = .returned (.bool false) ∧ Below w.heap.size w w' := by
 have B := Lib.hid (Below.refl w.heap.size w)
 go_enter Tryz.func16, Tryz.ntmps16
 go_upto_region 0 with (fail)
 refine wp_tab [.n 1, .v 2 (.bool false)] [⟨0, 1, fun g => .pointer (some ⟨g, 0, none⟩), #[.string A1, .string A2, .string A3], 24, none⟩] [] [] [] [] [] [] (by kernel_rfl) B.out trivial trivial ⟨ml 0, pu, trivial⟩ ?_
 clear B
 rintro σ W1 ⟨⟨L0, K0⟩, _⟩ _ _ _ B
 simp only [slotsOf, finX, nval, nvalN, nvalA, Nat.reduceBEq, cond_true, cond_false, putAll, Act.put, List.setIfInBounds_toArray, List.set_cons_succ, List.set_cons_zero]
 generalize blkOf (σ 1) = g1_0 at *
 have c0_0 := K0.out.at_ 0 _ rfl
 go_wp2
 clear c0_0
 go_ret
 exact ⟨rfl, B.out⟩

set_option maxRecDepth 100000 in
set_option maxHeartbeats 4000000 in
theorem rzero_y (A1 A2 A3 : ByteArray) (w : World)
  (h0 : (A1.toList == [48]) = true)
  (h1 : (A2.toList == [48]) = false) :
  Calls Tryz.prog 16 #[.agg #[.string A1, .string A2, .string A3]] w fun e w' => e = .returned (.bool false) ∧ Below w.heap.size w w' := by
 have B := Lib.hid (Below.refl w.heap.size w)
 go_enter Tryz.func16, Tryz.ntmps16
 go_upto_region 0 with (fail)
 refine wp_tab [.n 1, .v 2 (.bool false)] [⟨0, 1, fun g => .pointer (some ⟨g, 0, none⟩), #[.string A1, .string A2, .string A3], 24, none⟩] [] [] [] [] [] [] (by kernel_rfl) B.out trivial trivial ⟨ml 0, pu, trivial⟩ ?_
 clear B
 rintro σ W1 ⟨⟨L0, K0⟩, _⟩ _ _ _ B
 simp only [slotsOf, finX, nval, nvalN, nvalA, Nat.reduceBEq, cond_true, cond_false, putAll, Act.put, List.setIfInBounds_toArray, List.set_cons_succ, List.set_cons_zero]
 generalize blkOf (σ 1) = g1_0 at *
 have c0_0 := K0.out.at_ 0 _ rfl
 have c0_1 := K0.out.at_ 1 _ rfl
 go_wp2
 clear c0_0 c0_1
 go_ret
 exact ⟨rfl, B.out⟩

set_option maxRecDepth 100000 in
set_option maxHeartbeats 4000000 in
theorem rzero_z (A1 A2 A3 : ByteArray) (w : World)
  (h0 : (A1.toList == [48]) = true)
  (h1 : (A2.toList == [48]) = true)
  (h2 : (A3.toList == [48]) = false) :
  Calls Tryz.prog 16 #[.agg #[.string A1, .string A2, .string A3]] w fun e w' => e = .returned (.bool false) ∧ Below w.heap.size w w' := by
 have B := Lib.hid (Below.refl w.heap.size w)
 go_enter Tryz.func16, Tryz.ntmps16
 go_upto_region 0 with (fail)
 refine wp_tab [.n 1, .v 2 (.bool false)] [⟨0, 1, fun g => .pointer (some ⟨g, 0, none⟩), #[.string A1, .string A2, .string A3], 24, none⟩] [] [] [] [] [] [] (by kernel_rfl) B.out trivial trivial ⟨ml 0, pu, trivial⟩ ?_
 clear B
 rintro σ W1 ⟨⟨L0, K0⟩, _⟩ _ _ _ B
 simp only [slotsOf, finX, nval, nvalN, nvalA, Nat.reduceBEq, cond_true, cond_false, putAll, Act.put, List.setIfInBounds_toArray, List.set_cons_succ, List.set_cons_zero]
 generalize blkOf (σ 1) = g1_0 at *
 have c0_0 := K0.out.at_ 0 _ rfl
 have c0_1 := K0.out.at_ 1 _ rfl
 have c0_2 := K0.out.at_ 2 _ rfl
 go_wp2
 clear c0_0 c0_1 c0_2
 go_ret
 exact ⟨rfl, B.out⟩

set_option maxRecDepth 100000 in
set_option maxHeartbeats 4000000 in
theorem rlist_of (A1 A2 A3 : ByteArray) (w : World) :
  Calls Tryz.prog 60 #[.agg #[.string A1, .string A2, .string A3]] w fun e w' => ∃ g, e = .returned (.slice (some ⟨g, 0, none⟩) 3 3) ∧ w.heap.size ≤ g ∧ Blk w' g #[.string A1, .string A2, .string A3] 22 ∧ Below w.heap.size w w' := by
 have B := Lib.hid (Below.refl w.heap.size w)
 go_enter Tryz.func60, Tryz.ntmps60
 go_upto_region 0 with (fail)
 refine wp_tab [.n 1, .v 2 (.slice none 0 0)] [⟨0, 1, fun g => .pointer (some ⟨g, 0, none⟩), #[.string A1, .string A2, .string A3], 24, none⟩] [] [] [] [] [] [] (by kernel_rfl) B.out trivial trivial ⟨ml 0, pu, trivial⟩ ?_
 clear B
 rintro σ W1 ⟨⟨L0, K0⟩, _⟩ _ _ _ B
 simp only [slotsOf, finX, nval, nvalN, nvalA, Nat.reduceBEq, cond_true, cond_false, putAll, Act.put, List.setIfInBounds_toArray, List.set_cons_succ, List.set_cons_zero]
 generalize blkOf (σ 1) = g1_0 at *
 go_upto_region 1 with (fail)
 refine wp_tab [.v 3 (.pointer (some ⟨g1_0, 0, none⟩)), .v 4 (.string A1), .v 5 (.pointer (some ⟨g1_0, 1, none⟩)), .v 6 (.string A2), .v 7 (.pointer (some ⟨g1_0, 2, none⟩)), .v 8 (.string A3), .n 9, .n 2] [⟨6, 9, fun g => .slice (some ⟨g, 0, none⟩) 3 3, #[.string A1, .string A2, .string A3], 22, none⟩] [⟨g1_0, #[.string A1, .string A2, .string A3], 24, none⟩] [⟨7, 2, 9, 6, fun g => .slice (some ⟨g, 0, none⟩) 3 3⟩] [] [] [] [] (by kernel_rfl) B.out ⟨K0.out, trivial⟩ trivial ⟨pu, ld 0 0, pu, ld 0 1, pu, ld 0 2, ml 0, wa 0, trivial⟩ ?_
 clear K0 B
 rintro σ W2 ⟨⟨L1, K1⟩, _⟩ ⟨K0, _⟩ _ _ B
 simp only [slotsOf, finX, nval, nvalN, nvalA, Nat.reduceBEq, cond_true, cond_false, putAll, Act.put, List.setIfInBounds_toArray, List.set_cons_succ, List.set_cons_zero]
 generalize blkOf (σ 9) = g2_6 at *
 go_wp2
 go_ret
 exact ⟨_, rfl, L1.out, K1.out, B.out⟩

set_option maxRecDepth 100000 in
set_option maxHeartbeats 4000000 in
theorem rdot_of (A1 A2 A3 C1 C2 C3 R : ByteArray) (w : World)
  (h_l1 : ∀ (W : World), Below w.heap.size w W → Calls Tryz.prog 60 #[.agg #[.string A1, .string A2, .string A3]] W fun e w' => ∃ g, e = .returned (.slice (some ⟨g, 0, none⟩) 3 3) ∧ W.heap.size ≤ g ∧ Blk w' g #[.string A1, .string A2, .string A3] 22 ∧ Below W.heap.size W w')
  (h_l2 : ∀ (W : World), Below w.heap.size w W → Calls Tryz.prog 60 #[.agg #[.string C1, .string C2, .string C3]] W fun e w' => ∃ g, e = .returned (.slice (some ⟨g, 0, none⟩) 3 3) ∧ W.heap.size ≤ g ∧ Blk w' g #[.string C1, .string C2, .string C3] 22 ∧ Below W.heap.size W w')
  (h_d1 : ∀ (W : World) (b0 : Nat) (b1 : Nat), Blk W b0 #[.string A1, .string A2, .string A3] 22 → Blk W b1 #[.string C1, .string C2, .string C3] 22 → Below w.heap.size w W → Calls Tryz.prog 89 #[.slice (some ⟨b0, 0, none⟩) 3 3, .slice (some ⟨b1, 0, none⟩) 3 3] W fun e w' => e = .returned (.string R) ∧ Below W.heap.size W w') :
  Calls Tryz.prog 58 #[.agg #[.string A1, .string A2, .string A3], .agg #[.string C1, .string C2, .string C3]] w fun e w' => e = .returned (.string R) ∧ Below w.heap.size w w' := by
 have H_L1 := Lib.hid h_l1
 have H_L2 := Lib.hid h_l2
 have H_D1 := Lib.hid h_d1
 clear h_l1 h_l2 h_d1
 have B := Lib.hid (Below.refl w.heap.size w)
 go_enter Tryz.func58, Tryz.ntmps58
 go_upto_region 0 with (fail)
 refine wp_tab [.n 2, .n 3, .v 4 (.string ⟨#[]⟩)] [⟨0, 2, fun g => .pointer (some ⟨g, 0, none⟩), #[.string A1, .string A2, .string A3], 24, none⟩, ⟨1, 3, fun g => .pointer (some ⟨g, 0, none⟩), #[.string C1, .string C2, .string C3], 24, none⟩] [] [] [] [] [] [] (by kernel_rfl) B.out trivial trivial ⟨ml 0, ml 1, pu, trivial⟩ ?_
 clear B
 rintro σ W1 ⟨⟨L0, K0⟩, ⟨L1, K1⟩, _⟩ _ _ _ B
 simp only [slotsOf, finX, nval, nvalN, nvalA, Nat.reduceBEq, cond_true, cond_false, putAll, Act.put, List.setIfInBounds_toArray, List.set_cons_succ, List.set_cons_zero]
 generalize blkOf (σ 2) = g1_0 at *
 generalize blkOf (σ 3) = g1_1 at *
 go_upto_region 1 with (fail)
 refine wp_tab [.v 5 (.agg #[.string A1, .string A2, .string A3]), .n 6, .v 7 (.agg #[.string C1, .string C2, .string C3]), .n 8, .v 9 (.string R), .v 4 (.string R)] [⟨1, 6, fun g => .slice (some ⟨g, 0, none⟩) 3 3, #[.string A1, .string A2, .string A3], 22, none⟩, ⟨3, 8, fun g => .slice (some ⟨g, 0, none⟩) 3 3, #[.string C1, .string C2, .string C3], 22, none⟩] [⟨g1_0, #[.string A1, .string A2, .string A3], 24, none⟩, ⟨g1_1, #[.string C1, .string C2, .string C3], 24, none⟩] [] [] [] [] [] (by kernel_rfl) B.out ⟨K0.out, K1.out, trivial⟩ trivial ⟨ld 0 0, ?_, ld 1 0, ?_, c2 0 1 H_D1.out, pu, trivial⟩ ?_
 · intro L a U ho J hn d KK k; refine .free rfl ?_; have r5 := J.read 0 rfl (d.get 0 rfl); go_simp; go_at_call 60; (with_reducible refine (H_L1.out _ J.bb).mono ?_); rintro e wy ⟨jg, rfl, jgl, jgb, q⟩; go_simp; exact k.out _ _ (J.mq 1 0 rfl rfl rfl rfl rfl jgl jgb q hn)
 · intro L a U ho J hn d KK k; refine .free rfl ?_; have r7 := J.read 2 rfl (d.get 2 rfl); go_simp; go_at_call 60; (with_reducible refine (H_L2.out _ J.bb).mono ?_); rintro e wy ⟨jg, rfl, jgl, jgb, q⟩; go_simp; exact k.out _ _ (J.mq 3 1 rfl rfl rfl rfl rfl jgl jgb q hn)
 clear K0 K1 B
 rintro σ W2 ⟨⟨L2, K2⟩, ⟨L3, K3⟩, _⟩ ⟨K0, K1, _⟩ _ _ B
 simp only [slotsOf, finX, nval, nvalN, nvalA, Nat.reduceBEq, cond_true, cond_false, putAll, Act.put, List.setIfInBounds_toArray, List.set_cons_succ, List.set_cons_zero]
 generalize blkOf (σ 6) = g2_1 at *
 generalize blkOf (σ 8) = g2_3 at *
 go_wp2
 go_ret
 exact ⟨rfl, B.out⟩

set_option maxRecDepth 100000 in
set_option maxHeartbeats 4000000 in
theorem rright_of (A1 A2 A3 : ByteArray) (r : Bool) (w : World)
  (h_l1 : ∀ (W : World), Below w.heap.size w W → Calls Tryz.prog 60 #[.agg #[.string A1, .string A2, .string A3]] W fun e w' => ∃ g, e = .returned (.slice (some ⟨g, 0, none⟩) 3 3) ∧ W.heap.size ≤ g ∧ Blk w' g #[.string A1, .string A2, .string A3] 22 ∧ Below W.heap.size W w')
  (h_n1 : ∀ (W : World) (b0 : Nat), Blk W b0 #[.string A1, .string A2, .string A3] 22 → Below w.heap.size w W → Calls Tryz.prog 39 #[.slice (some ⟨b0, 0, none⟩) 3 3] W fun e w' => e = .returned (.bool r) ∧ Below W.heap.size W w') :
  Calls Tryz.prog 19 #[.agg #[.string A1, .string A2, .string A3]] w fun e w' => e = .returned (.bool r) ∧ Below w.heap.size w w' := by
 have H_L1 := Lib.hid h_l1
 have H_N1 := Lib.hid h_n1
 clear h_l1 h_n1
 have B := Lib.hid (Below.refl w.heap.size w)
 go_enter Tryz.func19, Tryz.ntmps19
 go_upto_region 0 with (fail)
 refine wp_tab [.n 1, .v 2 (.bool false)] [⟨0, 1, fun g => .pointer (some ⟨g, 0, none⟩), #[.string A1, .string A2, .string A3], 24, none⟩] [] [] [] [] [] [] (by kernel_rfl) B.out trivial trivial ⟨ml 0, pu, trivial⟩ ?_
 clear B
 rintro σ W1 ⟨⟨L0, K0⟩, _⟩ _ _ _ B
 simp only [slotsOf, finX, nval, nvalN, nvalA, Nat.reduceBEq, cond_true, cond_false, putAll, Act.put, List.setIfInBounds_toArray, List.set_cons_succ, List.set_cons_zero]
 generalize blkOf (σ 1) = g1_0 at *
 go_upto_region 1 with (fail)
 refine wp_tab [.v 3 (.agg #[.string A1, .string A2, .string A3]), .n 4, .v 5 (.bool r), .v 2 (.bool r)] [⟨1, 4, fun g => .slice (some ⟨g, 0, none⟩) 3 3, #[.string A1, .string A2, .string A3], 22, none⟩] [⟨g1_0, #[.string A1, .string A2, .string A3], 24, none⟩] [] [] [] [] [] (by kernel_rfl) B.out ⟨K0.out, trivial⟩ trivial ⟨ld 0 0, ?_, c1 0 H_N1.out, pu, trivial⟩ ?_
 · intro L a U ho J hn d KK k; refine .free rfl ?_; have r3 := J.read 0 rfl (d.get 0 rfl); go_simp; go_at_call 60; (with_reducible refine (H_L1.out _ J.bb).mono ?_); rintro e wy ⟨jg, rfl, jgl, jgb, q⟩; go_simp; exact k.out _ _ (J.mq 1 0 rfl rfl rfl rfl rfl jgl jgb q hn)
 clear K0 B
 rintro σ W2 ⟨⟨L1, K1⟩, _⟩ ⟨K0, _⟩ _ _ B
 simp only [slotsOf, finX, nval, nvalN, nvalA, Nat.reduceBEq, cond_true, cond_false, putAll, Act.put, List.setIfInBounds_toArray, List.set_cons_succ, List.set_cons_zero]
 generalize blkOf (σ 4) = g2_1 at *
 go_wp2
 go_ret
 exact ⟨rfl, B.out⟩

set_option maxRecDepth 100000 in
set_option maxHeartbeats 4000000 in
theorem rminor_of (A C D F P Q R : ByteArray) (w : World)
  (h_m1 : Ret Tryz.prog w 37 #[.string A, .string F] (.string P))
  (h_m2 : Ret Tryz.prog w 37 #[.string C, .string D] (.string Q))
  (h_m3 : Ret Tryz.prog w 20 #[.string P, .string Q] (.string R)) :
  Calls Tryz.prog 59 #[.string A, .string C, .string D, .string F] w fun e w' => e = .returned (.string R) ∧ Below w.heap.size w w' := by
 have H_M1 := Lib.hid h_m1
 have H_M2 := Lib.hid h_m2
 have H_M3 := Lib.hid h_m3
 clear h_m1 h_m2 h_m3
 have B := Lib.hid (Below.refl w.heap.size w)
 go_enter Tryz.func59, Tryz.ntmps59
 go_wp2_with (
  (first
  | (go_at_call 37; with_reducible refine (H_M1.out _ (baseI B.out)).mono ?_)
  | (go_at_call 37; with_reducible refine (H_M2.out _ (baseI B.out)).mono ?_)
  | (go_at_call 20; with_reducible refine (H_M3.out _ (baseI B.out)).mono ?_)
  | fail "arm"); rintro e wx ⟨rfl, q⟩; replace B := Lib.hid (goI B.out q); clear q)
 go_ret
 exact ⟨rfl, B.out⟩

set_option maxRecDepth 100000 in
set_option maxHeartbeats 4000000 in
theorem rcross_of (A1 A2 A3 C1 C2 C3 P1 P2 P3 : ByteArray) (w : World)
  (h_m1 : Ret Tryz.prog w 59 #[.string A2, .string A3, .string C2, .string C3] (.string P1))
  (h_m2 : Ret Tryz.prog w 59 #[.string A3, .string A1, .string C3, .string C1] (.string P2))
  (h_m3 : Ret Tryz.prog w 59 #[.string A1, .string A2, .string C1, .string C2] (.string P3)) :
  Calls Tryz.prog 18 #[.agg #[.string A1, .string A2, .string A3], .agg #[.string C1, .string C2, .string C3]] w fun e w' => e = .returned (.agg #[.string P1, .string P2, .string P3]) ∧ Below w.heap.size w w' := by
 have H_M1 := Lib.hid h_m1
 have H_M2 := Lib.hid h_m2
 have H_M3 := Lib.hid h_m3
 clear h_m1 h_m2 h_m3
 have B := Lib.hid (Below.refl w.heap.size w)
 go_enter Tryz.func18, Tryz.ntmps18
 go_upto_region 0 with (fail)
 refine wp_tab [.n 2, .n 3, .n 4] [⟨0, 2, fun g => .pointer (some ⟨g, 0, none⟩), #[.string A1, .string A2, .string A3], 24, none⟩, ⟨1, 3, fun g => .pointer (some ⟨g, 0, none⟩), #[.string C1, .string C2, .string C3], 24, none⟩, ⟨2, 4, fun g => .pointer (some ⟨g, 0, none⟩), #[.string ⟨#[]⟩, .string ⟨#[]⟩, .string ⟨#[]⟩], 24, none⟩] [] [] [] [(0, 2), (1, 2)] [] [] (by kernel_rfl) B.out trivial trivial ⟨ml 0, ml 1, ml 2, trivial⟩ ?_
 clear B
 rintro σ W1 ⟨⟨L0, K0⟩, ⟨L1, K1⟩, ⟨L2, K2⟩, _⟩ _ _ ⟨y0, y1, _⟩ B
 have D0_2 : Hid (blkOf (σ 2) ≠ blkOf (σ 4)) := y0
 have D1_2 : Hid (blkOf (σ 3) ≠ blkOf (σ 4)) := y1
 clear y0 y1
 simp only [slotsOf, finX, nval, nvalN, nvalA, Nat.reduceBEq, cond_true, cond_false, putAll, Act.put, List.setIfInBounds_toArray, List.set_cons_succ, List.set_cons_zero]
 generalize blkOf (σ 2) = g1_0 at *
 generalize blkOf (σ 3) = g1_1 at *
 generalize blkOf (σ 4) = g1_2 at *
 go_upto_region 1 with (fail)
 have lt0 := K0.out.lt
 have lt1 := K1.out.lt
 have lt2 := K2.out.lt
 refine wp_tab [.v 5 (.pointer (some ⟨g1_0, 1, none⟩)), .v 6 (.string A2), .v 7 (.pointer (some ⟨g1_0, 2, none⟩)), .v 8 (.string A3), .v 9 (.pointer (some ⟨g1_1, 1, none⟩)), .v 10 (.string C2), .v 11 (.pointer (some ⟨g1_1, 2, none⟩)), .v 12 (.string C3), .v 13 (.string P1), .v 14 (.pointer (some ⟨g1_0, 2, none⟩)), .v 15 (.string A3), .v 16 (.pointer (some ⟨g1_0, 0, none⟩)), .v 17 (.string A1), .v 18 (.pointer (some ⟨g1_1, 2, none⟩)), .v 19 (.string C3), .v 20 (.pointer (some ⟨g1_1, 0, none⟩)), .v 21 (.string C1), .v 22 (.string P2), .v 23 (.pointer (some ⟨g1_0, 0, none⟩)), .v 24 (.string A1), .v 25 (.pointer (some ⟨g1_0, 1, none⟩)), .v 26 (.string A2), .v 27 (.pointer (some ⟨g1_1, 0, none⟩)), .v 28 (.string C1), .v 29 (.pointer (some ⟨g1_1, 1, none⟩)), .v 30 (.string C2), .v 31 (.string P3), .v 32 (.agg #[.string P1, .string P2, .string P3]), .z] [] [⟨g1_0, #[.string A1, .string A2, .string A3], 24, none⟩, ⟨g1_1, #[.string C1, .string C2, .string C3], 24, none⟩, ⟨g1_2, #[.string ⟨#[]⟩, .string ⟨#[]⟩, .string ⟨#[]⟩], 24, some (28, #[.string P1, .string P2, .string P3])⟩] [] [] [] [] [] (by kernel_rfl) B.out ⟨K0.out, K1.out, K2.out, trivial⟩ trivial ⟨pu, ld 0 1, pu, ld 0 2, pu, ld 1 1, pu, ld 1 2, cl H_M1.out, pu, ld 0 2, pu, ld 0 0, pu, ld 1 2, pu, ld 1 0, cl H_M2.out, pu, ld 0 0, pu, ld 0 1, pu, ld 1 0, pu, ld 1 1, cl H_M3.out, pu, ?_, trivial⟩ ?_
 · intro L a U ho J hn d KK k; refine .free rfl ?_; have r4 : a.tmps[(4 : Nat)]?.getD undef = .pointer (some ⟨g1_2, 0, none⟩) := ho.slot 4 rfl; have r32 := J.read 27 rfl (d.get 27 rfl); have kb := (J.eldB 2 rfl hn); have c0 := kb.at_ 0 _ rfl; have z0 := kb.free 0; have c1 := kb.at_ 1 _ rfl; have z1 := kb.free 1; have c2 := kb.at_ 2 _ rfl; have z2 := kb.free 2; clear kb; go_simp; exact k.out undef _ (J.stored 28 2 rfl rfl (.inl rfl) rfl rfl 0 [.string P1, .string P2, .string P3] rfl L2.out lt2 ⟨.inr D0_2.out, .inr D1_2.out, .inl rfl, trivial⟩ hn trivial)
 clear K0 K1 K2 B lt0 lt1 lt2
 rintro σ W2 _ ⟨K0, K1, K2, _⟩ _ _ B
 simp only [slotsOf, finX, nval, nvalN, nvalA, Nat.reduceBEq, cond_true, cond_false, putAll, Act.put, List.setIfInBounds_toArray, List.set_cons_succ, List.set_cons_zero]
 go_wp2
 have c2_0 := K2.out.at_ 0 _ rfl
 have c2_1 := K2.out.at_ 1 _ rfl
 have c2_2 := K2.out.at_ 2 _ rfl
 exact bodyPost_ret (v := .agg #[.string P1, .string P2, .string P3]) (by simp [results, Tryz.results18, go_sem, c2_0, c2_1, c2_2]) rfl ⟨rfl, B.out⟩

set_option maxRecDepth 100000 in
set_option maxHeartbeats 4000000 in
theorem radd3_of (A1 A2 A3 C1 C2 C3 P1 P2 P3 : ByteArray) (w : World)
  (h_m1 : Ret Tryz.prog w 29 #[.string A1, .string C1] (.string P1))
  (h_m2 : Ret Tryz.prog w 29 #[.string A2, .string C2] (.string P2))
  (h_m3 : Ret Tryz.prog w 29 #[.string A3, .string C3] (.string P3)) :
  Calls Tryz.prog 23 #[.agg #[.string A1, .string A2, .string A3], .agg #[.string C1, .string C2, .string C3]] w fun e w' => e = .returned (.agg #[.string P1, .string P2, .string P3]) ∧ Below w.heap.size w w' := by
 have H_M1 := Lib.hid h_m1
 have H_M2 := Lib.hid h_m2
 have H_M3 := Lib.hid h_m3
 clear h_m1 h_m2 h_m3
 have B := Lib.hid (Below.refl w.heap.size w)
 go_enter Tryz.func23, Tryz.ntmps23
 go_upto_region 0 with (fail)
 refine wp_tab [.n 2, .n 3, .n 4] [⟨0, 2, fun g => .pointer (some ⟨g, 0, none⟩), #[.string A1, .string A2, .string A3], 24, none⟩, ⟨1, 3, fun g => .pointer (some ⟨g, 0, none⟩), #[.string C1, .string C2, .string C3], 24, none⟩, ⟨2, 4, fun g => .pointer (some ⟨g, 0, none⟩), #[.string ⟨#[]⟩, .string ⟨#[]⟩, .string ⟨#[]⟩], 24, none⟩] [] [] [] [(0, 2), (1, 2)] [] [] (by kernel_rfl) B.out trivial trivial ⟨ml 0, ml 1, ml 2, trivial⟩ ?_
 clear B
 rintro σ W1 ⟨⟨L0, K0⟩, ⟨L1, K1⟩, ⟨L2, K2⟩, _⟩ _ _ ⟨y0, y1, _⟩ B
 have D0_2 : Hid (blkOf (σ 2) ≠ blkOf (σ 4)) := y0
 have D1_2 : Hid (blkOf (σ 3) ≠ blkOf (σ 4)) := y1
 clear y0 y1
 simp only [slotsOf, finX, nval, nvalN, nvalA, Nat.reduceBEq, cond_true, cond_false, putAll, Act.put, List.setIfInBounds_toArray, List.set_cons_succ, List.set_cons_zero]
 generalize blkOf (σ 2) = g1_0 at *
 generalize blkOf (σ 3) = g1_1 at *
 generalize blkOf (σ 4) = g1_2 at *
 go_upto_region 1 with (fail)
 have lt0 := K0.out.lt
 have lt1 := K1.out.lt
 have lt2 := K2.out.lt
 refine wp_tab [.v 5 (.pointer (some ⟨g1_0, 0, none⟩)), .v 6 (.string A1), .v 7 (.pointer (some ⟨g1_1, 0, none⟩)), .v 8 (.string C1), .v 9 (.string P1), .v 10 (.pointer (some ⟨g1_0, 1, none⟩)), .v 11 (.string A2), .v 12 (.pointer (some ⟨g1_1, 1, none⟩)), .v 13 (.string C2), .v 14 (.string P2), .v 15 (.pointer (some ⟨g1_0, 2, none⟩)), .v 16 (.string A3), .v 17 (.pointer (some ⟨g1_1, 2, none⟩)), .v 18 (.string C3), .v 19 (.string P3), .v 20 (.agg #[.string P1, .string P2, .string P3]), .z] [] [⟨g1_0, #[.string A1, .string A2, .string A3], 24, none⟩, ⟨g1_1, #[.string C1, .string C2, .string C3], 24, none⟩, ⟨g1_2, #[.string ⟨#[]⟩, .string ⟨#[]⟩, .string ⟨#[]⟩], 24, some (16, #[.string P1, .string P2, .string P3])⟩] [] [] [] [] [] (by kernel_rfl) B.out ⟨K0.out, K1.out, K2.out, trivial⟩ trivial ⟨pu, ld 0 0, pu, ld 1 0, cl H_M1.out, pu, ld 0 1, pu, ld 1 1, cl H_M2.out, pu, ld 0 2, pu, ld 1 2, cl H_M3.out, pu, ?_, trivial⟩ ?_
 · intro L a U ho J hn d KK k; refine .free rfl ?_; have r4 : a.tmps[(4 : Nat)]?.getD undef = .pointer (some ⟨g1_2, 0, none⟩) := ho.slot 4 rfl; have r20 := J.read 15 rfl (d.get 15 rfl); have kb := (J.eldB 2 rfl hn); have c0 := kb.at_ 0 _ rfl; have z0 := kb.free 0; have c1 := kb.at_ 1 _ rfl; have z1 := kb.free 1; have c2 := kb.at_ 2 _ rfl; have z2 := kb.free 2; clear kb; go_simp; exact k.out undef _ (J.stored 16 2 rfl rfl (.inl rfl) rfl rfl 0 [.string P1, .string P2, .string P3] rfl L2.out lt2 ⟨.inr D0_2.out, .inr D1_2.out, .inl rfl, trivial⟩ hn trivial)
 clear K0 K1 K2 B lt0 lt1 lt2
 rintro σ W2 _ ⟨K0, K1, K2, _⟩ _ _ B
 simp only [slotsOf, finX, nval, nvalN, nvalA, Nat.reduceBEq, cond_true, cond_false, putAll, Act.put, List.setIfInBounds_toArray, List.set_cons_succ, List.set_cons_zero]
 go_wp2
 have c2_0 := K2.out.at_ 0 _ rfl
 have c2_1 := K2.out.at_ 1 _ rfl
 have c2_2 := K2.out.at_ 2 _ rfl
 exact bodyPost_ret (v := .agg #[.string P1, .string P2, .string P3]) (by simp [results, Tryz.results23, go_sem, c2_0, c2_1, c2_2]) rfl ⟨rfl, B.out⟩

set_option maxRecDepth 100000 in
set_option maxHeartbeats 4000000 in
theorem rscale3_of (A1 A2 A3 T P1 P2 P3 : ByteArray) (w : World)
  (h_m1 : Ret Tryz.prog w 37 #[.string A1, .string T] (.string P1))
  (h_m2 : Ret Tryz.prog w 37 #[.string A2, .string T] (.string P2))
  (h_m3 : Ret Tryz.prog w 37 #[.string A3, .string T] (.string P3)) :
  Calls Tryz.prog 24 #[.agg #[.string A1, .string A2, .string A3], .string T] w fun e w' => e = .returned (.agg #[.string P1, .string P2, .string P3]) ∧ Below w.heap.size w w' := by
 have H_M1 := Lib.hid h_m1
 have H_M2 := Lib.hid h_m2
 have H_M3 := Lib.hid h_m3
 clear h_m1 h_m2 h_m3
 have B := Lib.hid (Below.refl w.heap.size w)
 go_enter Tryz.func24, Tryz.ntmps24
 go_upto_region 0 with (fail)
 refine wp_tab [.n 2, .n 4] [⟨0, 2, fun g => .pointer (some ⟨g, 0, none⟩), #[.string A1, .string A2, .string A3], 24, none⟩, ⟨1, 4, fun g => .pointer (some ⟨g, 0, none⟩), #[.string ⟨#[]⟩, .string ⟨#[]⟩, .string ⟨#[]⟩], 24, none⟩] [] [] [] [(0, 1)] [] [] (by kernel_rfl) B.out trivial trivial ⟨ml 0, ml 1, trivial⟩ ?_
 clear B
 rintro σ W1 ⟨⟨L0, K0⟩, ⟨L1, K1⟩, _⟩ _ _ ⟨y0, _⟩ B
 have D0_1 : Hid (blkOf (σ 2) ≠ blkOf (σ 4)) := y0
 clear y0
 simp only [slotsOf, finX, nval, nvalN, nvalA, Nat.reduceBEq, cond_true, cond_false, putAll, Act.put, List.setIfInBounds_toArray, List.set_cons_succ, List.set_cons_zero]
 generalize blkOf (σ 2) = g1_0 at *
 generalize blkOf (σ 4) = g1_1 at *
 go_upto_region 1 with (fail)
 have lt0 := K0.out.lt
 have lt1 := K1.out.lt
 refine wp_tab [.v 5 (.pointer (some ⟨g1_0, 0, none⟩)), .v 6 (.string A1), .v 7 (.string T), .v 8 (.string P1), .v 9 (.pointer (some ⟨g1_0, 1, none⟩)), .v 10 (.string A2), .v 11 (.string T), .v 12 (.string P2), .v 13 (.pointer (some ⟨g1_0, 2, none⟩)), .v 14 (.string A3), .v 15 (.string T), .v 16 (.string P3), .v 17 (.agg #[.string P1, .string P2, .string P3]), .z] [] [⟨g1_0, #[.string A1, .string A2, .string A3], 24, none⟩, ⟨g1_1, #[.string ⟨#[]⟩, .string ⟨#[]⟩, .string ⟨#[]⟩], 24, some (13, #[.string P1, .string P2, .string P3])⟩] [] [] [] [] [] (by kernel_rfl) B.out ⟨K0.out, K1.out, trivial⟩ trivial ⟨pu, ld 0 0, pu, cl H_M1.out, pu, ld 0 1, pu, cl H_M2.out, pu, ld 0 2, pu, cl H_M3.out, pu, ?_, trivial⟩ ?_
 · intro L a U ho J hn d KK k; refine .free rfl ?_; have r4 : a.tmps[(4 : Nat)]?.getD undef = .pointer (some ⟨g1_1, 0, none⟩) := ho.slot 4 rfl; have r17 := J.read 12 rfl (d.get 12 rfl); have kb := (J.eldB 1 rfl hn); have c0 := kb.at_ 0 _ rfl; have z0 := kb.free 0; have c1 := kb.at_ 1 _ rfl; have z1 := kb.free 1; have c2 := kb.at_ 2 _ rfl; have z2 := kb.free 2; clear kb; go_simp; exact k.out undef _ (J.stored 13 1 rfl rfl (.inl rfl) rfl rfl 0 [.string P1, .string P2, .string P3] rfl L1.out lt1 ⟨.inr D0_1.out, .inl rfl, trivial⟩ hn trivial)
 clear K0 K1 B lt0 lt1
 rintro σ W2 _ ⟨K0, K1, _⟩ _ _ B
 simp only [slotsOf, finX, nval, nvalN, nvalA, Nat.reduceBEq, cond_true, cond_false, putAll, Act.put, List.setIfInBounds_toArray, List.set_cons_succ, List.set_cons_zero]
 go_wp2
 have c1_0 := K1.out.at_ 0 _ rfl
 have c1_1 := K1.out.at_ 1 _ rfl
 have c1_2 := K1.out.at_ 2 _ rfl
 exact bodyPost_ret (v := .agg #[.string P1, .string P2, .string P3]) (by simp [results, Tryz.results24, go_sem, c1_0, c1_1, c1_2]) rfl ⟨rfl, B.out⟩

set_option maxRecDepth 100000 in
set_option maxHeartbeats 4000000 in
theorem rsub3_of (A1 A2 A3 C1 C2 C3 P1 P2 P3 Q1 Q2 Q3 : ByteArray) (w : World)
  (h_s1 : Ret Tryz.prog w 24 #[.agg #[.string C1, .string C2, .string C3], .string ⟨#[45, 49]⟩] (.agg #[.string P1, .string P2, .string P3]))
  (h_a1 : Ret Tryz.prog w 23 #[.agg #[.string A1, .string A2, .string A3], .agg #[.string P1, .string P2, .string P3]] (.agg #[.string Q1, .string Q2, .string Q3])) :
  Calls Tryz.prog 26 #[.agg #[.string A1, .string A2, .string A3], .agg #[.string C1, .string C2, .string C3]] w fun e w' => e = .returned (.agg #[.string Q1, .string Q2, .string Q3]) ∧ Below w.heap.size w w' := by
 have H_S1 := Lib.hid h_s1
 have H_A1 := Lib.hid h_a1
 clear h_s1 h_a1
 have B := Lib.hid (Below.refl w.heap.size w)
 go_enter Tryz.func26, Tryz.ntmps26
 go_upto_region 0 with (fail)
 refine wp_tab [.n 2, .n 3, .n 4] [⟨0, 2, fun g => .pointer (some ⟨g, 0, none⟩), #[.string A1, .string A2, .string A3], 24, none⟩, ⟨1, 3, fun g => .pointer (some ⟨g, 0, none⟩), #[.string C1, .string C2, .string C3], 24, none⟩, ⟨2, 4, fun g => .pointer (some ⟨g, 0, none⟩), #[.string ⟨#[]⟩, .string ⟨#[]⟩, .string ⟨#[]⟩], 24, none⟩] [] [] [] [(0, 2), (1, 2)] [] [] (by kernel_rfl) B.out trivial trivial ⟨ml 0, ml 1, ml 2, trivial⟩ ?_
 clear B
 rintro σ W1 ⟨⟨L0, K0⟩, ⟨L1, K1⟩, ⟨L2, K2⟩, _⟩ _ _ ⟨y0, y1, _⟩ B
 have D0_2 : Hid (blkOf (σ 2) ≠ blkOf (σ 4)) := y0
 have D1_2 : Hid (blkOf (σ 3) ≠ blkOf (σ 4)) := y1
 clear y0 y1
 simp only [slotsOf, finX, nval, nvalN, nvalA, Nat.reduceBEq, cond_true, cond_false, putAll, Act.put, List.setIfInBounds_toArray, List.set_cons_succ, List.set_cons_zero]
 generalize blkOf (σ 2) = g1_0 at *
 generalize blkOf (σ 3) = g1_1 at *
 generalize blkOf (σ 4) = g1_2 at *
 go_upto_region 1 with (fail)
 have lt0 := K0.out.lt
 have lt1 := K1.out.lt
 have lt2 := K2.out.lt
 refine wp_tab [.v 5 (.agg #[.string A1, .string A2, .string A3]), .v 6 (.agg #[.string C1, .string C2, .string C3]), .v 7 (.agg #[.string P1, .string P2, .string P3]), .v 8 (.agg #[.string Q1, .string Q2, .string Q3]), .z] [] [⟨g1_0, #[.string A1, .string A2, .string A3], 24, none⟩, ⟨g1_1, #[.string C1, .string C2, .string C3], 24, none⟩, ⟨g1_2, #[.string ⟨#[]⟩, .string ⟨#[]⟩, .string ⟨#[]⟩], 24, some (4, #[.string Q1, .string Q2, .string Q3])⟩] [] [] [] [] [] (by kernel_rfl) B.out ⟨K0.out, K1.out, K2.out, trivial⟩ trivial ⟨ld 0 0, ld 1 0, cl H_S1.out, cl H_A1.out, ?_, trivial⟩ ?_
 · intro L a U ho J hn d KK k; refine .free rfl ?_; have r4 : a.tmps[(4 : Nat)]?.getD undef = .pointer (some ⟨g1_2, 0, none⟩) := ho.slot 4 rfl; have r8 := J.read 3 rfl (d.get 3 rfl); have kb := (J.eldB 2 rfl hn); have c0 := kb.at_ 0 _ rfl; have z0 := kb.free 0; have c1 := kb.at_ 1 _ rfl; have z1 := kb.free 1; have c2 := kb.at_ 2 _ rfl; have z2 := kb.free 2; clear kb; go_simp; exact k.out undef _ (J.stored 4 2 rfl rfl (.inl rfl) rfl rfl 0 [.string Q1, .string Q2, .string Q3] rfl L2.out lt2 ⟨.inr D0_2.out, .inr D1_2.out, .inl rfl, trivial⟩ hn trivial)
 clear K0 K1 K2 B lt0 lt1 lt2
 rintro σ W2 _ ⟨K0, K1, K2, _⟩ _ _ B
 simp only [slotsOf, finX, nval, nvalN, nvalA, Nat.reduceBEq, cond_true, cond_false, putAll, Act.put, List.setIfInBounds_toArray, List.set_cons_succ, List.set_cons_zero]
 go_wp2
 have c2_0 := K2.out.at_ 0 _ rfl
 have c2_1 := K2.out.at_ 1 _ rfl
 have c2_2 := K2.out.at_ 2 _ rfl
 exact bodyPost_ret (v := .agg #[.string Q1, .string Q2, .string Q3]) (by simp [results, Tryz.results26, go_sem, c2_0, c2_1, c2_2]) rfl ⟨rfl, B.out⟩

set_option maxRecDepth 100000 in
set_option maxHeartbeats 4000000 in
theorem ldot42_of (A1 A2 A3 C1 C2 C3 R : ByteArray) (w : World)
  (h_d1 : Ret Tryz.prog w 58 #[.agg #[.string A1, .string A2, .string A3], .agg #[.string C1, .string C2, .string C3]] (.string R)) :
  Calls Tryz.prog 17 #[.agg #[.string A1, .string A2, .string A3], .agg #[.string C1, .string C2, .string C3]] w fun e w' => e = .returned (.string R) ∧ Below w.heap.size w w' := by
 have H_D1 := Lib.hid h_d1
 clear h_d1
 have B := Lib.hid (Below.refl w.heap.size w)
 go_enter Tryz.func17, Tryz.ntmps17
 go_upto_region 0 with (fail)
 refine wp_tab [.n 2, .n 3, .v 4 (.string ⟨#[]⟩)] [⟨0, 2, fun g => .pointer (some ⟨g, 0, none⟩), #[.string A1, .string A2, .string A3], 24, none⟩, ⟨1, 3, fun g => .pointer (some ⟨g, 0, none⟩), #[.string C1, .string C2, .string C3], 24, none⟩] [] [] [] [] [] [] (by kernel_rfl) B.out trivial trivial ⟨ml 0, ml 1, pu, trivial⟩ ?_
 clear B
 rintro σ W1 ⟨⟨L0, K0⟩, ⟨L1, K1⟩, _⟩ _ _ _ B
 simp only [slotsOf, finX, nval, nvalN, nvalA, Nat.reduceBEq, cond_true, cond_false, putAll, Act.put, List.setIfInBounds_toArray, List.set_cons_succ, List.set_cons_zero]
 generalize blkOf (σ 2) = g1_0 at *
 generalize blkOf (σ 3) = g1_1 at *
 have c0_0 := K0.out.at_ 0 _ rfl
 have c0_1 := K0.out.at_ 1 _ rfl
 have c0_2 := K0.out.at_ 2 _ rfl
 have c1_0 := K1.out.at_ 0 _ rfl
 have c1_1 := K1.out.at_ 1 _ rfl
 have c1_2 := K1.out.at_ 2 _ rfl
 go_wp2_with (
  (first
  | (go_at_call 58; with_reducible refine (H_D1.out _ (baseI B.out)).mono ?_)
  | fail "arm"); rintro e wx ⟨rfl, q⟩; replace K0 := Lib.hid (K0.out.nearI q); replace K1 := Lib.hid (K1.out.nearI q); replace B := Lib.hid (goI B.out q); clear q; replace c0_0 := K0.out.at_ 0 _ rfl; replace c0_1 := K0.out.at_ 1 _ rfl; replace c0_2 := K0.out.at_ 2 _ rfl; replace c1_0 := K1.out.at_ 0 _ rfl; replace c1_1 := K1.out.at_ 1 _ rfl; replace c1_2 := K1.out.at_ 2 _ rfl)
 clear c0_0 c0_1 c0_2 c1_0 c1_1 c1_2
 go_ret
 exact ⟨rfl, B.out⟩

set_option maxRecDepth 100000 in
set_option maxHeartbeats 4000000 in
theorem lon_t (A1 A2 A3 A0 C1 C2 C3 R : ByteArray) (w : World)
  (h : (R.toList == A0.toList) = true)
  (h_d1 : Ret Tryz.prog w 17 #[.agg #[.string A1, .string A2, .string A3], .agg #[.string C1, .string C2, .string C3]] (.string R)) :
  Calls Tryz.prog 25 #[.agg #[.string A1, .string A2, .string A3, .string A0], .agg #[.string C1, .string C2, .string C3]] w fun e w' => e = .returned (.bool true) ∧ Below w.heap.size w w' := by
 have H_D1 := Lib.hid h_d1
 clear h_d1
 have B := Lib.hid (Below.refl w.heap.size w)
 go_enter Tryz.func25, Tryz.ntmps25
 go_upto_region 0 with (fail)
 refine wp_tab [.n 2, .n 3, .v 4 (.bool false)] [⟨0, 2, fun g => .pointer (some ⟨g, 0, none⟩), #[.string A1, .string A2, .string A3, .string A0], 26, none⟩, ⟨1, 3, fun g => .pointer (some ⟨g, 0, none⟩), #[.string C1, .string C2, .string C3], 24, none⟩] [] [] [] [] [] [] (by kernel_rfl) B.out trivial trivial ⟨ml 0, ml 1, pu, trivial⟩ ?_
 clear B
 rintro σ W1 ⟨⟨L0, K0⟩, ⟨L1, K1⟩, _⟩ _ _ _ B
 simp only [slotsOf, finX, nval, nvalN, nvalA, Nat.reduceBEq, cond_true, cond_false, putAll, Act.put, List.setIfInBounds_toArray, List.set_cons_succ, List.set_cons_zero]
 generalize blkOf (σ 2) = g1_0 at *
 generalize blkOf (σ 3) = g1_1 at *
 go_upto_region 1 with (fail)
 refine wp_tab [.v 5 (.pointer (some ⟨g1_0, 0, none⟩)), .v 6 (.agg #[.string A1, .string A2, .string A3]), .v 7 (.agg #[.string C1, .string C2, .string C3]), .v 8 (.string R), .v 9 (.pointer (some ⟨g1_0, 3, none⟩)), .v 10 (.string A0), .v 11 (.bool true), .v 4 (.bool true)] [] [⟨g1_0, #[.string A1, .string A2, .string A3, .string A0], 26, none⟩, ⟨g1_1, #[.string C1, .string C2, .string C3], 24, none⟩] [] [] [] [] [] (by kernel_rfl) B.out ⟨K0.out, K1.out, trivial⟩ trivial ⟨pu, ld 0 0, ld 1 0, cl H_D1.out, pu, ld 0 3, ?_, pu, trivial⟩ ?_
 · intro L a U ho J hn d KK k; refine .free rfl ?_; have r8 := J.read 3 rfl (d.get 3 rfl); have r10 := J.read 5 rfl (d.get 5 rfl); go_simp; exact k.out _ _ (J.st 6 rfl rfl)
 clear K0 K1 B
 rintro σ W2 _ ⟨K0, K1, _⟩ _ _ B
 simp only [slotsOf, finX, nval, nvalN, nvalA, Nat.reduceBEq, cond_true, cond_false, putAll, Act.put, List.setIfInBounds_toArray, List.set_cons_succ, List.set_cons_zero]
 go_wp2
 go_ret
 exact ⟨rfl, B.out⟩

end Go.Proofs.YtopilnlniidejaaGreatDoor

/- The walks of klippelaw42 and of its references, over texts: planes, directions. -/
namespace Go.Proofs.YtopilnlniidejaaGreatDoor
set_option linter.all false
open Go.RowKit

set_option maxRecDepth 100000 in
set_option maxHeartbeats 4000000 in
theorem lplace_1 (P1 P2 P3 : ByteArray) (x y z : Int) (w : World)
  (kw0 : IntKind.i64.wrap x = x)
  (kw1 : IntKind.i64.wrap y = y)
  (kw2 : IntKind.i64.wrap z = z)
  (h_o1 : Ret Tryz.prog w 44 #[.int .i64 (x.tmod 8), .int .i64 1] (.string P1))
  (h_o2 : Ret Tryz.prog w 44 #[.int .i64 (y.tmod 8), .int .i64 1] (.string P2))
  (h_o3 : Ret Tryz.prog w 44 #[.int .i64 (z.tmod 8), .int .i64 1] (.string P3)) :
  Calls Tryz.prog 69 #[.agg #[.int .i8 x, .int .i8 y, .int .i8 z], .bool false] w fun e w' => e = .returned (.agg #[.string P1, .string P2, .string P3]) ∧ Below w.heap.size w w' := by
 have H_O1 := Lib.hid h_o1
 have H_O2 := Lib.hid h_o2
 have H_O3 := Lib.hid h_o3
 clear h_o1 h_o2 h_o3
 have B := Lib.hid (Below.refl w.heap.size w)
 go_enter Tryz.func69, Tryz.ntmps69
 go_upto_region 0 with (fail)
 refine wp_tab [.n 2, .n 4] [⟨0, 2, fun g => .pointer (some ⟨g, 0, none⟩), #[.int .i8 x, .int .i8 y, .int .i8 z], 52, none⟩, ⟨1, 4, fun g => .pointer (some ⟨g, 0, none⟩), #[.string ⟨#[]⟩, .string ⟨#[]⟩, .string ⟨#[]⟩], 24, none⟩] [] [] [] [(0, 1)] [] [] (by kernel_rfl) B.out trivial trivial ⟨ml 0, ml 1, trivial⟩ ?_
 clear B
 rintro σ W1 ⟨⟨L0, K0⟩, ⟨L1, K1⟩, _⟩ _ _ ⟨y0, _⟩ B
 have D0_1 : Hid (blkOf (σ 2) ≠ blkOf (σ 4)) := y0
 clear y0
 simp only [slotsOf, finX, nval, nvalN, nvalA, Nat.reduceBEq, cond_true, cond_false, putAll, Act.put, List.setIfInBounds_toArray, List.set_cons_succ, List.set_cons_zero]
 generalize blkOf (σ 2) = g1_0 at *
 generalize blkOf (σ 4) = g1_1 at *
 go_upto_region 4 with (fail)
 have lt0 := K0.out.lt
 have lt1 := K1.out.lt
 refine wp_tab [.v 7 (.pointer (some ⟨g1_0, 0, none⟩)), .v 8 (.int .i8 x), .v 9 (.int .i64 x), .v 10 (.int .i64 (x.tmod 8)), .v 11 (.int .i64 1), .v 12 (.string P1), .v 13 (.pointer (some ⟨g1_0, 1, none⟩)), .v 14 (.int .i8 y), .v 15 (.int .i64 y), .v 16 (.int .i64 (y.tmod 8)), .v 17 (.int .i64 1), .v 18 (.string P2), .v 19 (.pointer (some ⟨g1_0, 2, none⟩)), .v 20 (.int .i8 z), .v 21 (.int .i64 z), .v 22 (.int .i64 (z.tmod 8)), .v 23 (.int .i64 1), .v 24 (.string P3), .v 25 (.agg #[.string P1, .string P2, .string P3]), .z] [] [⟨g1_0, #[.int .i8 x, .int .i8 y, .int .i8 z], 52, none⟩, ⟨g1_1, #[.string ⟨#[]⟩, .string ⟨#[]⟩, .string ⟨#[]⟩], 24, some (19, #[.string P1, .string P2, .string P3])⟩] [] [] [] [] [] (by kernel_rfl) B.out ⟨K0.out, K1.out, trivial⟩ trivial ⟨pu, ld 0 0, ?_, ?_, pu, cl H_O1.out, pu, ld 0 1, ?_, ?_, pu, cl H_O2.out, pu, ld 0 2, ?_, ?_, pu, cl H_O3.out, pu, ?_, trivial⟩ ?_
 · intro L a U ho J hn d KK k; refine .free rfl ?_; have r8 := J.read 1 rfl (d.get 1 rfl); go_simp; exact k.out _ _ (J.st 2 rfl rfl)
 · intro L a U ho J hn d KK k; refine .free rfl ?_; have r9 := J.read 2 rfl (d.get 2 rfl); go_simp; exact k.out _ _ (J.st 3 rfl rfl)
 · intro L a U ho J hn d KK k; refine .free rfl ?_; have r14 := J.read 7 rfl (d.get 7 rfl); go_simp; exact k.out _ _ (J.st 8 rfl rfl)
 · intro L a U ho J hn d KK k; refine .free rfl ?_; have r15 := J.read 8 rfl (d.get 8 rfl); go_simp; exact k.out _ _ (J.st 9 rfl rfl)
 · intro L a U ho J hn d KK k; refine .free rfl ?_; have r20 := J.read 13 rfl (d.get 13 rfl); go_simp; exact k.out _ _ (J.st 14 rfl rfl)
 · intro L a U ho J hn d KK k; refine .free rfl ?_; have r21 := J.read 14 rfl (d.get 14 rfl); go_simp; exact k.out _ _ (J.st 15 rfl rfl)
 · intro L a U ho J hn d KK k; refine .free rfl ?_; have r4 : a.tmps[(4 : Nat)]?.getD undef = .pointer (some ⟨g1_1, 0, none⟩) := ho.slot 4 rfl; have r25 := J.read 18 rfl (d.get 18 rfl); have kb := (J.eldB 1 rfl hn); have c0 := kb.at_ 0 _ rfl; have z0 := kb.free 0; have c1 := kb.at_ 1 _ rfl; have z1 := kb.free 1; have c2 := kb.at_ 2 _ rfl; have z2 := kb.free 2; clear kb; go_simp; exact k.out undef _ (J.stored 19 1 rfl rfl (.inl rfl) rfl rfl 0 [.string P1, .string P2, .string P3] rfl L1.out lt1 ⟨.inr D0_1.out, .inl rfl, trivial⟩ hn trivial)
 clear K0 K1 B lt0 lt1
 rintro σ W2 _ ⟨K0, K1, _⟩ _ _ B
 simp only [slotsOf, finX, nval, nvalN, nvalA, Nat.reduceBEq, cond_true, cond_false, putAll, Act.put, List.setIfInBounds_toArray, List.set_cons_succ, List.set_cons_zero]
 go_wp2
 have c1_0 := K1.out.at_ 0 _ rfl
 have c1_1 := K1.out.at_ 1 _ rfl
 have c1_2 := K1.out.at_ 2 _ rfl
 exact bodyPost_ret (v := .agg #[.string P1, .string P2, .string P3]) (by simp [results, Tryz.results69, go_sem, c1_0, c1_1, c1_2]) rfl ⟨rfl, B.out⟩

set_option maxRecDepth 100000 in
set_option maxHeartbeats 4000000 in
theorem lPlace_of (P1 P2 P3 : ByteArray) (x y z : Int) (w : World)
  (h_p1 : Ret Tryz.prog w 69 #[.agg #[.int .i8 x, .int .i8 y, .int .i8 z], .bool false] (.agg #[.string P1, .string P2, .string P3])) :
  Calls Tryz.prog 74 #[.agg #[.int .i8 x, .int .i8 y, .int .i8 z], .bool false] w fun e w' => e = .returned (.agg #[.string P1, .string P2, .string P3]) ∧ Below w.heap.size w w' := by
 have H_P1 := Lib.hid h_p1
 clear h_p1
 have B := Lib.hid (Below.refl w.heap.size w)
 go_enter Tryz.func74, Tryz.ntmps74
 go_upto_region 0 with (fail)
 refine wp_tab [.n 2, .n 4] [⟨0, 2, fun g => .pointer (some ⟨g, 0, none⟩), #[.int .i8 x, .int .i8 y, .int .i8 z], 52, none⟩, ⟨1, 4, fun g => .pointer (some ⟨g, 0, none⟩), #[.string ⟨#[]⟩, .string ⟨#[]⟩, .string ⟨#[]⟩], 24, none⟩] [] [] [] [(0, 1)] [] [] (by kernel_rfl) B.out trivial trivial ⟨ml 0, ml 1, trivial⟩ ?_
 clear B
 rintro σ W1 ⟨⟨L0, K0⟩, ⟨L1, K1⟩, _⟩ _ _ ⟨y0, _⟩ B
 have D0_1 : Hid (blkOf (σ 2) ≠ blkOf (σ 4)) := y0
 clear y0
 simp only [slotsOf, finX, nval, nvalN, nvalA, Nat.reduceBEq, cond_true, cond_false, putAll, Act.put, List.setIfInBounds_toArray, List.set_cons_succ, List.set_cons_zero]
 generalize blkOf (σ 2) = g1_0 at *
 generalize blkOf (σ 4) = g1_1 at *
 go_upto_region 1 with (fail)
 have lt0 := K0.out.lt
 have lt1 := K1.out.lt
 refine wp_tab [.v 5 (.agg #[.int .i8 x, .int .i8 y, .int .i8 z]), .v 6 (.bool false), .v 7 (.agg #[.string P1, .string P2, .string P3]), .z] [] [⟨g1_0, #[.int .i8 x, .int .i8 y, .int .i8 z], 52, none⟩, ⟨g1_1, #[.string ⟨#[]⟩, .string ⟨#[]⟩, .string ⟨#[]⟩], 24, some (3, #[.string P1, .string P2, .string P3])⟩] [] [] [] [] [] (by kernel_rfl) B.out ⟨K0.out, K1.out, trivial⟩ trivial ⟨ld 0 0, pu, cl H_P1.out, ?_, trivial⟩ ?_
 · intro L a U ho J hn d KK k; refine .free rfl ?_; have r4 : a.tmps[(4 : Nat)]?.getD undef = .pointer (some ⟨g1_1, 0, none⟩) := ho.slot 4 rfl; have r7 := J.read 2 rfl (d.get 2 rfl); have kb := (J.eldB 1 rfl hn); have c0 := kb.at_ 0 _ rfl; have z0 := kb.free 0; have c1 := kb.at_ 1 _ rfl; have z1 := kb.free 1; have c2 := kb.at_ 2 _ rfl; have z2 := kb.free 2; clear kb; go_simp; exact k.out undef _ (J.stored 3 1 rfl rfl (.inl rfl) rfl rfl 0 [.string P1, .string P2, .string P3] rfl L1.out lt1 ⟨.inr D0_1.out, .inl rfl, trivial⟩ hn trivial)
 clear K0 K1 B lt0 lt1
 rintro σ W2 _ ⟨K0, K1, _⟩ _ _ B
 simp only [slotsOf, finX, nval, nvalN, nvalA, Nat.reduceBEq, cond_true, cond_false, putAll, Act.put, List.setIfInBounds_toArray, List.set_cons_succ, List.set_cons_zero]
 go_wp2
 have c1_0 := K1.out.at_ 0 _ rfl
 have c1_1 := K1.out.at_ 1 _ rfl
 have c1_2 := K1.out.at_ 2 _ rfl
 exact bodyPost_ret (v := .agg #[.string P1, .string P2, .string P3]) (by simp [results, Tryz.results74, go_sem, c1_0, c1_1, c1_2]) rfl ⟨rfl, B.out⟩

set_option maxRecDepth 100000 in
set_option maxHeartbeats 4000000 in
theorem lspot_of (P1 P2 P3 : ByteArray) (x y z : Int) (w : World)
  (kw0 : IntKind.i8.wrap x = x)
  (kw1 : IntKind.i8.wrap y = y)
  (kw2 : IntKind.i8.wrap z = z)
  (h_p1 : Ret Tryz.prog w 74 #[.agg #[.int .i8 x, .int .i8 y, .int .i8 z], .bool false] (.agg #[.string P1, .string P2, .string P3])) :
  Calls Tryz.prog 30 #[.int .i64 x, .int .i64 y, .int .i64 z] w fun e w' => e = .returned (.agg #[.string P1, .string P2, .string P3]) ∧ Below w.heap.size w w' := by
 have H_P1 := Lib.hid h_p1
 clear h_p1
 have B := Lib.hid (Below.refl w.heap.size w)
 go_enter Tryz.func30, Tryz.ntmps30
 go_upto_region 0 with (fail)
 refine wp_tab [.n 6] [⟨0, 6, fun g => .pointer (some ⟨g, 0, none⟩), #[.string ⟨#[]⟩, .string ⟨#[]⟩, .string ⟨#[]⟩], 24, none⟩] [] [] [] [] [] [] (by kernel_rfl) B.out trivial trivial ⟨ml 0, trivial⟩ ?_
 clear B
 rintro σ W1 ⟨⟨L0, K0⟩, _⟩ _ _ _ B
 simp only [slotsOf, finX, nval, nvalN, nvalA, Nat.reduceBEq, cond_true, cond_false, putAll, Act.put, List.setIfInBounds_toArray, List.set_cons_succ, List.set_cons_zero]
 generalize blkOf (σ 6) = g1_0 at *
 go_upto_region 1 with (fail)
 have lt0 := K0.out.lt
 refine wp_tab [.v 7 (.int .i64 x), .v 8 (.int .i8 x), .v 9 (.int .i64 y), .v 10 (.int .i8 y), .v 11 (.int .i64 z), .v 12 (.int .i8 z), .v 13 (.agg #[.int .i8 x, .int .i8 y, .int .i8 z]), .v 14 (.agg #[.string P1, .string P2, .string P3]), .z] [] [⟨g1_0, #[.string ⟨#[]⟩, .string ⟨#[]⟩, .string ⟨#[]⟩], 24, some (8, #[.string P1, .string P2, .string P3])⟩] [] [] [] [] [] (by kernel_rfl) B.out ⟨K0.out, trivial⟩ trivial ⟨pu, ?_, pu, ?_, pu, ?_, pu, cl H_P1.out, ?_, trivial⟩ ?_
 · intro L a U ho J hn d KK k; refine .free rfl ?_; have r7 := J.read 0 rfl (d.get 0 rfl); go_simp; exact k.out _ _ (J.st 1 rfl rfl)
 · intro L a U ho J hn d KK k; refine .free rfl ?_; have r9 := J.read 2 rfl (d.get 2 rfl); go_simp; exact k.out _ _ (J.st 3 rfl rfl)
 · intro L a U ho J hn d KK k; refine .free rfl ?_; have r11 := J.read 4 rfl (d.get 4 rfl); go_simp; exact k.out _ _ (J.st 5 rfl rfl)
 · intro L a U ho J hn d KK k; refine .free rfl ?_; have r6 : a.tmps[(6 : Nat)]?.getD undef = .pointer (some ⟨g1_0, 0, none⟩) := ho.slot 6 rfl; have r14 := J.read 7 rfl (d.get 7 rfl); have kb := (J.eldB 0 rfl hn); have c0 := kb.at_ 0 _ rfl; have z0 := kb.free 0; have c1 := kb.at_ 1 _ rfl; have z1 := kb.free 1; have c2 := kb.at_ 2 _ rfl; have z2 := kb.free 2; clear kb; go_simp; exact k.out undef _ (J.stored 8 0 rfl rfl (.inl rfl) rfl rfl 0 [.string P1, .string P2, .string P3] rfl L0.out lt0 ⟨.inl rfl, trivial⟩ hn trivial)
 clear K0 B lt0
 rintro σ W2 _ ⟨K0, _⟩ _ _ B
 simp only [slotsOf, finX, nval, nvalN, nvalA, Nat.reduceBEq, cond_true, cond_false, putAll, Act.put, List.setIfInBounds_toArray, List.set_cons_succ, List.set_cons_zero]
 go_wp2
 have c0_0 := K0.out.at_ 0 _ rfl
 have c0_1 := K0.out.at_ 1 _ rfl
 have c0_2 := K0.out.at_ 2 _ rfl
 exact bodyPost_ret (v := .agg #[.string P1, .string P2, .string P3]) (by simp [results, Tryz.results30, go_sem, c0_0, c0_1, c0_2]) rfl ⟨rfl, B.out⟩

set_option maxRecDepth 100000 in
set_option maxHeartbeats 4000000 in
theorem lPlane_n (P1 P2 P3 Q : ByteArray) (x y z t : Int) (w : World)
  (kw0 : IntKind.i64.wrap t = t)
  (h_p1 : Ret Tryz.prog w 69 #[.agg #[.int .i8 (x.tmod 4), .int .i8 (y.tmod 4), .int .i8 (z.tmod 4)], .bool false] (.agg #[.string P1, .string P2, .string P3]))
  (h_z1 : Ret Tryz.prog w 16 #[.agg #[.string P1, .string P2, .string P3]] (.bool false))
  (h_o1 : Ret Tryz.prog w 44 #[.int .i64 (t.tmod 16), .int .i64 1] (.string Q)) :
  Calls Tryz.prog 28 #[.agg #[.int .i8 x, .int .i8 y, .int .i8 z, .int .i8 t]] w fun e w' => e = .returned (.agg #[.string P1, .string P2, .string P3, .string Q]) ∧ Below w.heap.size w w' := by
 have H_P1 := Lib.hid h_p1
 have H_Z1 := Lib.hid h_z1
 have H_O1 := Lib.hid h_o1
 clear h_p1 h_z1 h_o1
 have B := Lib.hid (Below.refl w.heap.size w)
 go_enter Tryz.func28, Tryz.ntmps28
 go_upto_region 0 with (fail)
 refine wp_tab [.n 1, .n 2] [⟨0, 1, fun g => .pointer (some ⟨g, 0, none⟩), #[.int .i8 x, .int .i8 y, .int .i8 z, .int .i8 t], 54, none⟩, ⟨1, 2, fun g => .pointer (some ⟨g, 0, none⟩), #[.string ⟨#[]⟩, .string ⟨#[]⟩, .string ⟨#[]⟩, .string ⟨#[]⟩], 26, none⟩] [] [] [] [(0, 1)] [] [] (by kernel_rfl) B.out trivial trivial ⟨ml 0, ml 1, trivial⟩ ?_
 clear B
 rintro σ W1 ⟨⟨L0, K0⟩, ⟨L1, K1⟩, _⟩ _ _ ⟨y0, _⟩ B
 have D0_1 : Hid (blkOf (σ 1) ≠ blkOf (σ 2)) := y0
 clear y0
 simp only [slotsOf, finX, nval, nvalN, nvalA, Nat.reduceBEq, cond_true, cond_false, putAll, Act.put, List.setIfInBounds_toArray, List.set_cons_succ, List.set_cons_zero]
 generalize blkOf (σ 1) = g1_0 at *
 generalize blkOf (σ 2) = g1_1 at *
 go_upto_region 1 with (fail)
 have lt0 := K0.out.lt
 have lt1 := K1.out.lt
 refine wp_tab [.v 4 (.pointer (some ⟨g1_0, 0, none⟩)), .v 5 (.pointer (some ⟨g1_0, 0, none⟩)), .v 6 (.int .i8 x), .v 7 (.int .i8 (x.tmod 4)), .v 8 (.pointer (some ⟨g1_0, 0, none⟩)), .v 9 (.pointer (some ⟨g1_0, 1, none⟩)), .v 10 (.int .i8 y), .v 11 (.int .i8 (y.tmod 4)), .v 12 (.pointer (some ⟨g1_0, 0, none⟩)), .v 13 (.pointer (some ⟨g1_0, 2, none⟩)), .v 14 (.int .i8 z), .v 15 (.int .i8 (z.tmod 4)), .v 16 (.agg #[.int .i8 (x.tmod 4), .int .i8 (y.tmod 4), .int .i8 (z.tmod 4)]), .v 17 (.agg #[.string P1, .string P2, .string P3]), .n 3, .z] [⟨14, 3, fun g => .pointer (some ⟨g, 0, none⟩), #[.string ⟨#[]⟩, .string ⟨#[]⟩, .string ⟨#[]⟩], 24, some (15, #[.string P1, .string P2, .string P3])⟩] [⟨g1_0, #[.int .i8 x, .int .i8 y, .int .i8 z, .int .i8 t], 54, none⟩, ⟨g1_1, #[.string ⟨#[]⟩, .string ⟨#[]⟩, .string ⟨#[]⟩, .string ⟨#[]⟩], 26, none⟩] [] [(15, 14)] [] [(1, 0)] [] (by kernel_rfl) B.out ⟨K0.out, K1.out, trivial⟩ trivial ⟨pu, pu, ld 0 0, ?_, pu, pu, ld 0 1, ?_, pu, pu, ld 0 2, ?_, pu, cl H_P1.out, ml 0, ?_, trivial⟩ ?_
 · intro L a U ho J hn d KK k; refine .free rfl ?_; have r6 := J.read 2 rfl (d.get 2 rfl); go_simp; exact k.out _ _ (J.st 3 rfl rfl)
 · intro L a U ho J hn d KK k; refine .free rfl ?_; have r10 := J.read 6 rfl (d.get 6 rfl); go_simp; exact k.out _ _ (J.st 7 rfl rfl)
 · intro L a U ho J hn d KK k; refine .free rfl ?_; have r14 := J.read 10 rfl (d.get 10 rfl); go_simp; exact k.out _ _ (J.st 11 rfl rfl)
 · intro L a U ho J hn d KK k; refine .free rfl ?_; have r3 : a.tmps[(3 : Nat)]?.getD undef = .pointer (some ⟨(blkOf (slotOf a 3)), 0, none⟩) := J.readN 0 rfl (d.get 14 rfl); have r17 := J.read 13 rfl (d.get 13 rfl); have kb := (J.nwB 0 rfl (d.get 14 rfl) hn).blk; have c0 := kb.at_ 0 _ rfl; have z0 := kb.free 0; have c1 := kb.at_ 1 _ rfl; have z1 := kb.free 1; have c2 := kb.at_ 2 _ rfl; have z2 := kb.free 2; clear kb; go_simp; exact k.out undef _ (J.storedN 15 0 rfl rfl rfl rfl rfl 0 [.string P1, .string P2, .string P3] rfl ⟨lt0, lt1, trivial⟩ (d.get 14 rfl) hn ⟨.inr (d.get 14 rfl), trivial⟩)
 clear K0 K1 B lt0 lt1
 rintro σ W2 ⟨⟨L2, K2⟩, _⟩ ⟨K0, K1, _⟩ ⟨x0, _⟩ _ B
 have D1_2 : Hid (g1_1 ≠ blkOf (σ 3)) := x0
 clear x0
 simp only [slotsOf, finX, nval, nvalN, nvalA, Nat.reduceBEq, cond_true, cond_false, putAll, Act.put, List.setIfInBounds_toArray, List.set_cons_succ, List.set_cons_zero]
 generalize blkOf (σ 3) = g2_14 at *
 have c2_0 := K2.out.at_ 0 _ rfl
 have c2_1 := K2.out.at_ 1 _ rfl
 have c2_2 := K2.out.at_ 2 _ rfl
 go_upto_region 4 with (
  (first
  | (go_at_call 16; with_reducible refine (H_Z1.out _ (baseI B.out)).mono ?_)
  | fail "arm"); rintro e wx ⟨rfl, q⟩; replace K0 := Lib.hid (K0.out.nearI q); replace K1 := Lib.hid (K1.out.nearI q); replace K2 := Lib.hid (K2.out.nearI q); replace B := Lib.hid (goI B.out q); clear q; replace c2_0 := K2.out.at_ 0 _ rfl; replace c2_1 := K2.out.at_ 1 _ rfl; replace c2_2 := K2.out.at_ 2 _ rfl)
 clear c2_0 c2_1 c2_2
 have lt0 := K0.out.lt
 have lt1 := K1.out.lt
 have lt2 := K2.out.lt
 refine wp_tab [.v 21 (.agg #[.string P1, .string P2, .string P3]), .v 22 (.pointer (some ⟨g1_0, 3, none⟩)), .v 23 (.int .i8 t), .v 24 (.int .i64 t), .v 25 (.int .i64 (t.tmod 16)), .v 26 (.string Q), .v 27 (.agg #[.string P1, .string P2, .string P3, .string Q]), .z] [] [⟨g1_0, #[.int .i8 x, .int .i8 y, .int .i8 z, .int .i8 t], 54, none⟩, ⟨g1_1, #[.string ⟨#[]⟩, .string ⟨#[]⟩, .string ⟨#[]⟩, .string ⟨#[]⟩], 26, some (7, #[.string P1, .string P2, .string P3, .string Q])⟩, ⟨g2_14, #[.string P1, .string P2, .string P3], 24, none⟩] [] [] [] [] [] (by kernel_rfl) B.out ⟨K0.out, K1.out, K2.out, trivial⟩ trivial ⟨ld 2 0, pu, ld 0 3, ?_, ?_, cl H_O1.out, pu, ?_, trivial⟩ ?_
 · intro L a U ho J hn d KK k; refine .free rfl ?_; have r23 := J.read 2 rfl (d.get 2 rfl); go_simp; exact k.out _ _ (J.st 3 rfl rfl)
 · intro L a U ho J hn d KK k; refine .free rfl ?_; have r24 := J.read 3 rfl (d.get 3 rfl); go_simp; exact k.out _ _ (J.st 4 rfl rfl)
 · intro L a U ho J hn d KK k; refine .free rfl ?_; have r2 : a.tmps[(2 : Nat)]?.getD undef = .pointer (some ⟨g1_1, 0, none⟩) := ho.slot 2 rfl; have r27 := J.read 6 rfl (d.get 6 rfl); have kb := (J.eldB 1 rfl hn); have c0 := kb.at_ 0 _ rfl; have z0 := kb.free 0; have c1 := kb.at_ 1 _ rfl; have z1 := kb.free 1; have c2 := kb.at_ 2 _ rfl; have z2 := kb.free 2; have c3 := kb.at_ 3 _ rfl; have z3 := kb.free 3; clear kb; go_simp; exact k.out undef _ (J.stored 7 1 rfl rfl (.inl rfl) rfl rfl 0 [.string P1, .string P2, .string P3, .string Q] rfl L1.out lt1 ⟨.inr D0_1.out, .inl rfl, .inr (Ne.symm D1_2.out), trivial⟩ hn trivial)
 clear K0 K1 K2 B lt0 lt1 lt2
 rintro σ W3 _ ⟨K0, K1, K2, _⟩ _ _ B
 simp only [slotsOf, finX, nval, nvalN, nvalA, Nat.reduceBEq, cond_true, cond_false, putAll, Act.put, List.setIfInBounds_toArray, List.set_cons_succ, List.set_cons_zero]
 go_wp2
 have c1_0 := K1.out.at_ 0 _ rfl
 have c1_1 := K1.out.at_ 1 _ rfl
 have c1_2 := K1.out.at_ 2 _ rfl
 have c1_3 := K1.out.at_ 3 _ rfl
 exact bodyPost_ret (v := .agg #[.string P1, .string P2, .string P3, .string Q]) (by simp [results, Tryz.results28, go_sem, c1_0, c1_1, c1_2, c1_3]) rfl ⟨rfl, B.out⟩

set_option maxRecDepth 100000 in
set_option maxHeartbeats 4000000 in
theorem lPlane_z (P1 P2 P3 Q : ByteArray) (x y z t : Int) (w : World)
  (kw0 : IntKind.i64.wrap t = t)
  (h_p1 : Ret Tryz.prog w 69 #[.agg #[.int .i8 (x.tmod 4), .int .i8 (y.tmod 4), .int .i8 (z.tmod 4)], .bool false] (.agg #[.string P1, .string P2, .string P3]))
  (h_z1 : Ret Tryz.prog w 16 #[.agg #[.string P1, .string P2, .string P3]] (.bool true))
  (h_o1 : Ret Tryz.prog w 44 #[.int .i64 (t.tmod 16), .int .i64 1] (.string Q)) :
  Calls Tryz.prog 28 #[.agg #[.int .i8 x, .int .i8 y, .int .i8 z, .int .i8 t]] w fun e w' => e = .returned (.agg #[.string P1, .string P2, .string ⟨#[49]⟩, .string Q]) ∧ Below w.heap.size w w' := by
 have H_P1 := Lib.hid h_p1
 have H_Z1 := Lib.hid h_z1
 have H_O1 := Lib.hid h_o1
 clear h_p1 h_z1 h_o1
 have B := Lib.hid (Below.refl w.heap.size w)
 go_enter Tryz.func28, Tryz.ntmps28
 go_upto_region 0 with (fail)
 refine wp_tab [.n 1, .n 2] [⟨0, 1, fun g => .pointer (some ⟨g, 0, none⟩), #[.int .i8 x, .int .i8 y, .int .i8 z, .int .i8 t], 54, none⟩, ⟨1, 2, fun g => .pointer (some ⟨g, 0, none⟩), #[.string ⟨#[]⟩, .string ⟨#[]⟩, .string ⟨#[]⟩, .string ⟨#[]⟩], 26, none⟩] [] [] [] [(0, 1)] [] [] (by kernel_rfl) B.out trivial trivial ⟨ml 0, ml 1, trivial⟩ ?_
 clear B
 rintro σ W1 ⟨⟨L0, K0⟩, ⟨L1, K1⟩, _⟩ _ _ ⟨y0, _⟩ B
 have D0_1 : Hid (blkOf (σ 1) ≠ blkOf (σ 2)) := y0
 clear y0
 simp only [slotsOf, finX, nval, nvalN, nvalA, Nat.reduceBEq, cond_true, cond_false, putAll, Act.put, List.setIfInBounds_toArray, List.set_cons_succ, List.set_cons_zero]
 generalize blkOf (σ 1) = g1_0 at *
 generalize blkOf (σ 2) = g1_1 at *
 go_upto_region 1 with (fail)
 have lt0 := K0.out.lt
 have lt1 := K1.out.lt
 refine wp_tab [.v 4 (.pointer (some ⟨g1_0, 0, none⟩)), .v 5 (.pointer (some ⟨g1_0, 0, none⟩)), .v 6 (.int .i8 x), .v 7 (.int .i8 (x.tmod 4)), .v 8 (.pointer (some ⟨g1_0, 0, none⟩)), .v 9 (.pointer (some ⟨g1_0, 1, none⟩)), .v 10 (.int .i8 y), .v 11 (.int .i8 (y.tmod 4)), .v 12 (.pointer (some ⟨g1_0, 0, none⟩)), .v 13 (.pointer (some ⟨g1_0, 2, none⟩)), .v 14 (.int .i8 z), .v 15 (.int .i8 (z.tmod 4)), .v 16 (.agg #[.int .i8 (x.tmod 4), .int .i8 (y.tmod 4), .int .i8 (z.tmod 4)]), .v 17 (.agg #[.string P1, .string P2, .string P3]), .n 3, .z] [⟨14, 3, fun g => .pointer (some ⟨g, 0, none⟩), #[.string ⟨#[]⟩, .string ⟨#[]⟩, .string ⟨#[]⟩], 24, some (15, #[.string P1, .string P2, .string P3])⟩] [⟨g1_0, #[.int .i8 x, .int .i8 y, .int .i8 z, .int .i8 t], 54, none⟩, ⟨g1_1, #[.string ⟨#[]⟩, .string ⟨#[]⟩, .string ⟨#[]⟩, .string ⟨#[]⟩], 26, none⟩] [] [(15, 14)] [] [(0, 0), (1, 0)] [] (by kernel_rfl) B.out ⟨K0.out, K1.out, trivial⟩ trivial ⟨pu, pu, ld 0 0, ?_, pu, pu, ld 0 1, ?_, pu, pu, ld 0 2, ?_, pu, cl H_P1.out, ml 0, ?_, trivial⟩ ?_
 · intro L a U ho J hn d KK k; refine .free rfl ?_; have r6 := J.read 2 rfl (d.get 2 rfl); go_simp; exact k.out _ _ (J.st 3 rfl rfl)
 · intro L a U ho J hn d KK k; refine .free rfl ?_; have r10 := J.read 6 rfl (d.get 6 rfl); go_simp; exact k.out _ _ (J.st 7 rfl rfl)
 · intro L a U ho J hn d KK k; refine .free rfl ?_; have r14 := J.read 10 rfl (d.get 10 rfl); go_simp; exact k.out _ _ (J.st 11 rfl rfl)
 · intro L a U ho J hn d KK k; refine .free rfl ?_; have r3 : a.tmps[(3 : Nat)]?.getD undef = .pointer (some ⟨(blkOf (slotOf a 3)), 0, none⟩) := J.readN 0 rfl (d.get 14 rfl); have r17 := J.read 13 rfl (d.get 13 rfl); have kb := (J.nwB 0 rfl (d.get 14 rfl) hn).blk; have c0 := kb.at_ 0 _ rfl; have z0 := kb.free 0; have c1 := kb.at_ 1 _ rfl; have z1 := kb.free 1; have c2 := kb.at_ 2 _ rfl; have z2 := kb.free 2; clear kb; go_simp; exact k.out undef _ (J.storedN 15 0 rfl rfl rfl rfl rfl 0 [.string P1, .string P2, .string P3] rfl ⟨lt0, lt1, trivial⟩ (d.get 14 rfl) hn ⟨.inr (d.get 14 rfl), trivial⟩)
 clear K0 K1 B lt0 lt1
 rintro σ W2 ⟨⟨L2, K2⟩, _⟩ ⟨K0, K1, _⟩ ⟨x0, x1, _⟩ _ B
 have D0_2 : Hid (g1_0 ≠ blkOf (σ 3)) := x0
 have D1_2 : Hid (g1_1 ≠ blkOf (σ 3)) := x1
 clear x0 x1
 simp only [slotsOf, finX, nval, nvalN, nvalA, Nat.reduceBEq, cond_true, cond_false, putAll, Act.put, List.setIfInBounds_toArray, List.set_cons_succ, List.set_cons_zero]
 generalize blkOf (σ 3) = g2_14 at *
 have c2_0 := K2.out.at_ 0 _ rfl
 have c2_1 := K2.out.at_ 1 _ rfl
 have c2_2 := K2.out.at_ 2 _ rfl
 go_upto_region 3 with (
  (first
  | (go_at_call 16; with_reducible refine (H_Z1.out _ (baseI B.out)).mono ?_)
  | fail "arm"); rintro e wx ⟨rfl, q⟩; replace K0 := Lib.hid (K0.out.nearI q); replace K1 := Lib.hid (K1.out.nearI q); replace K2 := Lib.hid (K2.out.nearI q); replace B := Lib.hid (goI B.out q); clear q; replace c2_0 := K2.out.at_ 0 _ rfl; replace c2_1 := K2.out.at_ 1 _ rfl; replace c2_2 := K2.out.at_ 2 _ rfl)
 clear c2_0 c2_1 c2_2
 have lt0 := K0.out.lt
 have lt1 := K1.out.lt
 have lt2 := K2.out.lt
 refine wp_tab [.v 20 (.pointer (some ⟨g2_14, 2, none⟩)), .z] [] [⟨g1_0, #[.int .i8 x, .int .i8 y, .int .i8 z, .int .i8 t], 54, none⟩, ⟨g1_1, #[.string ⟨#[]⟩, .string ⟨#[]⟩, .string ⟨#[]⟩, .string ⟨#[]⟩], 26, none⟩, ⟨g2_14, #[.string P1, .string P2, .string P3], 24, some (1, #[.string P1, .string P2, .string ⟨#[49]⟩])⟩] [] [] [] [] [] (by kernel_rfl) B.out ⟨K0.out, K1.out, K2.out, trivial⟩ trivial ⟨pu, ?_, trivial⟩ ?_
 · intro L a U ho J hn d KK k; refine .free rfl ?_; have r20 := J.read 0 rfl (d.get 0 rfl); have kb := (J.eldB 2 rfl hn); have c2 := kb.at_ 2 _ rfl; have z2 := kb.free 2; clear kb; go_simp; exact k.out undef _ (J.stored 1 2 rfl rfl (.inl rfl) rfl rfl 2 [.string ⟨#[49]⟩] rfl L2.out lt2 ⟨.inr D0_2.out, .inr D1_2.out, .inl rfl, trivial⟩ hn trivial)
 clear K0 K1 K2 B lt0 lt1 lt2
 rintro σ W3 _ ⟨K0, K1, K2, _⟩ _ _ B
 simp only [slotsOf, finX, nval, nvalN, nvalA, Nat.reduceBEq, cond_true, cond_false, putAll, Act.put, List.setIfInBounds_toArray, List.set_cons_succ, List.set_cons_zero]
 go_upto_region 4 with (fail)
 have lt0 := K0.out.lt
 have lt1 := K1.out.lt
 have lt2 := K2.out.lt
 refine wp_tab [.v 21 (.agg #[.string P1, .string P2, .string ⟨#[49]⟩]), .v 22 (.pointer (some ⟨g1_0, 3, none⟩)), .v 23 (.int .i8 t), .v 24 (.int .i64 t), .v 25 (.int .i64 (t.tmod 16)), .v 26 (.string Q), .v 27 (.agg #[.string P1, .string P2, .string ⟨#[49]⟩, .string Q]), .z] [] [⟨g1_0, #[.int .i8 x, .int .i8 y, .int .i8 z, .int .i8 t], 54, none⟩, ⟨g1_1, #[.string ⟨#[]⟩, .string ⟨#[]⟩, .string ⟨#[]⟩, .string ⟨#[]⟩], 26, some (7, #[.string P1, .string P2, .string ⟨#[49]⟩, .string Q])⟩, ⟨g2_14, #[.string P1, .string P2, .string ⟨#[49]⟩], 24, none⟩] [] [] [] [] [] (by kernel_rfl) B.out ⟨K0.out, K1.out, K2.out, trivial⟩ trivial ⟨ld 2 0, pu, ld 0 3, ?_, ?_, cl H_O1.out, pu, ?_, trivial⟩ ?_
 · intro L a U ho J hn d KK k; refine .free rfl ?_; have r23 := J.read 2 rfl (d.get 2 rfl); go_simp; exact k.out _ _ (J.st 3 rfl rfl)
 · intro L a U ho J hn d KK k; refine .free rfl ?_; have r24 := J.read 3 rfl (d.get 3 rfl); go_simp; exact k.out _ _ (J.st 4 rfl rfl)
 · intro L a U ho J hn d KK k; refine .free rfl ?_; have r2 : a.tmps[(2 : Nat)]?.getD undef = .pointer (some ⟨g1_1, 0, none⟩) := ho.slot 2 rfl; have r27 := J.read 6 rfl (d.get 6 rfl); have kb := (J.eldB 1 rfl hn); have c0 := kb.at_ 0 _ rfl; have z0 := kb.free 0; have c1 := kb.at_ 1 _ rfl; have z1 := kb.free 1; have c2 := kb.at_ 2 _ rfl; have z2 := kb.free 2; have c3 := kb.at_ 3 _ rfl; have z3 := kb.free 3; clear kb; go_simp; exact k.out undef _ (J.stored 7 1 rfl rfl (.inl rfl) rfl rfl 0 [.string P1, .string P2, .string ⟨#[49]⟩, .string Q] rfl L1.out lt1 ⟨.inr D0_1.out, .inl rfl, .inr (Ne.symm D1_2.out), trivial⟩ hn trivial)
 clear K0 K1 K2 B lt0 lt1 lt2
 rintro σ W4 _ ⟨K0, K1, K2, _⟩ _ _ B
 simp only [slotsOf, finX, nval, nvalN, nvalA, Nat.reduceBEq, cond_true, cond_false, putAll, Act.put, List.setIfInBounds_toArray, List.set_cons_succ, List.set_cons_zero]
 go_wp2
 have c1_0 := K1.out.at_ 0 _ rfl
 have c1_1 := K1.out.at_ 1 _ rfl
 have c1_2 := K1.out.at_ 2 _ rfl
 have c1_3 := K1.out.at_ 3 _ rfl
 exact bodyPost_ret (v := .agg #[.string P1, .string P2, .string ⟨#[49]⟩, .string Q]) (by simp [results, Tryz.results28, go_sem, c1_0, c1_1, c1_2, c1_3]) rfl ⟨rfl, B.out⟩

set_option maxRecDepth 100000 in
set_option maxHeartbeats 4000000 in
theorem ldir_n (A1 A2 A3 N X1 X2 X3 : ByteArray) (w : World)
  (h_n1 : Ret Tryz.prog w 61 #[.string A2] (.string N))
  (h_z1 : Ret Tryz.prog w 16 #[.agg #[.string N, .string A1, .string ⟨#[48]⟩]] (.bool false))
  (h_x1 : Ret Tryz.prog w 18 #[.agg #[.string A1, .string A2, .string A3], .agg #[.string N, .string A1, .string ⟨#[48]⟩]] (.agg #[.string X1, .string X2, .string X3])) :
  Calls Tryz.prog 40 #[.agg #[.string A1, .string A2, .string A3]] w fun e w' => e = .returned (.tuple #[.agg #[.string N, .string A1, .string ⟨#[48]⟩], .agg #[.string X1, .string X2, .string X3]]) ∧ Below w.heap.size w w' := by
 have H_N1 := Lib.hid h_n1
 have H_Z1 := Lib.hid h_z1
 have H_X1 := Lib.hid h_x1
 clear h_n1 h_z1 h_x1
 have B := Lib.hid (Below.refl w.heap.size w)
 go_enter Tryz.func40, Tryz.ntmps40
 go_upto_region 0 with (fail)
 refine wp_tab [.n 1, .n 2, .n 3] [⟨0, 1, fun g => .pointer (some ⟨g, 0, none⟩), #[.string A1, .string A2, .string A3], 24, none⟩, ⟨1, 2, fun g => .pointer (some ⟨g, 0, none⟩), #[.string ⟨#[]⟩, .string ⟨#[]⟩, .string ⟨#[]⟩], 24, none⟩, ⟨2, 3, fun g => .pointer (some ⟨g, 0, none⟩), #[.string ⟨#[]⟩, .string ⟨#[]⟩, .string ⟨#[]⟩], 24, none⟩] [] [] [] [(0, 1), (0, 2), (1, 2)] [] [] (by kernel_rfl) B.out trivial trivial ⟨ml 0, ml 1, ml 2, trivial⟩ ?_
 clear B
 rintro σ W1 ⟨⟨L0, K0⟩, ⟨L1, K1⟩, ⟨L2, K2⟩, _⟩ _ _ ⟨y0, y1, y2, _⟩ B
 have D0_1 : Hid (blkOf (σ 1) ≠ blkOf (σ 2)) := y0
 have D0_2 : Hid (blkOf (σ 1) ≠ blkOf (σ 3)) := y1
 have D1_2 : Hid (blkOf (σ 2) ≠ blkOf (σ 3)) := y2
 clear y0 y1 y2
 simp only [slotsOf, finX, nval, nvalN, nvalA, Nat.reduceBEq, cond_true, cond_false, putAll, Act.put, List.setIfInBounds_toArray, List.set_cons_succ, List.set_cons_zero]
 generalize blkOf (σ 1) = g1_0 at *
 generalize blkOf (σ 2) = g1_1 at *
 generalize blkOf (σ 3) = g1_2 at *
 go_upto_region 1 with (fail)
 have lt0 := K0.out.lt
 have lt1 := K1.out.lt
 have lt2 := K2.out.lt
 refine wp_tab [.v 4 (.pointer (some ⟨g1_0, 1, none⟩)), .v 5 (.string A2), .v 6 (.string N), .v 7 (.pointer (some ⟨g1_0, 0, none⟩)), .v 8 (.string A1), .v 9 (.agg #[.string N, .string A1, .string ⟨#[48]⟩]), .z] [] [⟨g1_0, #[.string A1, .string A2, .string A3], 24, none⟩, ⟨g1_1, #[.string ⟨#[]⟩, .string ⟨#[]⟩, .string ⟨#[]⟩], 24, some (6, #[.string N, .string A1, .string ⟨#[48]⟩])⟩, ⟨g1_2, #[.string ⟨#[]⟩, .string ⟨#[]⟩, .string ⟨#[]⟩], 24, none⟩] [] [] [] [] [] (by kernel_rfl) B.out ⟨K0.out, K1.out, K2.out, trivial⟩ trivial ⟨pu, ld 0 1, cl H_N1.out, pu, ld 0 0, pu, ?_, trivial⟩ ?_
 · intro L a U ho J hn d KK k; refine .free rfl ?_; have r2 : a.tmps[(2 : Nat)]?.getD undef = .pointer (some ⟨g1_1, 0, none⟩) := ho.slot 2 rfl; have r9 := J.read 5 rfl (d.get 5 rfl); have kb := (J.eldB 1 rfl hn); have c0 := kb.at_ 0 _ rfl; have z0 := kb.free 0; have c1 := kb.at_ 1 _ rfl; have z1 := kb.free 1; have c2 := kb.at_ 2 _ rfl; have z2 := kb.free 2; clear kb; go_simp; exact k.out undef _ (J.stored 6 1 rfl rfl (.inl rfl) rfl rfl 0 [.string N, .string A1, .string ⟨#[48]⟩] rfl L1.out lt1 ⟨.inr D0_1.out, .inl rfl, .inr (Ne.symm D1_2.out), trivial⟩ hn trivial)
 clear K0 K1 K2 B lt0 lt1 lt2
 rintro σ W2 _ ⟨K0, K1, K2, _⟩ _ _ B
 simp only [slotsOf, finX, nval, nvalN, nvalA, Nat.reduceBEq, cond_true, cond_false, putAll, Act.put, List.setIfInBounds_toArray, List.set_cons_succ, List.set_cons_zero]
 have c1_0 := K1.out.at_ 0 _ rfl
 have c1_1 := K1.out.at_ 1 _ rfl
 have c1_2 := K1.out.at_ 2 _ rfl
 go_upto_region 4 with (
  (first
  | (go_at_call 16; with_reducible refine (H_Z1.out _ (baseI B.out)).mono ?_)
  | fail "arm"); rintro e wx ⟨rfl, q⟩; replace K0 := Lib.hid (K0.out.nearI q); replace K1 := Lib.hid (K1.out.nearI q); replace K2 := Lib.hid (K2.out.nearI q); replace B := Lib.hid (goI B.out q); clear q; replace c1_0 := K1.out.at_ 0 _ rfl; replace c1_1 := K1.out.at_ 1 _ rfl; replace c1_2 := K1.out.at_ 2 _ rfl)
 clear c1_0 c1_1 c1_2
 have lt0 := K0.out.lt
 have lt1 := K1.out.lt
 have lt2 := K2.out.lt
 refine wp_tab [.v 13 (.agg #[.string N, .string A1, .string ⟨#[48]⟩]), .v 14 (.agg #[.string A1, .string A2, .string A3]), .v 15 (.agg #[.string N, .string A1, .string ⟨#[48]⟩]), .v 16 (.agg #[.string X1, .string X2, .string X3]), .z, .z] [] [⟨g1_0, #[.string A1, .string A2, .string A3], 24, none⟩, ⟨g1_1, #[.string N, .string A1, .string ⟨#[48]⟩], 24, none⟩, ⟨g1_2, #[.string ⟨#[]⟩, .string ⟨#[]⟩, .string ⟨#[]⟩], 24, some (5, #[.string X1, .string X2, .string X3])⟩] [] [] [] [] [] (by kernel_rfl) B.out ⟨K0.out, K1.out, K2.out, trivial⟩ trivial ⟨ld 1 0, ld 0 0, ld 1 0, cl H_X1.out, ?_, ?_, trivial⟩ ?_
 · intro L a U ho J hn d KK k; refine .free rfl ?_; have r2 : a.tmps[(2 : Nat)]?.getD undef = .pointer (some ⟨g1_1, 0, none⟩) := ho.slot 2 rfl; have r13 := J.read 0 rfl (d.get 0 rfl); have kb := (J.eld 1 rfl); have c0 := kb.at_ 0 _ rfl; have z0 := kb.free 0; have c1 := kb.at_ 1 _ rfl; have z1 := kb.free 1; have c2 := kb.at_ 2 _ rfl; have z2 := kb.free 2; clear kb; go_simp; exact k.out undef _ (J.stored 4 1 rfl rfl (.inr ⟨rfl, rfl⟩) rfl rfl 0 [.string N, .string A1, .string ⟨#[48]⟩] rfl L1.out lt1 ⟨.inr D0_1.out, .inl rfl, .inr (Ne.symm D1_2.out), trivial⟩ hn trivial)
 · intro L a U ho J hn d KK k; refine .free rfl ?_; have r3 : a.tmps[(3 : Nat)]?.getD undef = .pointer (some ⟨g1_2, 0, none⟩) := ho.slot 3 rfl; have r16 := J.read 3 rfl (d.get 3 rfl); have kb := (J.eldB 2 rfl hn); have c0 := kb.at_ 0 _ rfl; have z0 := kb.free 0; have c1 := kb.at_ 1 _ rfl; have z1 := kb.free 1; have c2 := kb.at_ 2 _ rfl; have z2 := kb.free 2; clear kb; go_simp; exact k.out undef _ (J.stored 5 2 rfl rfl (.inl rfl) rfl rfl 0 [.string X1, .string X2, .string X3] rfl L2.out lt2 ⟨.inr D0_2.out, .inr D1_2.out, .inl rfl, trivial⟩ hn trivial)
 clear K0 K1 K2 B lt0 lt1 lt2
 rintro σ W3 _ ⟨K0, K1, K2, _⟩ _ _ B
 simp only [slotsOf, finX, nval, nvalN, nvalA, Nat.reduceBEq, cond_true, cond_false, putAll, Act.put, List.setIfInBounds_toArray, List.set_cons_succ, List.set_cons_zero]
 go_wp2
 have c1_0 := K1.out.at_ 0 _ rfl
 have c1_1 := K1.out.at_ 1 _ rfl
 have c1_2 := K1.out.at_ 2 _ rfl
 have c2_0 := K2.out.at_ 0 _ rfl
 have c2_1 := K2.out.at_ 1 _ rfl
 have c2_2 := K2.out.at_ 2 _ rfl
 exact bodyPost_ret (v := .tuple #[.agg #[.string N, .string A1, .string ⟨#[48]⟩], .agg #[.string X1, .string X2, .string X3]]) (by simp [results, Tryz.results40, go_sem, c1_0, c1_1, c1_2, c2_0, c2_1, c2_2]) rfl ⟨rfl, B.out⟩

set_option maxRecDepth 100000 in
set_option maxHeartbeats 4000000 in
theorem ldir_z (A1 A2 A3 N S1 S2 S3 X1 X2 X3 : ByteArray) (w : World)
  (h_n1 : Ret Tryz.prog w 61 #[.string A2] (.string N))
  (h_z1 : Ret Tryz.prog w 16 #[.agg #[.string N, .string A1, .string ⟨#[48]⟩]] (.bool true))
  (h_sp : Ret Tryz.prog w 30 #[.int .i64 1, .int .i64 0, .int .i64 0] (.agg #[.string S1, .string S2, .string S3]))
  (h_x1 : Ret Tryz.prog w 18 #[.agg #[.string A1, .string A2, .string A3], .agg #[.string S1, .string S2, .string S3]] (.agg #[.string X1, .string X2, .string X3])) :
  Calls Tryz.prog 40 #[.agg #[.string A1, .string A2, .string A3]] w fun e w' => e = .returned (.tuple #[.agg #[.string S1, .string S2, .string S3], .agg #[.string X1, .string X2, .string X3]]) ∧ Below w.heap.size w w' := by
 have H_N1 := Lib.hid h_n1
 have H_Z1 := Lib.hid h_z1
 have H_SP := Lib.hid h_sp
 have H_X1 := Lib.hid h_x1
 clear h_n1 h_z1 h_sp h_x1
 have B := Lib.hid (Below.refl w.heap.size w)
 go_enter Tryz.func40, Tryz.ntmps40
 go_upto_region 0 with (fail)
 refine wp_tab [.n 1, .n 2, .n 3] [⟨0, 1, fun g => .pointer (some ⟨g, 0, none⟩), #[.string A1, .string A2, .string A3], 24, none⟩, ⟨1, 2, fun g => .pointer (some ⟨g, 0, none⟩), #[.string ⟨#[]⟩, .string ⟨#[]⟩, .string ⟨#[]⟩], 24, none⟩, ⟨2, 3, fun g => .pointer (some ⟨g, 0, none⟩), #[.string ⟨#[]⟩, .string ⟨#[]⟩, .string ⟨#[]⟩], 24, none⟩] [] [] [] [(0, 1), (0, 2), (1, 2)] [] [] (by kernel_rfl) B.out trivial trivial ⟨ml 0, ml 1, ml 2, trivial⟩ ?_
 clear B
 rintro σ W1 ⟨⟨L0, K0⟩, ⟨L1, K1⟩, ⟨L2, K2⟩, _⟩ _ _ ⟨y0, y1, y2, _⟩ B
 have D0_1 : Hid (blkOf (σ 1) ≠ blkOf (σ 2)) := y0
 have D0_2 : Hid (blkOf (σ 1) ≠ blkOf (σ 3)) := y1
 have D1_2 : Hid (blkOf (σ 2) ≠ blkOf (σ 3)) := y2
 clear y0 y1 y2
 simp only [slotsOf, finX, nval, nvalN, nvalA, Nat.reduceBEq, cond_true, cond_false, putAll, Act.put, List.setIfInBounds_toArray, List.set_cons_succ, List.set_cons_zero]
 generalize blkOf (σ 1) = g1_0 at *
 generalize blkOf (σ 2) = g1_1 at *
 generalize blkOf (σ 3) = g1_2 at *
 go_upto_region 1 with (fail)
 have lt0 := K0.out.lt
 have lt1 := K1.out.lt
 have lt2 := K2.out.lt
 refine wp_tab [.v 4 (.pointer (some ⟨g1_0, 1, none⟩)), .v 5 (.string A2), .v 6 (.string N), .v 7 (.pointer (some ⟨g1_0, 0, none⟩)), .v 8 (.string A1), .v 9 (.agg #[.string N, .string A1, .string ⟨#[48]⟩]), .z] [] [⟨g1_0, #[.string A1, .string A2, .string A3], 24, none⟩, ⟨g1_1, #[.string ⟨#[]⟩, .string ⟨#[]⟩, .string ⟨#[]⟩], 24, some (6, #[.string N, .string A1, .string ⟨#[48]⟩])⟩, ⟨g1_2, #[.string ⟨#[]⟩, .string ⟨#[]⟩, .string ⟨#[]⟩], 24, none⟩] [] [] [] [] [] (by kernel_rfl) B.out ⟨K0.out, K1.out, K2.out, trivial⟩ trivial ⟨pu, ld 0 1, cl H_N1.out, pu, ld 0 0, pu, ?_, trivial⟩ ?_
 · intro L a U ho J hn d KK k; refine .free rfl ?_; have r2 : a.tmps[(2 : Nat)]?.getD undef = .pointer (some ⟨g1_1, 0, none⟩) := ho.slot 2 rfl; have r9 := J.read 5 rfl (d.get 5 rfl); have kb := (J.eldB 1 rfl hn); have c0 := kb.at_ 0 _ rfl; have z0 := kb.free 0; have c1 := kb.at_ 1 _ rfl; have z1 := kb.free 1; have c2 := kb.at_ 2 _ rfl; have z2 := kb.free 2; clear kb; go_simp; exact k.out undef _ (J.stored 6 1 rfl rfl (.inl rfl) rfl rfl 0 [.string N, .string A1, .string ⟨#[48]⟩] rfl L1.out lt1 ⟨.inr D0_1.out, .inl rfl, .inr (Ne.symm D1_2.out), trivial⟩ hn trivial)
 clear K0 K1 K2 B lt0 lt1 lt2
 rintro σ W2 _ ⟨K0, K1, K2, _⟩ _ _ B
 simp only [slotsOf, finX, nval, nvalN, nvalA, Nat.reduceBEq, cond_true, cond_false, putAll, Act.put, List.setIfInBounds_toArray, List.set_cons_succ, List.set_cons_zero]
 have c1_0 := K1.out.at_ 0 _ rfl
 have c1_1 := K1.out.at_ 1 _ rfl
 have c1_2 := K1.out.at_ 2 _ rfl
 go_upto_region 3 with (
  (first
  | (go_at_call 16; with_reducible refine (H_Z1.out _ (baseI B.out)).mono ?_)
  | fail "arm"); rintro e wx ⟨rfl, q⟩; replace K0 := Lib.hid (K0.out.nearI q); replace K1 := Lib.hid (K1.out.nearI q); replace K2 := Lib.hid (K2.out.nearI q); replace B := Lib.hid (goI B.out q); clear q; replace c1_0 := K1.out.at_ 0 _ rfl; replace c1_1 := K1.out.at_ 1 _ rfl; replace c1_2 := K1.out.at_ 2 _ rfl)
 clear c1_0 c1_1 c1_2
 have lt0 := K0.out.lt
 have lt1 := K1.out.lt
 have lt2 := K2.out.lt
 refine wp_tab [.v 12 (.agg #[.string S1, .string S2, .string S3]), .z] [] [⟨g1_0, #[.string A1, .string A2, .string A3], 24, none⟩, ⟨g1_1, #[.string N, .string A1, .string ⟨#[48]⟩], 24, some (1, #[.string S1, .string S2, .string S3])⟩, ⟨g1_2, #[.string ⟨#[]⟩, .string ⟨#[]⟩, .string ⟨#[]⟩], 24, none⟩] [] [] [] [] [] (by kernel_rfl) B.out ⟨K0.out, K1.out, K2.out, trivial⟩ trivial ⟨cl H_SP.out, ?_, trivial⟩ ?_
 · intro L a U ho J hn d KK k; refine .free rfl ?_; have r2 : a.tmps[(2 : Nat)]?.getD undef = .pointer (some ⟨g1_1, 0, none⟩) := ho.slot 2 rfl; have r12 := J.read 0 rfl (d.get 0 rfl); have kb := (J.eldB 1 rfl hn); have c0 := kb.at_ 0 _ rfl; have z0 := kb.free 0; have c1 := kb.at_ 1 _ rfl; have z1 := kb.free 1; have c2 := kb.at_ 2 _ rfl; have z2 := kb.free 2; clear kb; go_simp; exact k.out undef _ (J.stored 1 1 rfl rfl (.inl rfl) rfl rfl 0 [.string S1, .string S2, .string S3] rfl L1.out lt1 ⟨.inr D0_1.out, .inl rfl, .inr (Ne.symm D1_2.out), trivial⟩ hn trivial)
 clear K0 K1 K2 B lt0 lt1 lt2
 rintro σ W3 _ ⟨K0, K1, K2, _⟩ _ _ B
 simp only [slotsOf, finX, nval, nvalN, nvalA, Nat.reduceBEq, cond_true, cond_false, putAll, Act.put, List.setIfInBounds_toArray, List.set_cons_succ, List.set_cons_zero]
 go_upto_region 4 with (fail)
 have lt0 := K0.out.lt
 have lt1 := K1.out.lt
 have lt2 := K2.out.lt
 refine wp_tab [.v 13 (.agg #[.string S1, .string S2, .string S3]), .v 14 (.agg #[.string A1, .string A2, .string A3]), .v 15 (.agg #[.string S1, .string S2, .string S3]), .v 16 (.agg #[.string X1, .string X2, .string X3]), .z, .z] [] [⟨g1_0, #[.string A1, .string A2, .string A3], 24, none⟩, ⟨g1_1, #[.string S1, .string S2, .string S3], 24, none⟩, ⟨g1_2, #[.string ⟨#[]⟩, .string ⟨#[]⟩, .string ⟨#[]⟩], 24, some (5, #[.string X1, .string X2, .string X3])⟩] [] [] [] [] [] (by kernel_rfl) B.out ⟨K0.out, K1.out, K2.out, trivial⟩ trivial ⟨ld 1 0, ld 0 0, ld 1 0, cl H_X1.out, ?_, ?_, trivial⟩ ?_
 · intro L a U ho J hn d KK k; refine .free rfl ?_; have r2 : a.tmps[(2 : Nat)]?.getD undef = .pointer (some ⟨g1_1, 0, none⟩) := ho.slot 2 rfl; have r13 := J.read 0 rfl (d.get 0 rfl); have kb := (J.eld 1 rfl); have c0 := kb.at_ 0 _ rfl; have z0 := kb.free 0; have c1 := kb.at_ 1 _ rfl; have z1 := kb.free 1; have c2 := kb.at_ 2 _ rfl; have z2 := kb.free 2; clear kb; go_simp; exact k.out undef _ (J.stored 4 1 rfl rfl (.inr ⟨rfl, rfl⟩) rfl rfl 0 [.string S1, .string S2, .string S3] rfl L1.out lt1 ⟨.inr D0_1.out, .inl rfl, .inr (Ne.symm D1_2.out), trivial⟩ hn trivial)
 · intro L a U ho J hn d KK k; refine .free rfl ?_; have r3 : a.tmps[(3 : Nat)]?.getD undef = .pointer (some ⟨g1_2, 0, none⟩) := ho.slot 3 rfl; have r16 := J.read 3 rfl (d.get 3 rfl); have kb := (J.eldB 2 rfl hn); have c0 := kb.at_ 0 _ rfl; have z0 := kb.free 0; have c1 := kb.at_ 1 _ rfl; have z1 := kb.free 1; have c2 := kb.at_ 2 _ rfl; have z2 := kb.free 2; clear kb; go_simp; exact k.out undef _ (J.stored 5 2 rfl rfl (.inl rfl) rfl rfl 0 [.string X1, .string X2, .string X3] rfl L2.out lt2 ⟨.inr D0_2.out, .inr D1_2.out, .inl rfl, trivial⟩ hn trivial)
 clear K0 K1 K2 B lt0 lt1 lt2
 rintro σ W4 _ ⟨K0, K1, K2, _⟩ _ _ B
 simp only [slotsOf, finX, nval, nvalN, nvalA, Nat.reduceBEq, cond_true, cond_false, putAll, Act.put, List.setIfInBounds_toArray, List.set_cons_succ, List.set_cons_zero]
 go_wp2
 have c1_0 := K1.out.at_ 0 _ rfl
 have c1_1 := K1.out.at_ 1 _ rfl
 have c1_2 := K1.out.at_ 2 _ rfl
 have c2_0 := K2.out.at_ 0 _ rfl
 have c2_1 := K2.out.at_ 1 _ rfl
 have c2_2 := K2.out.at_ 2 _ rfl
 exact bodyPost_ret (v := .tuple #[.agg #[.string S1, .string S2, .string S3], .agg #[.string X1, .string X2, .string X3]]) (by simp [results, Tryz.results40, go_sem, c1_0, c1_1, c1_2, c2_0, c2_1, c2_2]) rfl ⟨rfl, B.out⟩

end Go.Proofs.YtopilnlniidejaaGreatDoor

/- The walk of known of klippelaw42, over texts. -/
namespace Go.Proofs.YtopilnlniidejaaGreatDoor
set_option linter.all false
open Go.RowKit

set_option maxRecDepth 100000 in
set_option maxHeartbeats 4000000 in
theorem known42_of (A1 A2 A3 S1 S2 S3 C1 C2 C3 D1 D2 D3 : ByteArray) (w : World)
  (h_s1 : Ret Tryz.prog w 30 #[.int .i64 1, .int .i64 0, .int .i64 1] (.agg #[.string A1, .string A2, .string A3]))
  (h_s2 : Ret Tryz.prog w 30 #[.int .i64 1, .int .i64 0, .int .i64 (-1)] (.agg #[.string S1, .string S2, .string S3]))
  (h_s3 : Ret Tryz.prog w 30 #[.int .i64 0, .int .i64 0, .int .i64 1] (.agg #[.string C1, .string C2, .string C3]))
  (h_s4 : Ret Tryz.prog w 30 #[.int .i64 0, .int .i64 1, .int .i64 0] (.agg #[.string D1, .string D2, .string D3]))
  (h_pa : Ret Tryz.prog w 33 #[.agg #[.string A1, .string A2, .string A3, .string ⟨#[48]⟩, .string S1, .string S2, .string S3]] (.tuple #[.string ⟨#[48]⟩, .string ⟨#[45, 49]⟩, .int .i64 0]))
  (h_ki : Ret Tryz.prog w 34 #[.agg #[.string A1, .string A2, .string A3, .string ⟨#[48]⟩, .string S1, .string S2, .string S3]] (.tuple #[.int .i64 1, .int .i64 0]))
  (h_so : Ret Tryz.prog w 13 #[.agg #[.string A1, .string A2, .string A3, .string ⟨#[48]⟩], .agg #[.string C1, .string C2, .string C3, .string ⟨#[48]⟩, .string ⟨#[45, 49]⟩], .agg #[.string D1, .string D2, .string D3, .string ⟨#[48]⟩, .string ⟨#[48]⟩]] (.tuple #[.agg #[.string S1, .string S2, .string S3], .int .i64 0])) :
  Calls Tryz.prog 11 #[] w fun e w' => e = .returned (.bool true) ∧ Below w.heap.size w w' := by
 have H_S1 := Lib.hid h_s1
 have H_S2 := Lib.hid h_s2
 have H_S3 := Lib.hid h_s3
 have H_S4 := Lib.hid h_s4
 have H_PA := Lib.hid h_pa
 have H_KI := Lib.hid h_ki
 have H_SO := Lib.hid h_so
 clear h_s1 h_s2 h_s3 h_s4 h_pa h_ki h_so
 have B := Lib.hid (Below.refl w.heap.size w)
 go_enter Tryz.func11, Tryz.ntmps11
 go_upto_region 1 with (fail)
 refine wp_tab [.v 11 (.agg #[.string A1, .string A2, .string A3]), .v 12 (.agg #[.string A1, .string A2, .string A3, .string ⟨#[48]⟩]), .v 13 (.agg #[.string S1, .string S2, .string S3]), .v 14 (.agg #[.string A1, .string A2, .string A3, .string ⟨#[48]⟩, .string S1, .string S2, .string S3]), .n 1, .z] [⟨4, 1, fun g => .pointer (some ⟨g, 0, none⟩), #[.string ⟨#[]⟩, .string ⟨#[]⟩, .string ⟨#[]⟩, .string ⟨#[]⟩, .string ⟨#[]⟩, .string ⟨#[]⟩, .string ⟨#[]⟩], 58, some (5, #[.string A1, .string A2, .string A3, .string ⟨#[48]⟩, .string S1, .string S2, .string S3])⟩] [] [] [(5, 4)] [] [] [] (by kernel_rfl) B.out trivial trivial ⟨cl H_S1.out, pu, cl H_S2.out, pu, ml 0, ?_, trivial⟩ ?_
 · intro L a U ho J hn d KK k; refine .free rfl ?_; have r1 : a.tmps[(1 : Nat)]?.getD undef = .pointer (some ⟨(blkOf (slotOf a 1)), 0, none⟩) := J.readN 0 rfl (d.get 4 rfl); have r14 := J.read 3 rfl (d.get 3 rfl); have kb := (J.nwB 0 rfl (d.get 4 rfl) hn).blk; have c0 := kb.at_ 0 _ rfl; have z0 := kb.free 0; have c1 := kb.at_ 1 _ rfl; have z1 := kb.free 1; have c2 := kb.at_ 2 _ rfl; have z2 := kb.free 2; have c3 := kb.at_ 3 _ rfl; have z3 := kb.free 3; have c4 := kb.at_ 4 _ rfl; have z4 := kb.free 4; have c5 := kb.at_ 5 _ rfl; have z5 := kb.free 5; have c6 := kb.at_ 6 _ rfl; have z6 := kb.free 6; clear kb; go_simp; exact k.out undef _ (J.storedN 5 0 rfl rfl rfl rfl rfl 0 [.string A1, .string A2, .string A3, .string ⟨#[48]⟩, .string S1, .string S2, .string S3] rfl trivial (d.get 4 rfl) hn ⟨.inr (d.get 4 rfl), trivial⟩)
 clear B
 rintro σ W1 ⟨⟨L0, K0⟩, _⟩ _ _ _ B
 simp only [slotsOf, finX, nval, nvalN, nvalA, Nat.reduceBEq, cond_true, cond_false, putAll, Act.put, List.setIfInBounds_toArray, List.set_cons_succ, List.set_cons_zero]
 generalize blkOf (σ 1) = g1_4 at *
 have c0_0 := K0.out.at_ 0 _ rfl
 have c0_1 := K0.out.at_ 1 _ rfl
 have c0_2 := K0.out.at_ 2 _ rfl
 have c0_3 := K0.out.at_ 3 _ rfl
 have c0_4 := K0.out.at_ 4 _ rfl
 have c0_5 := K0.out.at_ 5 _ rfl
 have c0_6 := K0.out.at_ 6 _ rfl
 go_upto_region 4 with (
  (first
  | (go_at_call 33; with_reducible refine (H_PA.out _ (baseI B.out)).mono ?_)
  | (go_at_call 34; with_reducible refine (H_KI.out _ (baseI B.out)).mono ?_)
  | fail "arm"); rintro e wx ⟨rfl, q⟩; replace K0 := Lib.hid (K0.out.nearI q); replace B := Lib.hid (goI B.out q); clear q; replace c0_0 := K0.out.at_ 0 _ rfl; replace c0_1 := K0.out.at_ 1 _ rfl; replace c0_2 := K0.out.at_ 2 _ rfl; replace c0_3 := K0.out.at_ 3 _ rfl; replace c0_4 := K0.out.at_ 4 _ rfl; replace c0_5 := K0.out.at_ 5 _ rfl; replace c0_6 := K0.out.at_ 6 _ rfl)
 clear c0_0 c0_1 c0_2 c0_3 c0_4 c0_5 c0_6
 have lt0 := K0.out.lt
 refine wp_tab [.v 26 (.agg #[.string C1, .string C2, .string C3]), .v 27 (.agg #[.string C1, .string C2, .string C3, .string ⟨#[48]⟩]), .v 28 (.agg #[.string D1, .string D2, .string D3]), .v 29 (.agg #[.string D1, .string D2, .string D3, .string ⟨#[48]⟩]), .n 7, .n 8, .z, .z] [⟨4, 7, fun g => .pointer (some ⟨g, 0, none⟩), #[.string ⟨#[]⟩, .string ⟨#[]⟩, .string ⟨#[]⟩, .string ⟨#[]⟩], 26, some (6, #[.string C1, .string C2, .string C3, .string ⟨#[48]⟩])⟩, ⟨5, 8, fun g => .pointer (some ⟨g, 0, none⟩), #[.string ⟨#[]⟩, .string ⟨#[]⟩, .string ⟨#[]⟩, .string ⟨#[]⟩], 26, some (7, #[.string D1, .string D2, .string D3, .string ⟨#[48]⟩])⟩] [⟨g1_4, #[.string A1, .string A2, .string A3, .string ⟨#[48]⟩, .string S1, .string S2, .string S3], 58, none⟩] [] [(6, 4), (7, 5)] [(0, 1)] [] [] (by kernel_rfl) B.out ⟨K0.out, trivial⟩ trivial ⟨cl H_S3.out, pu, cl H_S4.out, pu, ml 0, ml 1, ?_, ?_, trivial⟩ ?_
 · intro L a U ho J hn d KK k; refine .free rfl ?_; have r7 : a.tmps[(7 : Nat)]?.getD undef = .pointer (some ⟨(blkOf (slotOf a 7)), 0, none⟩) := J.readN 0 rfl (d.get 4 rfl); have r27 := J.read 1 rfl (d.get 1 rfl); have kb := (J.nwB 0 rfl (d.get 4 rfl) hn).blk; have c0 := kb.at_ 0 _ rfl; have z0 := kb.free 0; have c1 := kb.at_ 1 _ rfl; have z1 := kb.free 1; have c2 := kb.at_ 2 _ rfl; have z2 := kb.free 2; have c3 := kb.at_ 3 _ rfl; have z3 := kb.free 3; clear kb; go_simp; exact k.out undef _ (J.storedN 6 0 rfl rfl rfl rfl rfl 0 [.string C1, .string C2, .string C3, .string ⟨#[48]⟩] rfl ⟨lt0, trivial⟩ (d.get 4 rfl) hn ⟨.inr (d.get 4 rfl), .inl (by decide), trivial⟩)
 · intro L a U ho J hn d KK k; refine .free rfl ?_; have r8 : a.tmps[(8 : Nat)]?.getD undef = .pointer (some ⟨(blkOf (slotOf a 8)), 0, none⟩) := J.readN 1 rfl (d.get 5 rfl); have r29 := J.read 3 rfl (d.get 3 rfl); have kb := (J.nwB 1 rfl (d.get 5 rfl) hn).blk; have c0 := kb.at_ 0 _ rfl; have z0 := kb.free 0; have c1 := kb.at_ 1 _ rfl; have z1 := kb.free 1; have c2 := kb.at_ 2 _ rfl; have z2 := kb.free 2; have c3 := kb.at_ 3 _ rfl; have z3 := kb.free 3; clear kb; go_simp; exact k.out undef _ (J.storedN 7 1 rfl rfl rfl rfl rfl 0 [.string D1, .string D2, .string D3, .string ⟨#[48]⟩] rfl ⟨lt0, trivial⟩ (d.get 5 rfl) hn ⟨.inl (by decide), .inr (d.get 5 rfl), trivial⟩)
 clear K0 B lt0
 rintro σ W2 ⟨⟨L1, K1⟩, ⟨L2, K2⟩, _⟩ ⟨K0, _⟩ _ ⟨y0, _⟩ B
 have D1_2 : Hid (blkOf (σ 7) ≠ blkOf (σ 8)) := y0
 clear y0
 simp only [slotsOf, finX, nval, nvalN, nvalA, Nat.reduceBEq, cond_true, cond_false, putAll, Act.put, List.setIfInBounds_toArray, List.set_cons_succ, List.set_cons_zero]
 generalize blkOf (σ 7) = g2_4 at *
 generalize blkOf (σ 8) = g2_5 at *
 go_upto_region 5 with (fail)
 have lt0 := K0.out.lt
 have lt1 := K1.out.lt
 have lt2 := K2.out.lt
 refine wp_tab [.v 31 (.pointer (some ⟨g1_4, 0, none⟩)), .v 32 (.agg #[.string A1, .string A2, .string A3, .string ⟨#[48]⟩]), .v 33 (.agg #[.string C1, .string C2, .string C3, .string ⟨#[48]⟩]), .v 34 (.agg #[.string C1, .string C2, .string C3, .string ⟨#[48]⟩, .string ⟨#[45, 49]⟩]), .v 35 (.agg #[.string D1, .string D2, .string D3, .string ⟨#[48]⟩]), .v 36 (.agg #[.string D1, .string D2, .string D3, .string ⟨#[48]⟩, .string ⟨#[48]⟩]), .v 37 (.tuple #[.agg #[.string S1, .string S2, .string S3], .int .i64 0]), .v 30 (.tuple #[.agg #[.string S1, .string S2, .string S3], .int .i64 0]), .v 38 (.agg #[.string S1, .string S2, .string S3]), .v 39 (.int .i64 0), .n 9, .z, .v 10 (.int .i64 0)] [⟨10, 9, fun g => .pointer (some ⟨g, 0, none⟩), #[.string ⟨#[]⟩, .string ⟨#[]⟩, .string ⟨#[]⟩], 24, some (11, #[.string S1, .string S2, .string S3])⟩] [⟨g1_4, #[.string A1, .string A2, .string A3, .string ⟨#[48]⟩, .string S1, .string S2, .string S3], 58, none⟩, ⟨g2_4, #[.string C1, .string C2, .string C3, .string ⟨#[48]⟩], 26, none⟩, ⟨g2_5, #[.string D1, .string D2, .string D3, .string ⟨#[48]⟩], 26, none⟩] [] [(11, 10)] [] [] [] (by kernel_rfl) B.out ⟨K0.out, K1.out, K2.out, trivial⟩ trivial ⟨pu, ld 0 0, ld 1 0, pu, ld 2 0, pu, cl H_SO.out, pu, pu, pu, ml 0, ?_, pu, trivial⟩ ?_
 · intro L a U ho J hn d KK k; refine .free rfl ?_; have r9 : a.tmps[(9 : Nat)]?.getD undef = .pointer (some ⟨(blkOf (slotOf a 9)), 0, none⟩) := J.readN 0 rfl (d.get 10 rfl); have r38 := J.read 8 rfl (d.get 8 rfl); have kb := (J.nwB 0 rfl (d.get 10 rfl) hn).blk; have c0 := kb.at_ 0 _ rfl; have z0 := kb.free 0; have c1 := kb.at_ 1 _ rfl; have z1 := kb.free 1; have c2 := kb.at_ 2 _ rfl; have z2 := kb.free 2; clear kb; go_simp; exact k.out undef _ (J.storedN 11 0 rfl rfl rfl rfl rfl 0 [.string S1, .string S2, .string S3] rfl ⟨lt0, lt1, lt2, trivial⟩ (d.get 10 rfl) hn ⟨.inr (d.get 10 rfl), trivial⟩)
 clear K0 K1 K2 B lt0 lt1 lt2
 rintro σ W3 ⟨⟨L3, K3⟩, _⟩ ⟨K0, K1, K2, _⟩ _ _ B
 simp only [slotsOf, finX, nval, nvalN, nvalA, Nat.reduceBEq, cond_true, cond_false, putAll, Act.put, List.setIfInBounds_toArray, List.set_cons_succ, List.set_cons_zero]
 generalize blkOf (σ 9) = g3_10 at *
 have c0_4 := K0.out.at_ 4 _ rfl
 have c0_5 := K0.out.at_ 5 _ rfl
 have c0_6 := K0.out.at_ 6 _ rfl
 have c3_0 := K3.out.at_ 0 _ rfl
 have c3_1 := K3.out.at_ 1 _ rfl
 have c3_2 := K3.out.at_ 2 _ rfl
 go_wp2
 clear c0_4 c0_5 c0_6 c3_0 c3_1 c3_2
 go_ret
 exact ⟨rfl, B.out⟩

end Go.Proofs.YtopilnlniidejaaGreatDoor
