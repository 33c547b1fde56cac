/- The walks of slip and klippelaw42, over texts: Pierce. -/
import Derived.Test.YtopilnlniidejaaGreatDoorShelf
import Derived.Test.YtopilnlniidejaaGreatDoorGPar
import Derived.Deep.RegionHeld3
import Derived.Laws.ResultCell
import Derived.Deep.Cut
import Derived.Deep.CutRange
import Derived.Deep.DeepCutAuto
import Derived.Outline
namespace Go.Proofs.YtopilnlniidejaaGreatDoor
set_option linter.all false
open Go.RowKit

set_option maxRecDepth 100000 in
set_option maxHeartbeats 20000000 in
theorem spierce_of {A1 A2 A3 A0 C1 C2 C3 D1 D2 D3 F1 F2 F3 G1 G2 G3 Q1 Q2 Q3 T U1 U2 U3 X R1 R2 R3 Rx1 Rx2 Rx3 Y1 Y2 Y3 Yx1 Yx2 Yx3 M1 M2 M3 O1 O2 O3 : ByteArray} {e1 e2 ef ez ed1 ed2 : Int} {res : Value} (w : World)
  (r1 : ¬ ef = 0 → res = .tuple #[.agg #[.string ⟨#[]⟩, .string ⟨#[]⟩, .string ⟨#[]⟩], .int .i64 ef])
  (r2 : ef = 0 → ¬ ez = 0 → res = .tuple #[.agg #[.string ⟨#[]⟩, .string ⟨#[]⟩, .string ⟨#[]⟩], .int .i64 ez])
  (r3 : ef = 0 → ez = 0 → ¬ ed1 = 0 → res = .tuple #[.agg #[.string ⟨#[]⟩, .string ⟨#[]⟩, .string ⟨#[]⟩], .int .i64 18])
  (r4 : ef = 0 → ez = 0 → ed1 = 0 → ¬ ed2 = 0 → res = .tuple #[.agg #[.string ⟨#[]⟩, .string ⟨#[]⟩, .string ⟨#[]⟩], .int .i64 18])
  (r5 : ef = 0 → ez = 0 → ed1 = 0 → ed2 = 0 → res = .tuple #[.agg #[.string O1, .string O2, .string O3], .int .i64 0])
  (h_p1 : Ret Tryz.prog w 50 #[.agg #[.string A1, .string A2, .string A3, .string A0]] (.int .i64 e1))
  (h_v1 : ∀ (W : World) (b0 : Nat), Blk W b0 #[.string C1, .string C2, .string C3, .string D1, .string D2, .string D3, .string F1, .string F2, .string F3, .string G1, .string G2, .string G3] 24 → Below w.heap.size w W → Calls Tryz.prog 62 #[.slice (some ⟨b0, 0, none⟩) 4 4] W fun e w' => e = .returned (.int .i64 e2) ∧ Below W.heap.size W w')
  (h_f1 : ∀ (W : World) (b0 : Nat), Blk W b0 #[.int .i64 e1, .int .i64 e2] 31 → Below w.heap.size w W → Calls Tryz.prog 49 #[.slice (some ⟨b0, 0, none⟩) 2 2] W fun e w' => e = .returned (.int .i64 ef) ∧ Below W.heap.size W w')
  (h_z1 : ef = 0 → ∀ (W : World) (b0 : Nat), Blk W b0 #[.string A1, .string A2, .string A3, .string D1, .string D2, .string D3, .string G1, .string G2, .string G3] 24 → Below w.heap.size w W → Calls Tryz.prog 52 #[.slice (some ⟨b0, 0, none⟩) 3 3] W fun e w' => e = .returned (.int .i64 ez) ∧ Below W.heap.size W w')
  (h_dp1 : ef = 0 ∧ ez = 0 → Ret Tryz.prog w 64 #[.agg #[.string A1, .string A2, .string A3], .agg #[.string C1, .string C2, .string C3]] (.string Q1))
  (h_su1 : ef = 0 ∧ ez = 0 → Ret Tryz.prog w 53 #[.string A0, .string Q1] (.string Q2))
  (h_da1 : ef = 0 ∧ ez = 0 → Ret Tryz.prog w 64 #[.agg #[.string A1, .string A2, .string A3], .agg #[.string D1, .string D2, .string D3]] (.string Q3))
  (h_dv1 : ef = 0 ∧ ez = 0 → Ret Tryz.prog w 63 #[.string Q2, .string Q3] (.tuple #[.string T, .int .i64 ed1]))
  (h_sc1 : ef = 0 ∧ ez = 0 ∧ ed1 = 0 → Ret Tryz.prog w 66 #[.agg #[.string D1, .string D2, .string D3], .string T] (.agg #[.string R1, .string R2, .string R3]))
  (h_ad1 : ef = 0 ∧ ez = 0 ∧ ed1 = 0 → Ret Tryz.prog w 65 #[.agg #[.string C1, .string C2, .string C3], .agg #[.string R1, .string R2, .string R3]] (.agg #[.string Rx1, .string Rx2, .string Rx3]))
  (h_dp2 : ef = 0 ∧ ez = 0 ∧ ed1 = 0 → Ret Tryz.prog w 64 #[.agg #[.string A1, .string A2, .string A3], .agg #[.string F1, .string F2, .string F3]] (.string U1))
  (h_su2 : ef = 0 ∧ ez = 0 ∧ ed1 = 0 → Ret Tryz.prog w 53 #[.string A0, .string U1] (.string U2))
  (h_da2 : ef = 0 ∧ ez = 0 ∧ ed1 = 0 → Ret Tryz.prog w 64 #[.agg #[.string A1, .string A2, .string A3], .agg #[.string G1, .string G2, .string G3]] (.string U3))
  (h_dv2 : ef = 0 ∧ ez = 0 ∧ ed1 = 0 → Ret Tryz.prog w 63 #[.string U2, .string U3] (.tuple #[.string X, .int .i64 ed2]))
  (h_sc2 : ef = 0 ∧ ez = 0 ∧ ed1 = 0 ∧ ed2 = 0 → Ret Tryz.prog w 66 #[.agg #[.string G1, .string G2, .string G3], .string X] (.agg #[.string Y1, .string Y2, .string Y3]))
  (h_ad2 : ef = 0 ∧ ez = 0 ∧ ed1 = 0 ∧ ed2 = 0 → Ret Tryz.prog w 65 #[.agg #[.string F1, .string F2, .string F3], .agg #[.string Y1, .string Y2, .string Y3]] (.agg #[.string Yx1, .string Yx2, .string Yx3]))
  (h_sm : ef = 0 ∧ ez = 0 ∧ ed1 = 0 ∧ ed2 = 0 → Ret Tryz.prog w 66 #[.agg #[.string Rx1, .string Rx2, .string Rx3], .string ⟨#[45, 49]⟩] (.agg #[.string M1, .string M2, .string M3]))
  (h_am : ef = 0 ∧ ez = 0 ∧ ed1 = 0 ∧ ed2 = 0 → Ret Tryz.prog w 65 #[.agg #[.string Yx1, .string Yx2, .string Yx3], .agg #[.string M1, .string M2, .string M3]] (.agg #[.string O1, .string O2, .string O3]))
  (h_sv : ef = 0 ∧ ez = 0 ∧ ed1 = 0 ∧ ed2 = 0 → Ret Tryz.prog w 55 #[.agg #[.string O1, .string O2, .string O3]] (.tuple #[.agg #[.string O1, .string O2, .string O3], .int .i64 0])) :
  Calls Tryz.prog 21 #[.agg #[.string A1, .string A2, .string A3, .string A0], .agg #[.string C1, .string C2, .string C3, .string D1, .string D2, .string D3], .agg #[.string F1, .string F2, .string F3, .string G1, .string G2, .string G3]] w fun e w' => e = .returned (res) ∧ Below w.heap.size w w' := by
 have H_P1 := Lib.hid h_p1
 have H_V1 := Lib.hid h_v1
 have H_F1 := Lib.hid h_f1
 clear h_p1 h_v1 h_f1
 have B := Lib.hid (Below.refl w.heap.size w)
 go_enter Tryz.func21, Tryz.ntmps21
 go_upto_region 0 with (fail)
 refine wp_tab [.n 3, .n 4, .n 5, .n 6, .v 7 (.int .i64 0)] [⟨0, 3, fun g => .pointer (some ⟨g, 0, none⟩), #[.string A1, .string A2, .string A3, .string A0], 26, none⟩, ⟨1, 4, fun g => .pointer (some ⟨g, 0, none⟩), #[.string C1, .string C2, .string C3, .string D1, .string D2, .string D3], 45, none⟩, ⟨2, 5, fun g => .pointer (some ⟨g, 0, none⟩), #[.string F1, .string F2, .string F3, .string G1, .string G2, .string G3], 45, none⟩, ⟨3, 6, fun g => .pointer (some ⟨g, 0, none⟩), #[.string ⟨#[]⟩, .string ⟨#[]⟩, .string ⟨#[]⟩], 24, none⟩] [] [] [] [(0, 3), (1, 3), (2, 3)] [] [] (by kernel_rfl) B.out trivial trivial ⟨ml 0, ml 1, ml 2, ml 3, pu, trivial⟩ ?_
 clear B
 rintro σ W1 ⟨⟨L0, K0⟩, ⟨L1, K1⟩, ⟨L2, K2⟩, ⟨L3, K3⟩, _⟩ _ _ ⟨y0, y1, y2, _⟩ B
 have D0_3 : Hid (blkOf (σ 3) ≠ blkOf (σ 6)) := y0
 have D1_3 : Hid (blkOf (σ 4) ≠ blkOf (σ 6)) := y1
 have D2_3 : Hid (blkOf (σ 5) ≠ blkOf (σ 6)) := y2
 clear y0 y1 y2
 simp only [slotsOf, finX, nval, nvalN, nvalA, Nat.reduceBEq, cond_true, cond_false, putAll, Act.put, List.setIfInBounds_toArray, List.set_cons_succ, List.set_cons_zero]
 generalize blkOf (σ 3) = g1_0 at *
 generalize blkOf (σ 4) = g1_1 at *
 generalize blkOf (σ 5) = g1_2 at *
 generalize blkOf (σ 6) = g1_3 at *
 go_upto_region 1 with (fail)
 refine wp_tab [.v 15 (.agg #[.string A1, .string A2, .string A3, .string A0]), .v 16 (.int .i64 e1), .v 17 (.pointer (some ⟨g1_1, 0, none⟩)), .v 18 (.agg #[.string C1, .string C2, .string C3]), .v 19 (.pointer (some ⟨g1_1, 3, none⟩)), .v 20 (.agg #[.string D1, .string D2, .string D3]), .v 21 (.pointer (some ⟨g1_2, 0, none⟩)), .v 22 (.agg #[.string F1, .string F2, .string F3]), .v 23 (.pointer (some ⟨g1_2, 3, none⟩)), .v 24 (.agg #[.string G1, .string G2, .string G3]), .n 25, .v 26 (.int .i64 e2), .n 27, .v 28 (.int .i64 ef), .v 8 (.int .i64 ef)] [⟨10, 25, fun g => .slice (some ⟨g, 0, none⟩) 4 4, #[.string C1, .string C2, .string C3, .string D1, .string D2, .string D3, .string F1, .string F2, .string F3, .string G1, .string G2, .string G3], 24, none⟩, ⟨12, 27, fun g => .slice (some ⟨g, 0, none⟩) 2 2, #[.int .i64 e1, .int .i64 e2], 31, none⟩] [⟨g1_0, #[.string A1, .string A2, .string A3, .string A0], 26, none⟩, ⟨g1_1, #[.string C1, .string C2, .string C3, .string D1, .string D2, .string D3], 45, none⟩, ⟨g1_2, #[.string F1, .string F2, .string F3, .string G1, .string G2, .string G3], 45, none⟩, ⟨g1_3, #[.string ⟨#[]⟩, .string ⟨#[]⟩, .string ⟨#[]⟩], 24, none⟩] [] [] [] [(3, 0), (3, 1)] [] (by kernel_rfl) B.out ⟨K0.out, K1.out, K2.out, K3.out, trivial⟩ trivial ⟨ld 0 0, cl H_P1.out, pu, ld 1 0, pu, ld 1 3, pu, ld 2 0, pu, ld 2 3, ml 0, c1 0 H_V1.out, ml 1, c1 1 H_F1.out, pu, trivial⟩ ?_
 clear K0 K1 K2 K3 B
 rintro σ W2 ⟨⟨L4, K4⟩, ⟨L5, K5⟩, _⟩ ⟨K0, K1, K2, K3, _⟩ ⟨x0, x1, _⟩ _ B
 have D3_4 : Hid (g1_3 ≠ blkOf (σ 25)) := x0
 have D3_5 : Hid (g1_3 ≠ blkOf (σ 27)) := x1
 clear x0 x1
 simp only [slotsOf, finX, nval, nvalN, nvalA, Nat.reduceBEq, cond_true, cond_false, putAll, Act.put, List.setIfInBounds_toArray, List.set_cons_succ, List.set_cons_zero]
 generalize blkOf (σ 25) = g2_10 at *
 generalize blkOf (σ 27) = g2_12 at *
 go_upto_region 2 with (fail)
 by_cases hef : ef = 0
 ·
  have qef : (ef != 0) = false := by simp [hef]
  have H_Z1 := Lib.hid (h_z1 hef)
  clear h_z1
  go_upto_region 4 with (fail)
  refine wp_tab [.v 33 (.pointer (some ⟨g1_0, 0, none⟩)), .v 34 (.agg #[.string A1, .string A2, .string A3]), .v 35 (.pointer (some ⟨g1_1, 3, none⟩)), .v 36 (.agg #[.string D1, .string D2, .string D3]), .v 37 (.pointer (some ⟨g1_2, 3, none⟩)), .v 38 (.agg #[.string G1, .string G2, .string G3]), .n 39, .v 40 (.int .i64 ez), .v 9 (.int .i64 ez)] [⟨6, 39, fun g => .slice (some ⟨g, 0, none⟩) 3 3, #[.string A1, .string A2, .string A3, .string D1, .string D2, .string D3, .string G1, .string G2, .string G3], 24, none⟩] [⟨g1_0, #[.string A1, .string A2, .string A3, .string A0], 26, none⟩, ⟨g1_1, #[.string C1, .string C2, .string C3, .string D1, .string D2, .string D3], 45, none⟩, ⟨g1_2, #[.string F1, .string F2, .string F3, .string G1, .string G2, .string G3], 45, none⟩, ⟨g1_3, #[.string ⟨#[]⟩, .string ⟨#[]⟩, .string ⟨#[]⟩], 24, none⟩, ⟨g2_10, #[.string C1, .string C2, .string C3, .string D1, .string D2, .string D3, .string F1, .string F2, .string F3, .string G1, .string G2, .string G3], 24, none⟩, ⟨g2_12, #[.int .i64 e1, .int .i64 e2], 31, none⟩] [] [] [] [(3, 0)] [] (by kernel_rfl) B.out ⟨K0.out, K1.out, K2.out, K3.out, K4.out, K5.out, trivial⟩ trivial ⟨pu, ld 0 0, pu, ld 1 3, pu, ld 2 3, ml 0, c1 0 H_Z1.out, pu, trivial⟩ ?_
  clear K0 K1 K2 K3 K4 K5 B
  rintro σ W3 ⟨⟨L6, K6⟩, _⟩ ⟨K0, K1, K2, K3, K4, K5, _⟩ ⟨x0, _⟩ _ B
  have D3_6 : Hid (g1_3 ≠ blkOf (σ 39)) := x0
  clear x0
  simp only [slotsOf, finX, nval, nvalN, nvalA, Nat.reduceBEq, cond_true, cond_false, putAll, Act.put, List.setIfInBounds_toArray, List.set_cons_succ, List.set_cons_zero]
  generalize blkOf (σ 39) = g3_6 at *
  go_upto_region 5 with (fail)
  by_cases hez : ez = 0
  ·
   have qez : (ez != 0) = false := by simp [hez]
   have H_DP1 := Lib.hid (h_dp1 ⟨hef, hez⟩)
   have H_SU1 := Lib.hid (h_su1 ⟨hef, hez⟩)
   have H_DA1 := Lib.hid (h_da1 ⟨hef, hez⟩)
   have H_DV1 := Lib.hid (h_dv1 ⟨hef, hez⟩)
   clear h_dp1 h_su1 h_da1 h_dv1
   go_upto_region 7 with (fail)
   refine wp_tab [.n 10] [⟨0, 10, fun g => .pointer (some ⟨g, 0, none⟩), #[.string ⟨#[]⟩, .string ⟨#[]⟩, .string ⟨#[]⟩, .string ⟨#[]⟩, .string ⟨#[]⟩, .string ⟨#[]⟩], 111, none⟩] [⟨g1_0, #[.string A1, .string A2, .string A3, .string A0], 26, none⟩, ⟨g1_1, #[.string C1, .string C2, .string C3, .string D1, .string D2, .string D3], 45, none⟩, ⟨g1_2, #[.string F1, .string F2, .string F3, .string G1, .string G2, .string G3], 45, none⟩, ⟨g1_3, #[.string ⟨#[]⟩, .string ⟨#[]⟩, .string ⟨#[]⟩], 24, none⟩, ⟨g2_10, #[.string C1, .string C2, .string C3, .string D1, .string D2, .string D3, .string F1, .string F2, .string F3, .string G1, .string G2, .string G3], 24, none⟩, ⟨g2_12, #[.int .i64 e1, .int .i64 e2], 31, none⟩, ⟨g3_6, #[.string A1, .string A2, .string A3, .string D1, .string D2, .string D3, .string G1, .string G2, .string G3], 24, none⟩] [] [] [] [(0, 0), (1, 0), (2, 0), (3, 0), (4, 0), (5, 0), (6, 0)] [] (by kernel_rfl) B.out ⟨K0.out, K1.out, K2.out, K3.out, K4.out, K5.out, K6.out, trivial⟩ trivial ⟨ml 0, trivial⟩ ?_
   clear K0 K1 K2 K3 K4 K5 K6 B
   rintro σ W4 ⟨⟨L7, K7⟩, _⟩ ⟨K0, K1, K2, K3, K4, K5, K6, _⟩ ⟨x0, x1, x2, x3, x4, x5, x6, _⟩ _ B
   have D0_7 : Hid (g1_0 ≠ blkOf (σ 10)) := x0
   have D1_7 : Hid (g1_1 ≠ blkOf (σ 10)) := x1
   have D2_7 : Hid (g1_2 ≠ blkOf (σ 10)) := x2
   have D3_7 : Hid (g1_3 ≠ blkOf (σ 10)) := x3
   have D4_7 : Hid (g2_10 ≠ blkOf (σ 10)) := x4
   have D5_7 : Hid (g2_12 ≠ blkOf (σ 10)) := x5
   have D6_7 : Hid (g3_6 ≠ blkOf (σ 10)) := x6
   clear x0 x1 x2 x3 x4 x5 x6
   simp only [slotsOf, finX, nval, nvalN, nvalA, Nat.reduceBEq, cond_true, cond_false, putAll, Act.put, List.setIfInBounds_toArray, List.set_cons_succ, List.set_cons_zero]
   generalize blkOf (σ 10) = g4_0 at *
   go_upto_region 8 with (fail)
   refine wp_tab [.v 45 (.agg #[.string C1, .string C2, .string C3, .string D1, .string D2, .string D3]), .v 46 (.agg #[.string F1, .string F2, .string F3, .string G1, .string G2, .string G3]), .n 47, .v 48 (.int .i64 2), .v 49 (.int .i64 0)] [⟨2, 47, fun g => .slice (some ⟨g, 0, none⟩) 2 2, #[.string C1, .string C2, .string C3, .string D1, .string D2, .string D3, .string F1, .string F2, .string F3, .string G1, .string G2, .string G3], 45, none⟩] [⟨g1_0, #[.string A1, .string A2, .string A3, .string A0], 26, none⟩, ⟨g1_1, #[.string C1, .string C2, .string C3, .string D1, .string D2, .string D3], 45, none⟩, ⟨g1_2, #[.string F1, .string F2, .string F3, .string G1, .string G2, .string G3], 45, none⟩, ⟨g1_3, #[.string ⟨#[]⟩, .string ⟨#[]⟩, .string ⟨#[]⟩], 24, none⟩, ⟨g2_10, #[.string C1, .string C2, .string C3, .string D1, .string D2, .string D3, .string F1, .string F2, .string F3, .string G1, .string G2, .string G3], 24, none⟩, ⟨g2_12, #[.int .i64 e1, .int .i64 e2], 31, none⟩, ⟨g3_6, #[.string A1, .string A2, .string A3, .string D1, .string D2, .string D3, .string G1, .string G2, .string G3], 24, none⟩, ⟨g4_0, #[.string ⟨#[]⟩, .string ⟨#[]⟩, .string ⟨#[]⟩, .string ⟨#[]⟩, .string ⟨#[]⟩, .string ⟨#[]⟩], 111, none⟩] [] [] [] [(3, 0), (7, 0)] [] (by kernel_rfl) B.out ⟨K0.out, K1.out, K2.out, K3.out, K4.out, K5.out, K6.out, K7.out, trivial⟩ trivial ⟨ld 1 0, ld 2 0, ml 0, pu, pu, trivial⟩ ?_
   clear K0 K1 K2 K3 K4 K5 K6 K7 B
   rintro σ W5 ⟨⟨L8, K8⟩, _⟩ ⟨K0, K1, K2, K3, K4, K5, K6, K7, _⟩ ⟨x0, x1, _⟩ _ B
   have D3_8 : Hid (g1_3 ≠ blkOf (σ 47)) := x0
   have D7_8 : Hid (g4_0 ≠ blkOf (σ 47)) := x1
   clear x0 x1
   simp only [slotsOf, finX, nval, nvalN, nvalA, Nat.reduceBEq, cond_true, cond_false, putAll, Act.put, List.setIfInBounds_toArray, List.set_cons_succ, List.set_cons_zero]
   generalize blkOf (σ 47) = g5_2 at *
   go_wp2
   refine wp_loop_rounds 3 ?_
   rw [rounds_succ]
   go_upto_region 10 with (fail)
   have lt0 := K0.out.lt
   have lt1 := K1.out.lt
   have lt2 := K2.out.lt
   have lt3 := K3.out.lt
   have lt4 := K4.out.lt
   have lt5 := K5.out.lt
   have lt6 := K6.out.lt
   have lt7 := K7.out.lt
   have lt8 := K8.out.lt
   refine wp_tab [.v 51 (.int .i64 0), .v 52 (.pointer (some ⟨g5_2, 0, none⟩)), .v 53 (.agg #[.string C1, .string C2, .string C3, .string D1, .string D2, .string D3]), .n 12, .v 11 (.int .i64 0), .z] [⟨3, 12, fun g => .pointer (some ⟨g, 0, none⟩), #[.string ⟨#[]⟩, .string ⟨#[]⟩, .string ⟨#[]⟩, .string ⟨#[]⟩, .string ⟨#[]⟩, .string ⟨#[]⟩], 45, some (5, #[.string C1, .string C2, .string C3, .string D1, .string D2, .string D3])⟩] [⟨g1_0, #[.string A1, .string A2, .string A3, .string A0], 26, none⟩, ⟨g1_1, #[.string C1, .string C2, .string C3, .string D1, .string D2, .string D3], 45, none⟩, ⟨g1_2, #[.string F1, .string F2, .string F3, .string G1, .string G2, .string G3], 45, none⟩, ⟨g1_3, #[.string ⟨#[]⟩, .string ⟨#[]⟩, .string ⟨#[]⟩], 24, none⟩, ⟨g2_10, #[.string C1, .string C2, .string C3, .string D1, .string D2, .string D3, .string F1, .string F2, .string F3, .string G1, .string G2, .string G3], 24, none⟩, ⟨g2_12, #[.int .i64 e1, .int .i64 e2], 31, none⟩, ⟨g3_6, #[.string A1, .string A2, .string A3, .string D1, .string D2, .string D3, .string G1, .string G2, .string G3], 24, none⟩, ⟨g4_0, #[.string ⟨#[]⟩, .string ⟨#[]⟩, .string ⟨#[]⟩, .string ⟨#[]⟩, .string ⟨#[]⟩, .string ⟨#[]⟩], 111, none⟩, ⟨g5_2, #[.string C1, .string C2, .string C3, .string D1, .string D2, .string D3, .string F1, .string F2, .string F3, .string G1, .string G2, .string G3], 45, none⟩] [] [(5, 3)] [] [(3, 0), (7, 0)] [] (by kernel_rfl) B.out ⟨K0.out, K1.out, K2.out, K3.out, K4.out, K5.out, K6.out, K7.out, K8.out, trivial⟩ trivial ⟨pu, pu, ld 8 0, ml 0, pu, ?_, trivial⟩ ?_
   · intro L a U ho J hn d KK k; refine .free rfl ?_; have r12 : a.tmps[(12 : Nat)]?.getD undef = .pointer (some ⟨(blkOf (slotOf a 12)), 0, none⟩) := J.readN 0 rfl (d.get 3 rfl); have r53 := J.read 2 rfl (d.get 2 rfl); have kb := (J.nwB 0 rfl (d.get 3 rfl) hn).blk; have c0 := kb.at_ 0 _ rfl; have z0 := kb.free 0; have c1 := kb.at_ 1 _ rfl; have z1 := kb.free 1; have c2 := kb.at_ 2 _ rfl; have z2 := kb.free 2; have c3 := kb.at_ 3 _ rfl; have z3 := kb.free 3; have c4 := kb.at_ 4 _ rfl; have z4 := kb.free 4; have c5 := kb.at_ 5 _ rfl; have z5 := kb.free 5; clear kb; go_simp; exact k.out undef _ (J.storedN 5 0 rfl rfl rfl rfl rfl 0 [.string C1, .string C2, .string C3, .string D1, .string D2, .string D3] rfl ⟨lt0, lt1, lt2, lt3, lt4, lt5, lt6, lt7, lt8, trivial⟩ (d.get 3 rfl) hn ⟨.inr (d.get 3 rfl), trivial⟩)
   clear K0 K1 K2 K3 K4 K5 K6 K7 K8 B lt0 lt1 lt2 lt3 lt4 lt5 lt6 lt7 lt8
   rintro σ W6 ⟨⟨L9, K9⟩, _⟩ ⟨K0, K1, K2, K3, K4, K5, K6, K7, K8, _⟩ ⟨x0, x1, _⟩ _ B
   have D3_9 : Hid (g1_3 ≠ blkOf (σ 12)) := x0
   have D7_9 : Hid (g4_0 ≠ blkOf (σ 12)) := x1
   clear x0 x1
   simp only [slotsOf, finX, nval, nvalN, nvalA, Nat.reduceBEq, cond_true, cond_false, putAll, Act.put, List.setIfInBounds_toArray, List.set_cons_succ, List.set_cons_zero]
   generalize blkOf (σ 12) = g6_3 at *
   go_upto_region 11 with (fail)
   refine wp_tab [.v 55 (.pointer (some ⟨g1_0, 3, none⟩)), .v 56 (.string A0), .v 57 (.pointer (some ⟨g1_0, 0, none⟩)), .v 58 (.agg #[.string A1, .string A2, .string A3]), .v 59 (.pointer (some ⟨g6_3, 0, none⟩)), .v 60 (.agg #[.string C1, .string C2, .string C3]), .v 61 (.string Q1), .v 62 (.string Q2), .v 63 (.pointer (some ⟨g1_0, 0, none⟩)), .v 64 (.agg #[.string A1, .string A2, .string A3]), .v 65 (.pointer (some ⟨g6_3, 3, none⟩)), .v 66 (.agg #[.string D1, .string D2, .string D3]), .v 67 (.string Q3), .v 68 (.tuple #[.string T, .int .i64 ed1]), .v 54 (.tuple #[.string T, .int .i64 ed1]), .v 69 (.string T), .v 70 (.int .i64 ed1), .v 13 (.string T), .v 14 (.int .i64 ed1)] [] [⟨g1_0, #[.string A1, .string A2, .string A3, .string A0], 26, none⟩, ⟨g1_1, #[.string C1, .string C2, .string C3, .string D1, .string D2, .string D3], 45, none⟩, ⟨g1_2, #[.string F1, .string F2, .string F3, .string G1, .string G2, .string G3], 45, none⟩, ⟨g1_3, #[.string ⟨#[]⟩, .string ⟨#[]⟩, .string ⟨#[]⟩], 24, none⟩, ⟨g2_10, #[.string C1, .string C2, .string C3, .string D1, .string D2, .string D3, .string F1, .string F2, .string F3, .string G1, .string G2, .string G3], 24, none⟩, ⟨g2_12, #[.int .i64 e1, .int .i64 e2], 31, none⟩, ⟨g3_6, #[.string A1, .string A2, .string A3, .string D1, .string D2, .string D3, .string G1, .string G2, .string G3], 24, none⟩, ⟨g4_0, #[.string ⟨#[]⟩, .string ⟨#[]⟩, .string ⟨#[]⟩, .string ⟨#[]⟩, .string ⟨#[]⟩, .string ⟨#[]⟩], 111, none⟩, ⟨g5_2, #[.string C1, .string C2, .string C3, .string D1, .string D2, .string D3, .string F1, .string F2, .string F3, .string G1, .string G2, .string G3], 45, none⟩, ⟨g6_3, #[.string C1, .string C2, .string C3, .string D1, .string D2, .string D3], 45, none⟩] [] [] [] [] [] (by kernel_rfl) B.out ⟨K0.out, K1.out, K2.out, K3.out, K4.out, K5.out, K6.out, K7.out, K8.out, K9.out, trivial⟩ trivial ⟨pu, ld 0 3, pu, ld 0 0, pu, ld 9 0, cl H_DP1.out, cl H_SU1.out, pu, ld 0 0, pu, ld 9 3, cl H_DA1.out, cl H_DV1.out, pu, pu, pu, pu, pu, trivial⟩ ?_
   clear K0 K1 K2 K3 K4 K5 K6 K7 K8 K9 B
   rintro σ W7 _ ⟨K0, K1, K2, K3, K4, K5, K6, K7, K8, K9, _⟩ _ _ B
   simp only [slotsOf, finX, nval, nvalN, nvalA, Nat.reduceBEq, cond_true, cond_false, putAll, Act.put, List.setIfInBounds_toArray, List.set_cons_succ, List.set_cons_zero]
   go_upto_region 12 with (fail)
   by_cases hed1 : ed1 = 0
   ·
    have qed1 : (ed1 != 0) = false := by simp [hed1]
    have H_SC1 := Lib.hid (h_sc1 ⟨hef, hez, hed1⟩)
    have H_AD1 := Lib.hid (h_ad1 ⟨hef, hez, hed1⟩)
    have H_DP2 := Lib.hid (h_dp2 ⟨hef, hez, hed1⟩)
    have H_SU2 := Lib.hid (h_su2 ⟨hef, hez, hed1⟩)
    have H_DA2 := Lib.hid (h_da2 ⟨hef, hez, hed1⟩)
    have H_DV2 := Lib.hid (h_dv2 ⟨hef, hez, hed1⟩)
    clear h_sc1 h_ad1 h_dp2 h_su2 h_da2 h_dv2
    go_upto_region 14 with (fail)
    have lt0 := K0.out.lt
    have lt1 := K1.out.lt
    have lt2 := K2.out.lt
    have lt3 := K3.out.lt
    have lt4 := K4.out.lt
    have lt5 := K5.out.lt
    have lt6 := K6.out.lt
    have lt7 := K7.out.lt
    have lt8 := K8.out.lt
    have lt9 := K9.out.lt
    refine wp_tab [.v 74 (.int .i64 0), .v 75 (.pointer (some ⟨g6_3, 0, none⟩)), .v 76 (.agg #[.string C1, .string C2, .string C3]), .v 77 (.pointer (some ⟨g6_3, 3, none⟩)), .v 78 (.agg #[.string D1, .string D2, .string D3]), .v 79 (.string T), .v 80 (.agg #[.string R1, .string R2, .string R3]), .v 81 (.agg #[.string Rx1, .string Rx2, .string Rx3]), .v 82 (.pointer (some ⟨g4_0, 0, none⟩)), .z] [] [⟨g1_0, #[.string A1, .string A2, .string A3, .string A0], 26, none⟩, ⟨g1_1, #[.string C1, .string C2, .string C3, .string D1, .string D2, .string D3], 45, none⟩, ⟨g1_2, #[.string F1, .string F2, .string F3, .string G1, .string G2, .string G3], 45, none⟩, ⟨g1_3, #[.string ⟨#[]⟩, .string ⟨#[]⟩, .string ⟨#[]⟩], 24, none⟩, ⟨g2_10, #[.string C1, .string C2, .string C3, .string D1, .string D2, .string D3, .string F1, .string F2, .string F3, .string G1, .string G2, .string G3], 24, none⟩, ⟨g2_12, #[.int .i64 e1, .int .i64 e2], 31, none⟩, ⟨g3_6, #[.string A1, .string A2, .string A3, .string D1, .string D2, .string D3, .string G1, .string G2, .string G3], 24, none⟩, ⟨g4_0, #[.string ⟨#[]⟩, .string ⟨#[]⟩, .string ⟨#[]⟩, .string ⟨#[]⟩, .string ⟨#[]⟩, .string ⟨#[]⟩], 111, some (9, #[.string Rx1, .string Rx2, .string Rx3, .string ⟨#[]⟩, .string ⟨#[]⟩, .string ⟨#[]⟩])⟩, ⟨g5_2, #[.string C1, .string C2, .string C3, .string D1, .string D2, .string D3, .string F1, .string F2, .string F3, .string G1, .string G2, .string G3], 45, none⟩, ⟨g6_3, #[.string C1, .string C2, .string C3, .string D1, .string D2, .string D3], 45, none⟩] [] [] [] [] [] (by kernel_rfl) B.out ⟨K0.out, K1.out, K2.out, K3.out, K4.out, K5.out, K6.out, K7.out, K8.out, K9.out, trivial⟩ trivial ⟨pu, pu, ld 9 0, pu, ld 9 3, pu, cl H_SC1.out, cl H_AD1.out, pu, ?_, trivial⟩ ?_
    · intro L a U ho J hn d KK k; refine .free rfl ?_; have r82 := J.read 8 rfl (d.get 8 rfl); have r81 := J.read 7 rfl (d.get 7 rfl); have kb := (J.eldB 7 rfl hn); have c0 := kb.at_ 0 _ rfl; have z0 := kb.free 0; have c1 := kb.at_ 1 _ rfl; have z1 := kb.free 1; have c2 := kb.at_ 2 _ rfl; have z2 := kb.free 2; clear kb; go_simp; exact k.out undef _ (J.stored 9 7 rfl rfl (.inl rfl) rfl rfl 0 [.string Rx1, .string Rx2, .string Rx3] rfl L7.out lt7 ⟨.inr D0_7.out, .inr D1_7.out, .inr D2_7.out, .inr D3_7.out, .inr D4_7.out, .inr D5_7.out, .inr D6_7.out, .inl rfl, .inr (Ne.symm D7_8.out), .inr (Ne.symm D7_9.out), trivial⟩ hn trivial)
    clear K0 K1 K2 K3 K4 K5 K6 K7 K8 K9 B lt0 lt1 lt2 lt3 lt4 lt5 lt6 lt7 lt8 lt9
    rintro σ W8 _ ⟨K0, K1, K2, K3, K4, K5, K6, K7, K8, K9, _⟩ _ _ B
    simp only [slotsOf, finX, nval, nvalN, nvalA, Nat.reduceBEq, cond_true, cond_false, putAll, Act.put, List.setIfInBounds_toArray, List.set_cons_succ, List.set_cons_zero]
    go_wp2
    rw [rounds_succ]
    go_upto_region 10 with (fail)
    have lt0 := K0.out.lt
    have lt1 := K1.out.lt
    have lt2 := K2.out.lt
    have lt3 := K3.out.lt
    have lt4 := K4.out.lt
    have lt5 := K5.out.lt
    have lt6 := K6.out.lt
    have lt7 := K7.out.lt
    have lt8 := K8.out.lt
    have lt9 := K9.out.lt
    refine wp_tab [.v 51 (.int .i64 1), .v 52 (.pointer (some ⟨g5_2, 6, none⟩)), .v 53 (.agg #[.string F1, .string F2, .string F3, .string G1, .string G2, .string G3]), .n 12, .v 11 (.int .i64 1), .z] [⟨3, 12, fun g => .pointer (some ⟨g, 0, none⟩), #[.string ⟨#[]⟩, .string ⟨#[]⟩, .string ⟨#[]⟩, .string ⟨#[]⟩, .string ⟨#[]⟩, .string ⟨#[]⟩], 45, some (5, #[.string F1, .string F2, .string F3, .string G1, .string G2, .string G3])⟩] [⟨g1_0, #[.string A1, .string A2, .string A3, .string A0], 26, none⟩, ⟨g1_1, #[.string C1, .string C2, .string C3, .string D1, .string D2, .string D3], 45, none⟩, ⟨g1_2, #[.string F1, .string F2, .string F3, .string G1, .string G2, .string G3], 45, none⟩, ⟨g1_3, #[.string ⟨#[]⟩, .string ⟨#[]⟩, .string ⟨#[]⟩], 24, none⟩, ⟨g2_10, #[.string C1, .string C2, .string C3, .string D1, .string D2, .string D3, .string F1, .string F2, .string F3, .string G1, .string G2, .string G3], 24, none⟩, ⟨g2_12, #[.int .i64 e1, .int .i64 e2], 31, none⟩, ⟨g3_6, #[.string A1, .string A2, .string A3, .string D1, .string D2, .string D3, .string G1, .string G2, .string G3], 24, none⟩, ⟨g4_0, #[.string Rx1, .string Rx2, .string Rx3, .string ⟨#[]⟩, .string ⟨#[]⟩, .string ⟨#[]⟩], 111, none⟩, ⟨g5_2, #[.string C1, .string C2, .string C3, .string D1, .string D2, .string D3, .string F1, .string F2, .string F3, .string G1, .string G2, .string G3], 45, none⟩, ⟨g6_3, #[.string C1, .string C2, .string C3, .string D1, .string D2, .string D3], 45, none⟩] [] [(5, 3)] [] [(3, 0), (7, 0)] [] (by kernel_rfl) B.out ⟨K0.out, K1.out, K2.out, K3.out, K4.out, K5.out, K6.out, K7.out, K8.out, K9.out, trivial⟩ trivial ⟨pu, pu, ld 8 6, ml 0, pu, ?_, trivial⟩ ?_
    · intro L a U ho J hn d KK k; refine .free rfl ?_; have r12 : a.tmps[(12 : Nat)]?.getD undef = .pointer (some ⟨(blkOf (slotOf a 12)), 0, none⟩) := J.readN 0 rfl (d.get 3 rfl); have r53 := J.read 2 rfl (d.get 2 rfl); have kb := (J.nwB 0 rfl (d.get 3 rfl) hn).blk; have c0 := kb.at_ 0 _ rfl; have z0 := kb.free 0; have c1 := kb.at_ 1 _ rfl; have z1 := kb.free 1; have c2 := kb.at_ 2 _ rfl; have z2 := kb.free 2; have c3 := kb.at_ 3 _ rfl; have z3 := kb.free 3; have c4 := kb.at_ 4 _ rfl; have z4 := kb.free 4; have c5 := kb.at_ 5 _ rfl; have z5 := kb.free 5; clear kb; go_simp; exact k.out undef _ (J.storedN 5 0 rfl rfl rfl rfl rfl 0 [.string F1, .string F2, .string F3, .string G1, .string G2, .string G3] rfl ⟨lt0, lt1, lt2, lt3, lt4, lt5, lt6, lt7, lt8, lt9, trivial⟩ (d.get 3 rfl) hn ⟨.inr (d.get 3 rfl), trivial⟩)
    clear K0 K1 K2 K3 K4 K5 K6 K7 K8 K9 B lt0 lt1 lt2 lt3 lt4 lt5 lt6 lt7 lt8 lt9
    rintro σ W9 ⟨⟨L10, K10⟩, _⟩ ⟨K0, K1, K2, K3, K4, K5, K6, K7, K8, K9, _⟩ ⟨x0, x1, _⟩ _ B
    have D3_10 : Hid (g1_3 ≠ blkOf (σ 12)) := x0
    have D7_10 : Hid (g4_0 ≠ blkOf (σ 12)) := x1
    clear x0 x1
    simp only [slotsOf, finX, nval, nvalN, nvalA, Nat.reduceBEq, cond_true, cond_false, putAll, Act.put, List.setIfInBounds_toArray, List.set_cons_succ, List.set_cons_zero]
    generalize blkOf (σ 12) = g9_3 at *
    go_upto_region 11 with (fail)
    refine wp_tab [.v 55 (.pointer (some ⟨g1_0, 3, none⟩)), .v 56 (.string A0), .v 57 (.pointer (some ⟨g1_0, 0, none⟩)), .v 58 (.agg #[.string A1, .string A2, .string A3]), .v 59 (.pointer (some ⟨g9_3, 0, none⟩)), .v 60 (.agg #[.string F1, .string F2, .string F3]), .v 61 (.string U1), .v 62 (.string U2), .v 63 (.pointer (some ⟨g1_0, 0, none⟩)), .v 64 (.agg #[.string A1, .string A2, .string A3]), .v 65 (.pointer (some ⟨g9_3, 3, none⟩)), .v 66 (.agg #[.string G1, .string G2, .string G3]), .v 67 (.string U3), .v 68 (.tuple #[.string X, .int .i64 ed2]), .v 54 (.tuple #[.string X, .int .i64 ed2]), .v 69 (.string X), .v 70 (.int .i64 ed2), .v 13 (.string X), .v 14 (.int .i64 ed2)] [] [⟨g1_0, #[.string A1, .string A2, .string A3, .string A0], 26, none⟩, ⟨g1_1, #[.string C1, .string C2, .string C3, .string D1, .string D2, .string D3], 45, none⟩, ⟨g1_2, #[.string F1, .string F2, .string F3, .string G1, .string G2, .string G3], 45, none⟩, ⟨g1_3, #[.string ⟨#[]⟩, .string ⟨#[]⟩, .string ⟨#[]⟩], 24, none⟩, ⟨g2_10, #[.string C1, .string C2, .string C3, .string D1, .string D2, .string D3, .string F1, .string F2, .string F3, .string G1, .string G2, .string G3], 24, none⟩, ⟨g2_12, #[.int .i64 e1, .int .i64 e2], 31, none⟩, ⟨g3_6, #[.string A1, .string A2, .string A3, .string D1, .string D2, .string D3, .string G1, .string G2, .string G3], 24, none⟩, ⟨g4_0, #[.string Rx1, .string Rx2, .string Rx3, .string ⟨#[]⟩, .string ⟨#[]⟩, .string ⟨#[]⟩], 111, none⟩, ⟨g5_2, #[.string C1, .string C2, .string C3, .string D1, .string D2, .string D3, .string F1, .string F2, .string F3, .string G1, .string G2, .string G3], 45, none⟩, ⟨g6_3, #[.string C1, .string C2, .string C3, .string D1, .string D2, .string D3], 45, none⟩, ⟨g9_3, #[.string F1, .string F2, .string F3, .string G1, .string G2, .string G3], 45, none⟩] [] [] [] [] [] (by kernel_rfl) B.out ⟨K0.out, K1.out, K2.out, K3.out, K4.out, K5.out, K6.out, K7.out, K8.out, K9.out, K10.out, trivial⟩ trivial ⟨pu, ld 0 3, pu, ld 0 0, pu, ld 10 0, cl H_DP2.out, cl H_SU2.out, pu, ld 0 0, pu, ld 10 3, cl H_DA2.out, cl H_DV2.out, pu, pu, pu, pu, pu, trivial⟩ ?_
    clear K0 K1 K2 K3 K4 K5 K6 K7 K8 K9 K10 B
    rintro σ W10 _ ⟨K0, K1, K2, K3, K4, K5, K6, K7, K8, K9, K10, _⟩ _ _ B
    simp only [slotsOf, finX, nval, nvalN, nvalA, Nat.reduceBEq, cond_true, cond_false, putAll, Act.put, List.setIfInBounds_toArray, List.set_cons_succ, List.set_cons_zero]
    go_upto_region 12 with (fail)
    by_cases hed2 : ed2 = 0
    ·
     have qed2 : (ed2 != 0) = false := by simp [hed2]
     have H_SC2 := Lib.hid (h_sc2 ⟨hef, hez, hed1, hed2⟩)
     have H_AD2 := Lib.hid (h_ad2 ⟨hef, hez, hed1, hed2⟩)
     have H_SM := Lib.hid (h_sm ⟨hef, hez, hed1, hed2⟩)
     have H_AM := Lib.hid (h_am ⟨hef, hez, hed1, hed2⟩)
     have H_SV := Lib.hid (h_sv ⟨hef, hez, hed1, hed2⟩)
     clear h_sc2 h_ad2 h_sm h_am h_sv
     go_upto_region 14 with (fail)
     have lt0 := K0.out.lt
     have lt1 := K1.out.lt
     have lt2 := K2.out.lt
     have lt3 := K3.out.lt
     have lt4 := K4.out.lt
     have lt5 := K5.out.lt
     have lt6 := K6.out.lt
     have lt7 := K7.out.lt
     have lt8 := K8.out.lt
     have lt9 := K9.out.lt
     have lt10 := K10.out.lt
     refine wp_tab [.v 74 (.int .i64 1), .v 75 (.pointer (some ⟨g9_3, 0, none⟩)), .v 76 (.agg #[.string F1, .string F2, .string F3]), .v 77 (.pointer (some ⟨g9_3, 3, none⟩)), .v 78 (.agg #[.string G1, .string G2, .string G3]), .v 79 (.string X), .v 80 (.agg #[.string Y1, .string Y2, .string Y3]), .v 81 (.agg #[.string Yx1, .string Yx2, .string Yx3]), .v 82 (.pointer (some ⟨g4_0, 3, none⟩)), .z] [] [⟨g1_0, #[.string A1, .string A2, .string A3, .string A0], 26, none⟩, ⟨g1_1, #[.string C1, .string C2, .string C3, .string D1, .string D2, .string D3], 45, none⟩, ⟨g1_2, #[.string F1, .string F2, .string F3, .string G1, .string G2, .string G3], 45, none⟩, ⟨g1_3, #[.string ⟨#[]⟩, .string ⟨#[]⟩, .string ⟨#[]⟩], 24, none⟩, ⟨g2_10, #[.string C1, .string C2, .string C3, .string D1, .string D2, .string D3, .string F1, .string F2, .string F3, .string G1, .string G2, .string G3], 24, none⟩, ⟨g2_12, #[.int .i64 e1, .int .i64 e2], 31, none⟩, ⟨g3_6, #[.string A1, .string A2, .string A3, .string D1, .string D2, .string D3, .string G1, .string G2, .string G3], 24, none⟩, ⟨g4_0, #[.string Rx1, .string Rx2, .string Rx3, .string ⟨#[]⟩, .string ⟨#[]⟩, .string ⟨#[]⟩], 111, some (9, #[.string Rx1, .string Rx2, .string Rx3, .string Yx1, .string Yx2, .string Yx3])⟩, ⟨g5_2, #[.string C1, .string C2, .string C3, .string D1, .string D2, .string D3, .string F1, .string F2, .string F3, .string G1, .string G2, .string G3], 45, none⟩, ⟨g6_3, #[.string C1, .string C2, .string C3, .string D1, .string D2, .string D3], 45, none⟩, ⟨g9_3, #[.string F1, .string F2, .string F3, .string G1, .string G2, .string G3], 45, none⟩] [] [] [] [] [] (by kernel_rfl) B.out ⟨K0.out, K1.out, K2.out, K3.out, K4.out, K5.out, K6.out, K7.out, K8.out, K9.out, K10.out, trivial⟩ trivial ⟨pu, pu, ld 10 0, pu, ld 10 3, pu, cl H_SC2.out, cl H_AD2.out, pu, ?_, trivial⟩ ?_
     · intro L a U ho J hn d KK k; refine .free rfl ?_; have r82 := J.read 8 rfl (d.get 8 rfl); have r81 := J.read 7 rfl (d.get 7 rfl); have kb := (J.eldB 7 rfl hn); have c3 := kb.at_ 3 _ rfl; have z3 := kb.free 3; have c4 := kb.at_ 4 _ rfl; have z4 := kb.free 4; have c5 := kb.at_ 5 _ rfl; have z5 := kb.free 5; clear kb; go_simp; exact k.out undef _ (J.stored 9 7 rfl rfl (.inl rfl) rfl rfl 3 [.string Yx1, .string Yx2, .string Yx3] rfl L7.out lt7 ⟨.inr D0_7.out, .inr D1_7.out, .inr D2_7.out, .inr D3_7.out, .inr D4_7.out, .inr D5_7.out, .inr D6_7.out, .inl rfl, .inr (Ne.symm D7_8.out), .inr (Ne.symm D7_9.out), .inr (Ne.symm D7_10.out), trivial⟩ hn trivial)
     clear K0 K1 K2 K3 K4 K5 K6 K7 K8 K9 K10 B lt0 lt1 lt2 lt3 lt4 lt5 lt6 lt7 lt8 lt9 lt10
     rintro σ W11 _ ⟨K0, K1, K2, K3, K4, K5, K6, K7, K8, K9, K10, _⟩ _ _ B
     simp only [slotsOf, finX, nval, nvalN, nvalA, Nat.reduceBEq, cond_true, cond_false, putAll, Act.put, List.setIfInBounds_toArray, List.set_cons_succ, List.set_cons_zero]
     go_wp2
     rw [rounds_succ]
     go_upto_region 16 with (fail)
     have lt0 := K0.out.lt
     have lt1 := K1.out.lt
     have lt2 := K2.out.lt
     have lt3 := K3.out.lt
     have lt4 := K4.out.lt
     have lt5 := K5.out.lt
     have lt6 := K6.out.lt
     have lt7 := K7.out.lt
     have lt8 := K8.out.lt
     have lt9 := K9.out.lt
     have lt10 := K10.out.lt
     refine wp_tab [.v 84 (.pointer (some ⟨g4_0, 3, none⟩)), .v 85 (.agg #[.string Yx1, .string Yx2, .string Yx3]), .v 86 (.pointer (some ⟨g4_0, 0, none⟩)), .v 87 (.agg #[.string Rx1, .string Rx2, .string Rx3]), .v 88 (.agg #[.string M1, .string M2, .string M3]), .v 89 (.agg #[.string O1, .string O2, .string O3]), .v 90 (.tuple #[.agg #[.string O1, .string O2, .string O3], .int .i64 0]), .v 91 (.agg #[.string O1, .string O2, .string O3]), .v 92 (.int .i64 0), .z, .v 7 (.int .i64 0)] [] [⟨g1_0, #[.string A1, .string A2, .string A3, .string A0], 26, none⟩, ⟨g1_1, #[.string C1, .string C2, .string C3, .string D1, .string D2, .string D3], 45, none⟩, ⟨g1_2, #[.string F1, .string F2, .string F3, .string G1, .string G2, .string G3], 45, none⟩, ⟨g1_3, #[.string ⟨#[]⟩, .string ⟨#[]⟩, .string ⟨#[]⟩], 24, some (9, #[.string O1, .string O2, .string O3])⟩, ⟨g2_10, #[.string C1, .string C2, .string C3, .string D1, .string D2, .string D3, .string F1, .string F2, .string F3, .string G1, .string G2, .string G3], 24, none⟩, ⟨g2_12, #[.int .i64 e1, .int .i64 e2], 31, none⟩, ⟨g3_6, #[.string A1, .string A2, .string A3, .string D1, .string D2, .string D3, .string G1, .string G2, .string G3], 24, none⟩, ⟨g4_0, #[.string Rx1, .string Rx2, .string Rx3, .string Yx1, .string Yx2, .string Yx3], 111, none⟩, ⟨g5_2, #[.string C1, .string C2, .string C3, .string D1, .string D2, .string D3, .string F1, .string F2, .string F3, .string G1, .string G2, .string G3], 45, none⟩, ⟨g6_3, #[.string C1, .string C2, .string C3, .string D1, .string D2, .string D3], 45, none⟩, ⟨g9_3, #[.string F1, .string F2, .string F3, .string G1, .string G2, .string G3], 45, none⟩] [] [] [] [] [] (by kernel_rfl) B.out ⟨K0.out, K1.out, K2.out, K3.out, K4.out, K5.out, K6.out, K7.out, K8.out, K9.out, K10.out, trivial⟩ trivial ⟨pu, ld 7 3, pu, ld 7 0, cl H_SM.out, cl H_AM.out, cl H_SV.out, pu, pu, ?_, pu, trivial⟩ ?_
     · intro L a U ho J hn d KK k; refine .free rfl ?_; have r6 : a.tmps[(6 : Nat)]?.getD undef = .pointer (some ⟨g1_3, 0, none⟩) := ho.slot 6 rfl; have r91 := J.read 7 rfl (d.get 7 rfl); have kb := (J.eldB 3 rfl hn); have c0 := kb.at_ 0 _ rfl; have z0 := kb.free 0; have c1 := kb.at_ 1 _ rfl; have z1 := kb.free 1; have c2 := kb.at_ 2 _ rfl; have z2 := kb.free 2; clear kb; go_simp; exact k.out undef _ (J.stored 9 3 rfl rfl (.inl rfl) rfl rfl 0 [.string O1, .string O2, .string O3] rfl L3.out lt3 ⟨.inr D0_3.out, .inr D1_3.out, .inr D2_3.out, .inl rfl, .inr (Ne.symm D3_4.out), .inr (Ne.symm D3_5.out), .inr (Ne.symm D3_6.out), .inr (Ne.symm D3_7.out), .inr (Ne.symm D3_8.out), .inr (Ne.symm D3_9.out), .inr (Ne.symm D3_10.out), trivial⟩ hn trivial)
     clear K0 K1 K2 K3 K4 K5 K6 K7 K8 K9 K10 B lt0 lt1 lt2 lt3 lt4 lt5 lt6 lt7 lt8 lt9 lt10
     rintro σ W12 _ ⟨K0, K1, K2, K3, K4, K5, K6, K7, K8, K9, K10, _⟩ _ _ B
     simp only [slotsOf, finX, nval, nvalN, nvalA, Nat.reduceBEq, cond_true, cond_false, putAll, Act.put, List.setIfInBounds_toArray, List.set_cons_succ, List.set_cons_zero]
     go_wp2
     have c3_0 := K3.out.at_ 0 _ rfl
     have c3_1 := K3.out.at_ 1 _ rfl
     have c3_2 := K3.out.at_ 2 _ rfl
     exact bodyPost_ret (v := .tuple #[.agg #[.string O1, .string O2, .string O3], .int .i64 0]) (by simp [results, Tryz.results21, go_sem, c3_0, c3_1, c3_2]) rfl ⟨by first | rfl | (rw [r5 hef hez hed1 hed2] <;> rfl), B.out⟩
    ·
     have qed2 : (ed2 != 0) = true := by simp [hed2]
     go_upto_region 13 with (fail)
     have lt0 := K0.out.lt
     have lt1 := K1.out.lt
     have lt2 := K2.out.lt
     have lt3 := K3.out.lt
     have lt4 := K4.out.lt
     have lt5 := K5.out.lt
     have lt6 := K6.out.lt
     have lt7 := K7.out.lt
     have lt8 := K8.out.lt
     have lt9 := K9.out.lt
     have lt10 := K10.out.lt
     refine wp_tab [.v 73 (.agg #[.string ⟨#[]⟩, .string ⟨#[]⟩, .string ⟨#[]⟩]), .z, .v 7 (.int .i64 18)] [] [⟨g1_0, #[.string A1, .string A2, .string A3, .string A0], 26, none⟩, ⟨g1_1, #[.string C1, .string C2, .string C3, .string D1, .string D2, .string D3], 45, none⟩, ⟨g1_2, #[.string F1, .string F2, .string F3, .string G1, .string G2, .string G3], 45, none⟩, ⟨g1_3, #[.string ⟨#[]⟩, .string ⟨#[]⟩, .string ⟨#[]⟩], 24, none⟩, ⟨g2_10, #[.string C1, .string C2, .string C3, .string D1, .string D2, .string D3, .string F1, .string F2, .string F3, .string G1, .string G2, .string G3], 24, none⟩, ⟨g2_12, #[.int .i64 e1, .int .i64 e2], 31, none⟩, ⟨g3_6, #[.string A1, .string A2, .string A3, .string D1, .string D2, .string D3, .string G1, .string G2, .string G3], 24, none⟩, ⟨g4_0, #[.string Rx1, .string Rx2, .string Rx3, .string ⟨#[]⟩, .string ⟨#[]⟩, .string ⟨#[]⟩], 111, none⟩, ⟨g5_2, #[.string C1, .string C2, .string C3, .string D1, .string D2, .string D3, .string F1, .string F2, .string F3, .string G1, .string G2, .string G3], 45, none⟩, ⟨g6_3, #[.string C1, .string C2, .string C3, .string D1, .string D2, .string D3], 45, none⟩, ⟨g9_3, #[.string F1, .string F2, .string F3, .string G1, .string G2, .string G3], 45, none⟩] [] [] [] [] [] (by kernel_rfl) B.out ⟨K0.out, K1.out, K2.out, K3.out, K4.out, K5.out, K6.out, K7.out, K8.out, K9.out, K10.out, trivial⟩ trivial ⟨pu, ?_, pu, trivial⟩ ?_
     · intro L a U ho J hn d KK k; refine .free rfl ?_; have r6 : a.tmps[(6 : Nat)]?.getD undef = .pointer (some ⟨g1_3, 0, none⟩) := ho.slot 6 rfl; have r73 := J.read 0 rfl (d.get 0 rfl); have kb := (J.eld 3 rfl); have c0 := kb.at_ 0 _ rfl; have z0 := kb.free 0; have c1 := kb.at_ 1 _ rfl; have z1 := kb.free 1; have c2 := kb.at_ 2 _ rfl; have z2 := kb.free 2; clear kb; go_simp; exact k.out undef _ (J.stored 1 3 rfl rfl (.inr ⟨rfl, rfl⟩) rfl rfl 0 [.string ⟨#[]⟩, .string ⟨#[]⟩, .string ⟨#[]⟩] rfl L3.out lt3 ⟨.inr D0_3.out, .inr D1_3.out, .inr D2_3.out, .inl rfl, .inr (Ne.symm D3_4.out), .inr (Ne.symm D3_5.out), .inr (Ne.symm D3_6.out), .inr (Ne.symm D3_7.out), .inr (Ne.symm D3_8.out), .inr (Ne.symm D3_9.out), .inr (Ne.symm D3_10.out), trivial⟩ hn trivial)
     clear K0 K1 K2 K3 K4 K5 K6 K7 K8 K9 K10 B lt0 lt1 lt2 lt3 lt4 lt5 lt6 lt7 lt8 lt9 lt10
     rintro σ W11 _ ⟨K0, K1, K2, K3, K4, K5, K6, K7, K8, K9, K10, _⟩ _ _ B
     simp only [slotsOf, finX, nval, nvalN, nvalA, Nat.reduceBEq, cond_true, cond_false, putAll, Act.put, List.setIfInBounds_toArray, List.set_cons_succ, List.set_cons_zero]
     go_wp2
     have c3_0 := K3.out.at_ 0 _ rfl
     have c3_1 := K3.out.at_ 1 _ rfl
     have c3_2 := K3.out.at_ 2 _ rfl
     exact bodyPost_ret (v := .tuple #[.agg #[.string ⟨#[]⟩, .string ⟨#[]⟩, .string ⟨#[]⟩], .int .i64 18]) (by simp [results, Tryz.results21, go_sem, c3_0, c3_1, c3_2]) rfl ⟨by first | rfl | (rw [r4 hef hez hed1 hed2] <;> rfl), B.out⟩
   ·
    have qed1 : (ed1 != 0) = true := by simp [hed1]
    go_upto_region 13 with (fail)
    have lt0 := K0.out.lt
    have lt1 := K1.out.lt
    have lt2 := K2.out.lt
    have lt3 := K3.out.lt
    have lt4 := K4.out.lt
    have lt5 := K5.out.lt
    have lt6 := K6.out.lt
    have lt7 := K7.out.lt
    have lt8 := K8.out.lt
    have lt9 := K9.out.lt
    refine wp_tab [.v 73 (.agg #[.string ⟨#[]⟩, .string ⟨#[]⟩, .string ⟨#[]⟩]), .z, .v 7 (.int .i64 18)] [] [⟨g1_0, #[.string A1, .string A2, .string A3, .string A0], 26, none⟩, ⟨g1_1, #[.string C1, .string C2, .string C3, .string D1, .string D2, .string D3], 45, none⟩, ⟨g1_2, #[.string F1, .string F2, .string F3, .string G1, .string G2, .string G3], 45, none⟩, ⟨g1_3, #[.string ⟨#[]⟩, .string ⟨#[]⟩, .string ⟨#[]⟩], 24, none⟩, ⟨g2_10, #[.string C1, .string C2, .string C3, .string D1, .string D2, .string D3, .string F1, .string F2, .string F3, .string G1, .string G2, .string G3], 24, none⟩, ⟨g2_12, #[.int .i64 e1, .int .i64 e2], 31, none⟩, ⟨g3_6, #[.string A1, .string A2, .string A3, .string D1, .string D2, .string D3, .string G1, .string G2, .string G3], 24, none⟩, ⟨g4_0, #[.string ⟨#[]⟩, .string ⟨#[]⟩, .string ⟨#[]⟩, .string ⟨#[]⟩, .string ⟨#[]⟩, .string ⟨#[]⟩], 111, none⟩, ⟨g5_2, #[.string C1, .string C2, .string C3, .string D1, .string D2, .string D3, .string F1, .string F2, .string F3, .string G1, .string G2, .string G3], 45, none⟩, ⟨g6_3, #[.string C1, .string C2, .string C3, .string D1, .string D2, .string D3], 45, none⟩] [] [] [] [] [] (by kernel_rfl) B.out ⟨K0.out, K1.out, K2.out, K3.out, K4.out, K5.out, K6.out, K7.out, K8.out, K9.out, trivial⟩ trivial ⟨pu, ?_, pu, trivial⟩ ?_
    · intro L a U ho J hn d KK k; refine .free rfl ?_; have r6 : a.tmps[(6 : Nat)]?.getD undef = .pointer (some ⟨g1_3, 0, none⟩) := ho.slot 6 rfl; have r73 := J.read 0 rfl (d.get 0 rfl); have kb := (J.eld 3 rfl); have c0 := kb.at_ 0 _ rfl; have z0 := kb.free 0; have c1 := kb.at_ 1 _ rfl; have z1 := kb.free 1; have c2 := kb.at_ 2 _ rfl; have z2 := kb.free 2; clear kb; go_simp; exact k.out undef _ (J.stored 1 3 rfl rfl (.inr ⟨rfl, rfl⟩) rfl rfl 0 [.string ⟨#[]⟩, .string ⟨#[]⟩, .string ⟨#[]⟩] rfl L3.out lt3 ⟨.inr D0_3.out, .inr D1_3.out, .inr D2_3.out, .inl rfl, .inr (Ne.symm D3_4.out), .inr (Ne.symm D3_5.out), .inr (Ne.symm D3_6.out), .inr (Ne.symm D3_7.out), .inr (Ne.symm D3_8.out), .inr (Ne.symm D3_9.out), trivial⟩ hn trivial)
    clear K0 K1 K2 K3 K4 K5 K6 K7 K8 K9 B lt0 lt1 lt2 lt3 lt4 lt5 lt6 lt7 lt8 lt9
    rintro σ W8 _ ⟨K0, K1, K2, K3, K4, K5, K6, K7, K8, K9, _⟩ _ _ B
    simp only [slotsOf, finX, nval, nvalN, nvalA, Nat.reduceBEq, cond_true, cond_false, putAll, Act.put, List.setIfInBounds_toArray, List.set_cons_succ, List.set_cons_zero]
    go_wp2
    have c3_0 := K3.out.at_ 0 _ rfl
    have c3_1 := K3.out.at_ 1 _ rfl
    have c3_2 := K3.out.at_ 2 _ rfl
    exact bodyPost_ret (v := .tuple #[.agg #[.string ⟨#[]⟩, .string ⟨#[]⟩, .string ⟨#[]⟩], .int .i64 18]) (by simp [results, Tryz.results21, go_sem, c3_0, c3_1, c3_2]) rfl ⟨by first | rfl | (rw [r3 hef hez hed1] <;> rfl), B.out⟩
  ·
   have qez : (ez != 0) = true := by simp [hez]
   go_upto_region 6 with (fail)
   have lt0 := K0.out.lt
   have lt1 := K1.out.lt
   have lt2 := K2.out.lt
   have lt3 := K3.out.lt
   have lt4 := K4.out.lt
   have lt5 := K5.out.lt
   have lt6 := K6.out.lt
   refine wp_tab [.v 43 (.agg #[.string ⟨#[]⟩, .string ⟨#[]⟩, .string ⟨#[]⟩]), .v 44 (.int .i64 ez), .z, .v 7 (.int .i64 ez)] [] [⟨g1_0, #[.string A1, .string A2, .string A3, .string A0], 26, none⟩, ⟨g1_1, #[.string C1, .string C2, .string C3, .string D1, .string D2, .string D3], 45, none⟩, ⟨g1_2, #[.string F1, .string F2, .string F3, .string G1, .string G2, .string G3], 45, none⟩, ⟨g1_3, #[.string ⟨#[]⟩, .string ⟨#[]⟩, .string ⟨#[]⟩], 24, none⟩, ⟨g2_10, #[.string C1, .string C2, .string C3, .string D1, .string D2, .string D3, .string F1, .string F2, .string F3, .string G1, .string G2, .string G3], 24, none⟩, ⟨g2_12, #[.int .i64 e1, .int .i64 e2], 31, none⟩, ⟨g3_6, #[.string A1, .string A2, .string A3, .string D1, .string D2, .string D3, .string G1, .string G2, .string G3], 24, none⟩] [] [] [] [] [] (by kernel_rfl) B.out ⟨K0.out, K1.out, K2.out, K3.out, K4.out, K5.out, K6.out, trivial⟩ trivial ⟨pu, pu, ?_, pu, trivial⟩ ?_
   · intro L a U ho J hn d KK k; refine .free rfl ?_; have r6 : a.tmps[(6 : Nat)]?.getD undef = .pointer (some ⟨g1_3, 0, none⟩) := ho.slot 6 rfl; have r43 := J.read 0 rfl (d.get 0 rfl); have kb := (J.eld 3 rfl); have c0 := kb.at_ 0 _ rfl; have z0 := kb.free 0; have c1 := kb.at_ 1 _ rfl; have z1 := kb.free 1; have c2 := kb.at_ 2 _ rfl; have z2 := kb.free 2; clear kb; go_simp; exact k.out undef _ (J.stored 2 3 rfl rfl (.inr ⟨rfl, rfl⟩) rfl rfl 0 [.string ⟨#[]⟩, .string ⟨#[]⟩, .string ⟨#[]⟩] rfl L3.out lt3 ⟨.inr D0_3.out, .inr D1_3.out, .inr D2_3.out, .inl rfl, .inr (Ne.symm D3_4.out), .inr (Ne.symm D3_5.out), .inr (Ne.symm D3_6.out), trivial⟩ hn trivial)
   clear K0 K1 K2 K3 K4 K5 K6 B lt0 lt1 lt2 lt3 lt4 lt5 lt6
   rintro σ W4 _ ⟨K0, K1, K2, K3, K4, K5, K6, _⟩ _ _ B
   simp only [slotsOf, finX, nval, nvalN, nvalA, Nat.reduceBEq, cond_true, cond_false, putAll, Act.put, List.setIfInBounds_toArray, List.set_cons_succ, List.set_cons_zero]
   go_wp2
   have c3_0 := K3.out.at_ 0 _ rfl
   have c3_1 := K3.out.at_ 1 _ rfl
   have c3_2 := K3.out.at_ 2 _ rfl
   exact bodyPost_ret (v := .tuple #[.agg #[.string ⟨#[]⟩, .string ⟨#[]⟩, .string ⟨#[]⟩], .int .i64 ez]) (by simp [results, Tryz.results21, go_sem, c3_0, c3_1, c3_2]) rfl ⟨by first | rfl | (rw [r2 hef hez] <;> rfl), B.out⟩
 ·
  have qef : (ef != 0) = true := by simp [hef]
  go_upto_region 3 with (fail)
  have lt0 := K0.out.lt
  have lt1 := K1.out.lt
  have lt2 := K2.out.lt
  have lt3 := K3.out.lt
  have lt4 := K4.out.lt
  have lt5 := K5.out.lt
  refine wp_tab [.v 31 (.agg #[.string ⟨#[]⟩, .string ⟨#[]⟩, .string ⟨#[]⟩]), .v 32 (.int .i64 ef), .z, .v 7 (.int .i64 ef)] [] [⟨g1_0, #[.string A1, .string A2, .string A3, .string A0], 26, none⟩, ⟨g1_1, #[.string C1, .string C2, .string C3, .string D1, .string D2, .string D3], 45, none⟩, ⟨g1_2, #[.string F1, .string F2, .string F3, .string G1, .string G2, .string G3], 45, none⟩, ⟨g1_3, #[.string ⟨#[]⟩, .string ⟨#[]⟩, .string ⟨#[]⟩], 24, none⟩, ⟨g2_10, #[.string C1, .string C2, .string C3, .string D1, .string D2, .string D3, .string F1, .string F2, .string F3, .string G1, .string G2, .string G3], 24, none⟩, ⟨g2_12, #[.int .i64 e1, .int .i64 e2], 31, none⟩] [] [] [] [] [] (by kernel_rfl) B.out ⟨K0.out, K1.out, K2.out, K3.out, K4.out, K5.out, trivial⟩ trivial ⟨pu, pu, ?_, pu, trivial⟩ ?_
  · intro L a U ho J hn d KK k; refine .free rfl ?_; have r6 : a.tmps[(6 : Nat)]?.getD undef = .pointer (some ⟨g1_3, 0, none⟩) := ho.slot 6 rfl; have r31 := J.read 0 rfl (d.get 0 rfl); have kb := (J.eld 3 rfl); have c0 := kb.at_ 0 _ rfl; have z0 := kb.free 0; have c1 := kb.at_ 1 _ rfl; have z1 := kb.free 1; have c2 := kb.at_ 2 _ rfl; have z2 := kb.free 2; clear kb; go_simp; exact k.out undef _ (J.stored 2 3 rfl rfl (.inr ⟨rfl, rfl⟩) rfl rfl 0 [.string ⟨#[]⟩, .string ⟨#[]⟩, .string ⟨#[]⟩] rfl L3.out lt3 ⟨.inr D0_3.out, .inr D1_3.out, .inr D2_3.out, .inl rfl, .inr (Ne.symm D3_4.out), .inr (Ne.symm D3_5.out), trivial⟩ hn trivial)
  clear K0 K1 K2 K3 K4 K5 B lt0 lt1 lt2 lt3 lt4 lt5
  rintro σ W3 _ ⟨K0, K1, K2, K3, K4, K5, _⟩ _ _ B
  simp only [slotsOf, finX, nval, nvalN, nvalA, Nat.reduceBEq, cond_true, cond_false, putAll, Act.put, List.setIfInBounds_toArray, List.set_cons_succ, List.set_cons_zero]
  go_wp2
  have c3_0 := K3.out.at_ 0 _ rfl
  have c3_1 := K3.out.at_ 1 _ rfl
  have c3_2 := K3.out.at_ 2 _ rfl
  exact bodyPost_ret (v := .tuple #[.agg #[.string ⟨#[]⟩, .string ⟨#[]⟩, .string ⟨#[]⟩], .int .i64 ef]) (by simp [results, Tryz.results21, go_sem, c3_0, c3_1, c3_2]) rfl ⟨by first | rfl | (rw [r1 hef] <;> rfl), B.out⟩

end Go.Proofs.YtopilnlniidejaaGreatDoor
