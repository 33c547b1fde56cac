/- The walks of package slip, over texts: Cutoffs. -/
import Derived.Test.YtopilnlniidejaaGreatDoorShelf
import Derived.Test.YtopilnlniidejaaGreatDoorGPar
import Derived.Deep.RegionHeld3
import Derived.Laws.ResultCell
import Derived.Deep.Cut
import Derived.Deep.CutRange
import Derived.Deep.DeepCutAuto
import Derived.Outline
namespace Go.Proofs.YtopilnlniidejaaGreatDoor
set_option linter.all false
open Go.RowKit

set_option maxRecDepth 100000 in
set_option maxHeartbeats 8000000 in
theorem scut_of {A1 A2 A3 A0 S1 S2 S3 C1 C2 C3 C0 D1 D2 D3 D0 P Q O1 O2 O3 I1 I2 I3 : ByteArray} {e1 e2 e3 e4 e5 e6 ef ez : Int} {ok : Bool} {res : Value} (w : World)
  (r1 : ¬ ef = 0 → res = .tuple #[.agg #[.string ⟨#[]⟩, .string ⟨#[]⟩, .string ⟨#[]⟩], .agg #[.string ⟨#[]⟩, .string ⟨#[]⟩, .string ⟨#[]⟩], .int .i64 ef])
  (r2 : ef = 0 → ¬ ez = 0 → res = .tuple #[.agg #[.string ⟨#[]⟩, .string ⟨#[]⟩, .string ⟨#[]⟩], .agg #[.string ⟨#[]⟩, .string ⟨#[]⟩, .string ⟨#[]⟩], .int .i64 ez])
  (r3 : ef = 0 → ez = 0 → ¬ ok = true → res = .tuple #[.agg #[.string ⟨#[]⟩, .string ⟨#[]⟩, .string ⟨#[]⟩], .agg #[.string ⟨#[]⟩, .string ⟨#[]⟩, .string ⟨#[]⟩], .int .i64 18])
  (r4 : ef = 0 → ez = 0 → ok = true → res = .tuple #[.agg #[.string O1, .string O2, .string O3], .agg #[.string I1, .string I2, .string I3], .int .i64 0])
  (h_p1 : Ret Tryz.prog w 50 #[.agg #[.string A1, .string A2, .string A3, .string A0]] (.int .i64 e1))
  (h_v1 : ∀ (W : World) (b0 : Nat), Blk W b0 #[.string S1, .string S2, .string S3] 24 → Below w.heap.size w W → Calls Tryz.prog 62 #[.slice (some ⟨b0, 0, none⟩) 1 1] W fun e w' => e = .returned (.int .i64 e2) ∧ Below W.heap.size W w')
  (h_p2 : Ret Tryz.prog w 50 #[.agg #[.string C1, .string C2, .string C3, .string C0]] (.int .i64 e3))
  (h_p3 : Ret Tryz.prog w 50 #[.agg #[.string D1, .string D2, .string D3, .string D0]] (.int .i64 e4))
  (h_f1 : ∀ (W : World) (b0 : Nat), Blk W b0 #[.int .i64 e1, .int .i64 e2, .int .i64 e3, .int .i64 e4] 31 → Below w.heap.size w W → Calls Tryz.prog 49 #[.slice (some ⟨b0, 0, none⟩) 4 4] W fun e w' => e = .returned (.int .i64 ef) ∧ Below W.heap.size W w')
  (h_z1 : ef = 0 → ∀ (W : World) (b0 : Nat), Blk W b0 #[.string A1, .string A2, .string A3, .string C1, .string C2, .string C3, .string D1, .string D2, .string D3] 24 → Below w.heap.size w W → Calls Tryz.prog 52 #[.slice (some ⟨b0, 0, none⟩) 3 3] W fun e w' => e = .returned (.int .i64 e5) ∧ Below W.heap.size W w')
  (h_m1 : ef = 0 → Ret Tryz.prog w 75 #[.agg #[.string A1, .string A2, .string A3, .string A0, .string S1, .string S2, .string S3]] (.int .i64 e6))
  (h_f2 : ef = 0 → ∀ (W : World) (b0 : Nat), Blk W b0 #[.int .i64 e5, .int .i64 e6] 31 → Below w.heap.size w W → Calls Tryz.prog 49 #[.slice (some ⟨b0, 0, none⟩) 2 2] W fun e w' => e = .returned (.int .i64 ez) ∧ Below W.heap.size W w')
  (h_mt : ef = 0 ∧ ez = 0 ∧ ok = true → Ret Tryz.prog w 54 #[.agg #[.string A1, .string A2, .string A3, .string C1, .string C2, .string C3, .string D1, .string D2, .string D3], .agg #[.string A0, .string C0, .string D0]] (.tuple #[.agg #[.string O1, .string O2, .string O3], .bool true]))
  (h_mf : ef = 0 ∧ ez = 0 ∧ ¬ ok = true → Ret Tryz.prog w 54 #[.agg #[.string A1, .string A2, .string A3, .string C1, .string C2, .string C3, .string D1, .string D2, .string D3], .agg #[.string A0, .string C0, .string D0]] (.tuple #[.agg #[.string ⟨#[]⟩, .string ⟨#[]⟩, .string ⟨#[]⟩], .bool false]))
  (h_d1 : ef = 0 ∧ ez = 0 ∧ ok = true → Ret Tryz.prog w 64 #[.agg #[.string C1, .string C2, .string C3], .agg #[.string S1, .string S2, .string S3]] (.string P))
  (h_ad : ef = 0 ∧ ez = 0 ∧ ok = true → Ret Tryz.prog w 81 #[.string C0, .string P] (.string Q))
  (h_mu : ef = 0 ∧ ez = 0 ∧ ok = true → Ret Tryz.prog w 54 #[.agg #[.string A1, .string A2, .string A3, .string C1, .string C2, .string C3, .string D1, .string D2, .string D3], .agg #[.string A0, .string Q, .string D0]] (.tuple #[.agg #[.string I1, .string I2, .string I3], .bool true]))
  (h_v2 : ef = 0 ∧ ez = 0 ∧ ok = true → ∀ (W : World) (b0 : Nat), Blk W b0 #[.string O1, .string O2, .string O3, .string I1, .string I2, .string I3] 24 → Below w.heap.size w W → Calls Tryz.prog 62 #[.slice (some ⟨b0, 0, none⟩) 2 2] W fun e w' => e = .returned (.int .i64 0) ∧ Below W.heap.size W w') :
  Calls Tryz.prog 41 #[.agg #[.string A1, .string A2, .string A3, .string A0, .string S1, .string S2, .string S3], .agg #[.string C1, .string C2, .string C3, .string C0], .agg #[.string D1, .string D2, .string D3, .string D0]] w fun e w' => e = .returned (res) ∧ Below w.heap.size w w' := by
 have H_P1 := Lib.hid h_p1
 have H_V1 := Lib.hid h_v1
 have H_P2 := Lib.hid h_p2
 have H_P3 := Lib.hid h_p3
 have H_F1 := Lib.hid h_f1
 clear h_p1 h_v1 h_p2 h_p3 h_f1
 have B := Lib.hid (Below.refl w.heap.size w)
 go_enter Tryz.func41, Tryz.ntmps41
 go_upto_region 0 with (fail)
 refine wp_tab [.n 3, .n 4, .n 5, .n 6, .n 7, .v 8 (.int .i64 0)] [⟨0, 3, fun g => .pointer (some ⟨g, 0, none⟩), #[.string A1, .string A2, .string A3, .string A0, .string S1, .string S2, .string S3], 58, none⟩, ⟨1, 4, fun g => .pointer (some ⟨g, 0, none⟩), #[.string C1, .string C2, .string C3, .string C0], 26, none⟩, ⟨2, 5, fun g => .pointer (some ⟨g, 0, none⟩), #[.string D1, .string D2, .string D3, .string D0], 26, none⟩, ⟨3, 6, fun g => .pointer (some ⟨g, 0, none⟩), #[.string ⟨#[]⟩, .string ⟨#[]⟩, .string ⟨#[]⟩], 24, none⟩, ⟨4, 7, fun g => .pointer (some ⟨g, 0, none⟩), #[.string ⟨#[]⟩, .string ⟨#[]⟩, .string ⟨#[]⟩], 24, none⟩] [] [] [] [(0, 3), (0, 4), (1, 3), (1, 4), (2, 3), (2, 4), (3, 4)] [] [] (by kernel_rfl) B.out trivial trivial ⟨ml 0, ml 1, ml 2, ml 3, ml 4, pu, trivial⟩ ?_
 clear B
 rintro σ W1 ⟨⟨L0, K0⟩, ⟨L1, K1⟩, ⟨L2, K2⟩, ⟨L3, K3⟩, ⟨L4, K4⟩, _⟩ _ _ ⟨y0, y1, y2, y3, y4, y5, y6, _⟩ B
 have D0_3 : Hid (blkOf (σ 3) ≠ blkOf (σ 6)) := y0
 have D0_4 : Hid (blkOf (σ 3) ≠ blkOf (σ 7)) := y1
 have D1_3 : Hid (blkOf (σ 4) ≠ blkOf (σ 6)) := y2
 have D1_4 : Hid (blkOf (σ 4) ≠ blkOf (σ 7)) := y3
 have D2_3 : Hid (blkOf (σ 5) ≠ blkOf (σ 6)) := y4
 have D2_4 : Hid (blkOf (σ 5) ≠ blkOf (σ 7)) := y5
 have D3_4 : Hid (blkOf (σ 6) ≠ blkOf (σ 7)) := y6
 clear y0 y1 y2 y3 y4 y5 y6
 simp only [slotsOf, finX, nval, nvalN, nvalA, Nat.reduceBEq, cond_true, cond_false, putAll, Act.put, List.setIfInBounds_toArray, List.set_cons_succ, List.set_cons_zero]
 generalize blkOf (σ 3) = g1_0 at *
 generalize blkOf (σ 4) = g1_1 at *
 generalize blkOf (σ 5) = g1_2 at *
 generalize blkOf (σ 6) = g1_3 at *
 generalize blkOf (σ 7) = g1_4 at *
 go_upto_region 1 with (fail)
 refine wp_tab [.v 14 (.pointer (some ⟨g1_0, 0, none⟩)), .v 15 (.agg #[.string A1, .string A2, .string A3, .string A0]), .v 16 (.int .i64 e1), .v 17 (.pointer (some ⟨g1_0, 4, none⟩)), .v 18 (.agg #[.string S1, .string S2, .string S3]), .n 19, .v 20 (.int .i64 e2), .v 21 (.agg #[.string C1, .string C2, .string C3, .string C0]), .v 22 (.int .i64 e3), .v 23 (.agg #[.string D1, .string D2, .string D3, .string D0]), .v 24 (.int .i64 e4), .n 25, .v 26 (.int .i64 ef), .v 9 (.int .i64 ef)] [⟨5, 19, fun g => .slice (some ⟨g, 0, none⟩) 1 1, #[.string S1, .string S2, .string S3], 24, none⟩, ⟨11, 25, fun g => .slice (some ⟨g, 0, none⟩) 4 4, #[.int .i64 e1, .int .i64 e2, .int .i64 e3, .int .i64 e4], 31, none⟩] [⟨g1_0, #[.string A1, .string A2, .string A3, .string A0, .string S1, .string S2, .string S3], 58, none⟩, ⟨g1_1, #[.string C1, .string C2, .string C3, .string C0], 26, none⟩, ⟨g1_2, #[.string D1, .string D2, .string D3, .string D0], 26, none⟩, ⟨g1_3, #[.string ⟨#[]⟩, .string ⟨#[]⟩, .string ⟨#[]⟩], 24, none⟩, ⟨g1_4, #[.string ⟨#[]⟩, .string ⟨#[]⟩, .string ⟨#[]⟩], 24, none⟩] [] [] [] [(3, 0), (3, 1), (4, 0), (4, 1)] [] (by kernel_rfl) B.out ⟨K0.out, K1.out, K2.out, K3.out, K4.out, trivial⟩ trivial ⟨pu, ld 0 0, cl H_P1.out, pu, ld 0 4, ml 0, c1 0 H_V1.out, ld 1 0, cl H_P2.out, ld 2 0, cl H_P3.out, ml 1, c1 1 H_F1.out, pu, trivial⟩ ?_
 clear K0 K1 K2 K3 K4 B
 rintro σ W2 ⟨⟨L5, K5⟩, ⟨L6, K6⟩, _⟩ ⟨K0, K1, K2, K3, K4, _⟩ ⟨x0, x1, x2, x3, _⟩ _ B
 have D3_5 : Hid (g1_3 ≠ blkOf (σ 19)) := x0
 have D3_6 : Hid (g1_3 ≠ blkOf (σ 25)) := x1
 have D4_5 : Hid (g1_4 ≠ blkOf (σ 19)) := x2
 have D4_6 : Hid (g1_4 ≠ blkOf (σ 25)) := x3
 clear x0 x1 x2 x3
 simp only [slotsOf, finX, nval, nvalN, nvalA, Nat.reduceBEq, cond_true, cond_false, putAll, Act.put, List.setIfInBounds_toArray, List.set_cons_succ, List.set_cons_zero]
 generalize blkOf (σ 19) = g2_5 at *
 generalize blkOf (σ 25) = g2_11 at *
 go_upto_region 2 with (fail)
 by_cases hef : ef = 0
 ·
  have qef : (ef != 0) = false := by simp [hef]
  have H_Z1 := Lib.hid (h_z1 hef)
  have H_M1 := Lib.hid (h_m1 hef)
  have H_F2 := Lib.hid (h_f2 hef)
  clear h_z1 h_m1 h_f2
  go_upto_region 4 with (fail)
  refine wp_tab [.v 32 (.pointer (some ⟨g1_0, 0, none⟩)), .v 33 (.pointer (some ⟨g1_0, 0, none⟩)), .v 34 (.agg #[.string A1, .string A2, .string A3]), .v 35 (.pointer (some ⟨g1_1, 0, none⟩)), .v 36 (.agg #[.string C1, .string C2, .string C3]), .v 37 (.pointer (some ⟨g1_2, 0, none⟩)), .v 38 (.agg #[.string D1, .string D2, .string D3]), .n 39, .v 40 (.int .i64 e5), .v 41 (.agg #[.string A1, .string A2, .string A3, .string A0, .string S1, .string S2, .string S3]), .v 42 (.int .i64 e6), .n 43, .v 44 (.int .i64 ez), .v 10 (.int .i64 ez)] [⟨7, 39, fun g => .slice (some ⟨g, 0, none⟩) 3 3, #[.string A1, .string A2, .string A3, .string C1, .string C2, .string C3, .string D1, .string D2, .string D3], 24, none⟩, ⟨11, 43, fun g => .slice (some ⟨g, 0, none⟩) 2 2, #[.int .i64 e5, .int .i64 e6], 31, none⟩] [⟨g1_0, #[.string A1, .string A2, .string A3, .string A0, .string S1, .string S2, .string S3], 58, none⟩, ⟨g1_1, #[.string C1, .string C2, .string C3, .string C0], 26, none⟩, ⟨g1_2, #[.string D1, .string D2, .string D3, .string D0], 26, none⟩, ⟨g1_3, #[.string ⟨#[]⟩, .string ⟨#[]⟩, .string ⟨#[]⟩], 24, none⟩, ⟨g1_4, #[.string ⟨#[]⟩, .string ⟨#[]⟩, .string ⟨#[]⟩], 24, none⟩, ⟨g2_5, #[.string S1, .string S2, .string S3], 24, none⟩, ⟨g2_11, #[.int .i64 e1, .int .i64 e2, .int .i64 e3, .int .i64 e4], 31, none⟩] [] [] [] [(3, 0), (3, 1), (4, 0), (4, 1)] [] (by kernel_rfl) B.out ⟨K0.out, K1.out, K2.out, K3.out, K4.out, K5.out, K6.out, trivial⟩ trivial ⟨pu, pu, ld 0 0, pu, ld 1 0, pu, ld 2 0, ml 0, c1 0 H_Z1.out, ld 0 0, cl H_M1.out, ml 1, c1 1 H_F2.out, pu, trivial⟩ ?_
  clear K0 K1 K2 K3 K4 K5 K6 B
  rintro σ W3 ⟨⟨L7, K7⟩, ⟨L8, K8⟩, _⟩ ⟨K0, K1, K2, K3, K4, K5, K6, _⟩ ⟨x0, x1, x2, x3, _⟩ _ B
  have D3_7 : Hid (g1_3 ≠ blkOf (σ 39)) := x0
  have D3_8 : Hid (g1_3 ≠ blkOf (σ 43)) := x1
  have D4_7 : Hid (g1_4 ≠ blkOf (σ 39)) := x2
  have D4_8 : Hid (g1_4 ≠ blkOf (σ 43)) := x3
  clear x0 x1 x2 x3
  simp only [slotsOf, finX, nval, nvalN, nvalA, Nat.reduceBEq, cond_true, cond_false, putAll, Act.put, List.setIfInBounds_toArray, List.set_cons_succ, List.set_cons_zero]
  generalize blkOf (σ 39) = g3_7 at *
  generalize blkOf (σ 43) = g3_11 at *
  go_upto_region 5 with (fail)
  by_cases hez : ez = 0
  ·
   have qez : (ez != 0) = false := by simp [hez]
   go_upto_region 7 with (fail)
   have lt0 := K0.out.lt
   have lt1 := K1.out.lt
   have lt2 := K2.out.lt
   have lt3 := K3.out.lt
   have lt4 := K4.out.lt
   have lt5 := K5.out.lt
   have lt6 := K6.out.lt
   have lt7 := K7.out.lt
   have lt8 := K8.out.lt
   refine wp_tab [.v 50 (.pointer (some ⟨g1_0, 0, none⟩)), .v 51 (.pointer (some ⟨g1_0, 0, none⟩)), .v 52 (.agg #[.string A1, .string A2, .string A3]), .v 53 (.pointer (some ⟨g1_1, 0, none⟩)), .v 54 (.agg #[.string C1, .string C2, .string C3]), .v 55 (.pointer (some ⟨g1_2, 0, none⟩)), .v 56 (.agg #[.string D1, .string D2, .string D3]), .v 57 (.agg #[.string A1, .string A2, .string A3, .string C1, .string C2, .string C3, .string D1, .string D2, .string D3]), .n 11, .z] [⟨8, 11, fun g => .pointer (some ⟨g, 0, none⟩), #[.string ⟨#[]⟩, .string ⟨#[]⟩, .string ⟨#[]⟩, .string ⟨#[]⟩, .string ⟨#[]⟩, .string ⟨#[]⟩, .string ⟨#[]⟩, .string ⟨#[]⟩, .string ⟨#[]⟩], 105, some (9, #[.string A1, .string A2, .string A3, .string C1, .string C2, .string C3, .string D1, .string D2, .string D3])⟩] [⟨g1_0, #[.string A1, .string A2, .string A3, .string A0, .string S1, .string S2, .string S3], 58, none⟩, ⟨g1_1, #[.string C1, .string C2, .string C3, .string C0], 26, none⟩, ⟨g1_2, #[.string D1, .string D2, .string D3, .string D0], 26, none⟩, ⟨g1_3, #[.string ⟨#[]⟩, .string ⟨#[]⟩, .string ⟨#[]⟩], 24, none⟩, ⟨g1_4, #[.string ⟨#[]⟩, .string ⟨#[]⟩, .string ⟨#[]⟩], 24, none⟩, ⟨g2_5, #[.string S1, .string S2, .string S3], 24, none⟩, ⟨g2_11, #[.int .i64 e1, .int .i64 e2, .int .i64 e3, .int .i64 e4], 31, none⟩, ⟨g3_7, #[.string A1, .string A2, .string A3, .string C1, .string C2, .string C3, .string D1, .string D2, .string D3], 24, none⟩, ⟨g3_11, #[.int .i64 e5, .int .i64 e6], 31, none⟩] [] [(9, 8)] [] [(3, 0), (4, 0)] [] (by kernel_rfl) B.out ⟨K0.out, K1.out, K2.out, K3.out, K4.out, K5.out, K6.out, K7.out, K8.out, trivial⟩ trivial ⟨pu, pu, ld 0 0, pu, ld 1 0, pu, ld 2 0, pu, ml 0, ?_, trivial⟩ ?_
   · intro L a U ho J hn d KK k; refine .free rfl ?_; have r11 : a.tmps[(11 : Nat)]?.getD undef = .pointer (some ⟨(blkOf (slotOf a 11)), 0, none⟩) := J.readN 0 rfl (d.get 8 rfl); have r57 := J.read 7 rfl (d.get 7 rfl); have kb := (J.nwB 0 rfl (d.get 8 rfl) hn).blk; have c0 := kb.at_ 0 _ rfl; have z0 := kb.free 0; have c1 := kb.at_ 1 _ rfl; have z1 := kb.free 1; have c2 := kb.at_ 2 _ rfl; have z2 := kb.free 2; have c3 := kb.at_ 3 _ rfl; have z3 := kb.free 3; have c4 := kb.at_ 4 _ rfl; have z4 := kb.free 4; have c5 := kb.at_ 5 _ rfl; have z5 := kb.free 5; have c6 := kb.at_ 6 _ rfl; have z6 := kb.free 6; have c7 := kb.at_ 7 _ rfl; have z7 := kb.free 7; have c8 := kb.at_ 8 _ rfl; have z8 := kb.free 8; clear kb; go_simp; exact k.out undef _ (J.storedN 9 0 rfl rfl rfl rfl rfl 0 [.string A1, .string A2, .string A3, .string C1, .string C2, .string C3, .string D1, .string D2, .string D3] rfl ⟨lt0, lt1, lt2, lt3, lt4, lt5, lt6, lt7, lt8, trivial⟩ (d.get 8 rfl) hn ⟨.inr (d.get 8 rfl), trivial⟩)
   clear K0 K1 K2 K3 K4 K5 K6 K7 K8 B lt0 lt1 lt2 lt3 lt4 lt5 lt6 lt7 lt8
   rintro σ W4 ⟨⟨L9, K9⟩, _⟩ ⟨K0, K1, K2, K3, K4, K5, K6, K7, K8, _⟩ ⟨x0, x1, _⟩ _ B
   have D3_9 : Hid (g1_3 ≠ blkOf (σ 11)) := x0
   have D4_9 : Hid (g1_4 ≠ blkOf (σ 11)) := x1
   clear x0 x1
   simp only [slotsOf, finX, nval, nvalN, nvalA, Nat.reduceBEq, cond_true, cond_false, putAll, Act.put, List.setIfInBounds_toArray, List.set_cons_succ, List.set_cons_zero]
   generalize blkOf (σ 11) = g4_8 at *
   go_upto_region 8 with (fail)
   have lt0 := K0.out.lt
   have lt1 := K1.out.lt
   have lt2 := K2.out.lt
   have lt3 := K3.out.lt
   have lt4 := K4.out.lt
   have lt5 := K5.out.lt
   have lt6 := K6.out.lt
   have lt7 := K7.out.lt
   have lt8 := K8.out.lt
   have lt9 := K9.out.lt
   refine wp_tab [.v 58 (.pointer (some ⟨g1_0, 0, none⟩)), .v 59 (.pointer (some ⟨g1_0, 3, none⟩)), .v 60 (.string A0), .v 61 (.pointer (some ⟨g1_1, 3, none⟩)), .v 62 (.string C0), .v 63 (.pointer (some ⟨g1_2, 3, none⟩)), .v 64 (.string D0), .v 65 (.agg #[.string A0, .string C0, .string D0]), .n 12, .z] [⟨8, 12, fun g => .pointer (some ⟨g, 0, none⟩), #[.string ⟨#[]⟩, .string ⟨#[]⟩, .string ⟨#[]⟩], 102, some (9, #[.string A0, .string C0, .string D0])⟩] [⟨g1_0, #[.string A1, .string A2, .string A3, .string A0, .string S1, .string S2, .string S3], 58, none⟩, ⟨g1_1, #[.string C1, .string C2, .string C3, .string C0], 26, none⟩, ⟨g1_2, #[.string D1, .string D2, .string D3, .string D0], 26, none⟩, ⟨g1_3, #[.string ⟨#[]⟩, .string ⟨#[]⟩, .string ⟨#[]⟩], 24, none⟩, ⟨g1_4, #[.string ⟨#[]⟩, .string ⟨#[]⟩, .string ⟨#[]⟩], 24, none⟩, ⟨g2_5, #[.string S1, .string S2, .string S3], 24, none⟩, ⟨g2_11, #[.int .i64 e1, .int .i64 e2, .int .i64 e3, .int .i64 e4], 31, none⟩, ⟨g3_7, #[.string A1, .string A2, .string A3, .string C1, .string C2, .string C3, .string D1, .string D2, .string D3], 24, none⟩, ⟨g3_11, #[.int .i64 e5, .int .i64 e6], 31, none⟩, ⟨g4_8, #[.string A1, .string A2, .string A3, .string C1, .string C2, .string C3, .string D1, .string D2, .string D3], 105, none⟩] [] [(9, 8)] [] [(0, 0), (1, 0), (2, 0), (3, 0), (4, 0), (5, 0), (6, 0), (7, 0), (8, 0), (9, 0)] [] (by kernel_rfl) B.out ⟨K0.out, K1.out, K2.out, K3.out, K4.out, K5.out, K6.out, K7.out, K8.out, K9.out, trivial⟩ trivial ⟨pu, pu, ld 0 3, pu, ld 1 3, pu, ld 2 3, pu, ml 0, ?_, trivial⟩ ?_
   · intro L a U ho J hn d KK k; refine .free rfl ?_; have r12 : a.tmps[(12 : Nat)]?.getD undef = .pointer (some ⟨(blkOf (slotOf a 12)), 0, none⟩) := J.readN 0 rfl (d.get 8 rfl); have r65 := J.read 7 rfl (d.get 7 rfl); have kb := (J.nwB 0 rfl (d.get 8 rfl) hn).blk; have c0 := kb.at_ 0 _ rfl; have z0 := kb.free 0; have c1 := kb.at_ 1 _ rfl; have z1 := kb.free 1; have c2 := kb.at_ 2 _ rfl; have z2 := kb.free 2; clear kb; go_simp; exact k.out undef _ (J.storedN 9 0 rfl rfl rfl rfl rfl 0 [.string A0, .string C0, .string D0] rfl ⟨lt0, lt1, lt2, lt3, lt4, lt5, lt6, lt7, lt8, lt9, trivial⟩ (d.get 8 rfl) hn ⟨.inr (d.get 8 rfl), trivial⟩)
   clear K0 K1 K2 K3 K4 K5 K6 K7 K8 K9 B lt0 lt1 lt2 lt3 lt4 lt5 lt6 lt7 lt8 lt9
   rintro σ W5 ⟨⟨L10, K10⟩, _⟩ ⟨K0, K1, K2, K3, K4, K5, K6, K7, K8, K9, _⟩ ⟨x0, x1, x2, x3, x4, x5, x6, x7, x8, x9, _⟩ _ B
   have D0_10 : Hid (g1_0 ≠ blkOf (σ 12)) := x0
   have D1_10 : Hid (g1_1 ≠ blkOf (σ 12)) := x1
   have D2_10 : Hid (g1_2 ≠ blkOf (σ 12)) := x2
   have D3_10 : Hid (g1_3 ≠ blkOf (σ 12)) := x3
   have D4_10 : Hid (g1_4 ≠ blkOf (σ 12)) := x4
   have D5_10 : Hid (g2_5 ≠ blkOf (σ 12)) := x5
   have D6_10 : Hid (g2_11 ≠ blkOf (σ 12)) := x6
   have D7_10 : Hid (g3_7 ≠ blkOf (σ 12)) := x7
   have D8_10 : Hid (g3_11 ≠ blkOf (σ 12)) := x8
   have D9_10 : Hid (g4_8 ≠ blkOf (σ 12)) := x9
   clear x0 x1 x2 x3 x4 x5 x6 x7 x8 x9
   simp only [slotsOf, finX, nval, nvalN, nvalA, Nat.reduceBEq, cond_true, cond_false, putAll, Act.put, List.setIfInBounds_toArray, List.set_cons_succ, List.set_cons_zero]
   generalize blkOf (σ 12) = g5_8 at *
   go_upto_region 9 with (fail)
   by_cases hok : ok = true
   ·
    have H_MT := Lib.hid (h_mt ⟨hef, hez, hok⟩)
    have H_D1 := Lib.hid (h_d1 ⟨hef, hez, hok⟩)
    have H_AD := Lib.hid (h_ad ⟨hef, hez, hok⟩)
    have H_MU := Lib.hid (h_mu ⟨hef, hez, hok⟩)
    have H_V2 := Lib.hid (h_v2 ⟨hef, hez, hok⟩)
    clear h_mt h_d1 h_ad h_mu h_v2
    go_upto_region 9 with (fail)
    have lt0 := K0.out.lt
    have lt1 := K1.out.lt
    have lt2 := K2.out.lt
    have lt3 := K3.out.lt
    have lt4 := K4.out.lt
    have lt5 := K5.out.lt
    have lt6 := K6.out.lt
    have lt7 := K7.out.lt
    have lt8 := K8.out.lt
    have lt9 := K9.out.lt
    have lt10 := K10.out.lt
    refine wp_tab [.v 67 (.agg #[.string A1, .string A2, .string A3, .string C1, .string C2, .string C3, .string D1, .string D2, .string D3]), .v 68 (.agg #[.string A0, .string C0, .string D0]), .v 69 (.tuple #[.agg #[.string O1, .string O2, .string O3], .bool true]), .v 66 (.tuple #[.agg #[.string O1, .string O2, .string O3], .bool true]), .v 70 (.agg #[.string O1, .string O2, .string O3]), .v 71 (.bool true), .z, .v 13 (.bool true)] [] [⟨g1_0, #[.string A1, .string A2, .string A3, .string A0, .string S1, .string S2, .string S3], 58, none⟩, ⟨g1_1, #[.string C1, .string C2, .string C3, .string C0], 26, none⟩, ⟨g1_2, #[.string D1, .string D2, .string D3, .string D0], 26, none⟩, ⟨g1_3, #[.string ⟨#[]⟩, .string ⟨#[]⟩, .string ⟨#[]⟩], 24, some (6, #[.string O1, .string O2, .string O3])⟩, ⟨g1_4, #[.string ⟨#[]⟩, .string ⟨#[]⟩, .string ⟨#[]⟩], 24, none⟩, ⟨g2_5, #[.string S1, .string S2, .string S3], 24, none⟩, ⟨g2_11, #[.int .i64 e1, .int .i64 e2, .int .i64 e3, .int .i64 e4], 31, none⟩, ⟨g3_7, #[.string A1, .string A2, .string A3, .string C1, .string C2, .string C3, .string D1, .string D2, .string D3], 24, none⟩, ⟨g3_11, #[.int .i64 e5, .int .i64 e6], 31, none⟩, ⟨g4_8, #[.string A1, .string A2, .string A3, .string C1, .string C2, .string C3, .string D1, .string D2, .string D3], 105, none⟩, ⟨g5_8, #[.string A0, .string C0, .string D0], 102, none⟩] [] [] [] [] [] (by kernel_rfl) B.out ⟨K0.out, K1.out, K2.out, K3.out, K4.out, K5.out, K6.out, K7.out, K8.out, K9.out, K10.out, trivial⟩ trivial ⟨ld 9 0, ld 10 0, cl H_MT.out, pu, pu, pu, ?_, pu, trivial⟩ ?_
    · intro L a U ho J hn d KK k; refine .free rfl ?_; have r6 : a.tmps[(6 : Nat)]?.getD undef = .pointer (some ⟨g1_3, 0, none⟩) := ho.slot 6 rfl; have r70 := J.read 4 rfl (d.get 4 rfl); have kb := (J.eldB 3 rfl hn); have c0 := kb.at_ 0 _ rfl; have z0 := kb.free 0; have c1 := kb.at_ 1 _ rfl; have z1 := kb.free 1; have c2 := kb.at_ 2 _ rfl; have z2 := kb.free 2; clear kb; go_simp; exact k.out undef _ (J.stored 6 3 rfl rfl (.inl rfl) rfl rfl 0 [.string O1, .string O2, .string O3] rfl L3.out lt3 ⟨.inr D0_3.out, .inr D1_3.out, .inr D2_3.out, .inl rfl, .inr (Ne.symm D3_4.out), .inr (Ne.symm D3_5.out), .inr (Ne.symm D3_6.out), .inr (Ne.symm D3_7.out), .inr (Ne.symm D3_8.out), .inr (Ne.symm D3_9.out), .inr (Ne.symm D3_10.out), trivial⟩ hn trivial)
    clear K0 K1 K2 K3 K4 K5 K6 K7 K8 K9 K10 B lt0 lt1 lt2 lt3 lt4 lt5 lt6 lt7 lt8 lt9 lt10
    rintro σ W6 _ ⟨K0, K1, K2, K3, K4, K5, K6, K7, K8, K9, K10, _⟩ _ _ B
    simp only [slotsOf, finX, nval, nvalN, nvalA, Nat.reduceBEq, cond_true, cond_false, putAll, Act.put, List.setIfInBounds_toArray, List.set_cons_succ, List.set_cons_zero]
    go_upto_region 12 with (fail)
    have lt0 := K0.out.lt
    have lt1 := K1.out.lt
    have lt2 := K2.out.lt
    have lt3 := K3.out.lt
    have lt4 := K4.out.lt
    have lt5 := K5.out.lt
    have lt6 := K6.out.lt
    have lt7 := K7.out.lt
    have lt8 := K8.out.lt
    have lt9 := K9.out.lt
    have lt10 := K10.out.lt
    refine wp_tab [.v 76 (.pointer (some ⟨g5_8, 1, none⟩)), .v 77 (.string C0), .v 78 (.pointer (some ⟨g1_1, 0, none⟩)), .v 79 (.agg #[.string C1, .string C2, .string C3]), .v 80 (.pointer (some ⟨g1_0, 4, none⟩)), .v 81 (.agg #[.string S1, .string S2, .string S3]), .v 82 (.string P), .v 83 (.string Q), .v 84 (.pointer (some ⟨g5_8, 1, none⟩)), .z] [] [⟨g1_0, #[.string A1, .string A2, .string A3, .string A0, .string S1, .string S2, .string S3], 58, none⟩, ⟨g1_1, #[.string C1, .string C2, .string C3, .string C0], 26, none⟩, ⟨g1_2, #[.string D1, .string D2, .string D3, .string D0], 26, none⟩, ⟨g1_3, #[.string O1, .string O2, .string O3], 24, none⟩, ⟨g1_4, #[.string ⟨#[]⟩, .string ⟨#[]⟩, .string ⟨#[]⟩], 24, none⟩, ⟨g2_5, #[.string S1, .string S2, .string S3], 24, none⟩, ⟨g2_11, #[.int .i64 e1, .int .i64 e2, .int .i64 e3, .int .i64 e4], 31, none⟩, ⟨g3_7, #[.string A1, .string A2, .string A3, .string C1, .string C2, .string C3, .string D1, .string D2, .string D3], 24, none⟩, ⟨g3_11, #[.int .i64 e5, .int .i64 e6], 31, none⟩, ⟨g4_8, #[.string A1, .string A2, .string A3, .string C1, .string C2, .string C3, .string D1, .string D2, .string D3], 105, none⟩, ⟨g5_8, #[.string A0, .string C0, .string D0], 102, some (9, #[.string A0, .string Q, .string D0])⟩] [] [(9, 1)] [] [] [] (by kernel_rfl) B.out ⟨K0.out, K1.out, K2.out, K3.out, K4.out, K5.out, K6.out, K7.out, K8.out, K9.out, K10.out, trivial⟩ trivial ⟨pu, ld 10 1, pu, ld 1 0, pu, ld 0 4, cl H_D1.out, cl H_AD.out, pu, ?_, trivial⟩ ?_
    · intro L a U ho J hn d KK k; refine .free rfl ?_; have r84 := J.read 8 rfl (d.get 8 rfl); have r83 := J.read 7 rfl (d.get 7 rfl); have kb := (J.eldB 10 rfl hn); have c1 := kb.at_ 1 _ rfl; have z1 := kb.free 1; clear kb; go_simp; exact k.out undef _ (J.stored 9 10 rfl rfl (.inl rfl) rfl rfl 1 [.string Q] rfl L10.out lt10 ⟨.inr D0_10.out, .inr D1_10.out, .inr D2_10.out, .inr D3_10.out, .inr D4_10.out, .inr D5_10.out, .inr D6_10.out, .inr D7_10.out, .inr D8_10.out, .inr D9_10.out, .inl rfl, trivial⟩ hn ⟨.inr (d.get 1 rfl), trivial⟩)
    clear K0 K1 K2 K3 K4 K5 K6 K7 K8 K9 K10 B lt0 lt1 lt2 lt3 lt4 lt5 lt6 lt7 lt8 lt9 lt10
    rintro σ W7 _ ⟨K0, K1, K2, K3, K4, K5, K6, K7, K8, K9, K10, _⟩ _ _ B
    simp only [slotsOf, finX, nval, nvalN, nvalA, Nat.reduceBEq, cond_true, cond_false, putAll, Act.put, List.setIfInBounds_toArray, List.set_cons_succ, List.set_cons_zero]
    go_upto_region 13 with (fail)
    have lt0 := K0.out.lt
    have lt1 := K1.out.lt
    have lt2 := K2.out.lt
    have lt3 := K3.out.lt
    have lt4 := K4.out.lt
    have lt5 := K5.out.lt
    have lt6 := K6.out.lt
    have lt7 := K7.out.lt
    have lt8 := K8.out.lt
    have lt9 := K9.out.lt
    have lt10 := K10.out.lt
    refine wp_tab [.v 86 (.agg #[.string A1, .string A2, .string A3, .string C1, .string C2, .string C3, .string D1, .string D2, .string D3]), .v 87 (.agg #[.string A0, .string Q, .string D0]), .v 88 (.tuple #[.agg #[.string I1, .string I2, .string I3], .bool true]), .v 85 (.tuple #[.agg #[.string I1, .string I2, .string I3], .bool true]), .v 89 (.agg #[.string I1, .string I2, .string I3]), .v 90 (.bool true), .z] [] [⟨g1_0, #[.string A1, .string A2, .string A3, .string A0, .string S1, .string S2, .string S3], 58, none⟩, ⟨g1_1, #[.string C1, .string C2, .string C3, .string C0], 26, none⟩, ⟨g1_2, #[.string D1, .string D2, .string D3, .string D0], 26, none⟩, ⟨g1_3, #[.string O1, .string O2, .string O3], 24, none⟩, ⟨g1_4, #[.string ⟨#[]⟩, .string ⟨#[]⟩, .string ⟨#[]⟩], 24, some (6, #[.string I1, .string I2, .string I3])⟩, ⟨g2_5, #[.string S1, .string S2, .string S3], 24, none⟩, ⟨g2_11, #[.int .i64 e1, .int .i64 e2, .int .i64 e3, .int .i64 e4], 31, none⟩, ⟨g3_7, #[.string A1, .string A2, .string A3, .string C1, .string C2, .string C3, .string D1, .string D2, .string D3], 24, none⟩, ⟨g3_11, #[.int .i64 e5, .int .i64 e6], 31, none⟩, ⟨g4_8, #[.string A1, .string A2, .string A3, .string C1, .string C2, .string C3, .string D1, .string D2, .string D3], 105, none⟩, ⟨g5_8, #[.string A0, .string Q, .string D0], 102, none⟩] [] [] [] [] [] (by kernel_rfl) B.out ⟨K0.out, K1.out, K2.out, K3.out, K4.out, K5.out, K6.out, K7.out, K8.out, K9.out, K10.out, trivial⟩ trivial ⟨ld 9 0, ld 10 0, cl H_MU.out, pu, pu, pu, ?_, trivial⟩ ?_
    · intro L a U ho J hn d KK k; refine .free rfl ?_; have r7 : a.tmps[(7 : Nat)]?.getD undef = .pointer (some ⟨g1_4, 0, none⟩) := ho.slot 7 rfl; have r89 := J.read 4 rfl (d.get 4 rfl); have kb := (J.eldB 4 rfl hn); have c0 := kb.at_ 0 _ rfl; have z0 := kb.free 0; have c1 := kb.at_ 1 _ rfl; have z1 := kb.free 1; have c2 := kb.at_ 2 _ rfl; have z2 := kb.free 2; clear kb; go_simp; exact k.out undef _ (J.stored 6 4 rfl rfl (.inl rfl) rfl rfl 0 [.string I1, .string I2, .string I3] rfl L4.out lt4 ⟨.inr D0_4.out, .inr D1_4.out, .inr D2_4.out, .inr D3_4.out, .inl rfl, .inr (Ne.symm D4_5.out), .inr (Ne.symm D4_6.out), .inr (Ne.symm D4_7.out), .inr (Ne.symm D4_8.out), .inr (Ne.symm D4_9.out), .inr (Ne.symm D4_10.out), trivial⟩ hn trivial)
    clear K0 K1 K2 K3 K4 K5 K6 K7 K8 K9 K10 B lt0 lt1 lt2 lt3 lt4 lt5 lt6 lt7 lt8 lt9 lt10
    rintro σ W8 _ ⟨K0, K1, K2, K3, K4, K5, K6, K7, K8, K9, K10, _⟩ _ _ B
    simp only [slotsOf, finX, nval, nvalN, nvalA, Nat.reduceBEq, cond_true, cond_false, putAll, Act.put, List.setIfInBounds_toArray, List.set_cons_succ, List.set_cons_zero]
    go_upto_region 14 with (fail)
    refine wp_tab [.v 91 (.agg #[.string O1, .string O2, .string O3]), .v 92 (.agg #[.string I1, .string I2, .string I3]), .n 93, .v 94 (.int .i64 0), .v 95 (.bool false)] [⟨2, 93, fun g => .slice (some ⟨g, 0, none⟩) 2 2, #[.string O1, .string O2, .string O3, .string I1, .string I2, .string I3], 24, none⟩] [⟨g1_0, #[.string A1, .string A2, .string A3, .string A0, .string S1, .string S2, .string S3], 58, none⟩, ⟨g1_1, #[.string C1, .string C2, .string C3, .string C0], 26, none⟩, ⟨g1_2, #[.string D1, .string D2, .string D3, .string D0], 26, none⟩, ⟨g1_3, #[.string O1, .string O2, .string O3], 24, none⟩, ⟨g1_4, #[.string I1, .string I2, .string I3], 24, none⟩, ⟨g2_5, #[.string S1, .string S2, .string S3], 24, none⟩, ⟨g2_11, #[.int .i64 e1, .int .i64 e2, .int .i64 e3, .int .i64 e4], 31, none⟩, ⟨g3_7, #[.string A1, .string A2, .string A3, .string C1, .string C2, .string C3, .string D1, .string D2, .string D3], 24, none⟩, ⟨g3_11, #[.int .i64 e5, .int .i64 e6], 31, none⟩, ⟨g4_8, #[.string A1, .string A2, .string A3, .string C1, .string C2, .string C3, .string D1, .string D2, .string D3], 105, none⟩, ⟨g5_8, #[.string A0, .string Q, .string D0], 102, none⟩] [] [] [] [(3, 0), (4, 0), (10, 0)] [] (by kernel_rfl) B.out ⟨K0.out, K1.out, K2.out, K3.out, K4.out, K5.out, K6.out, K7.out, K8.out, K9.out, K10.out, trivial⟩ trivial ⟨ld 3 0, ld 4 0, ml 0, c1 0 H_V2.out, pu, trivial⟩ ?_
    clear K0 K1 K2 K3 K4 K5 K6 K7 K8 K9 K10 B
    rintro σ W9 ⟨⟨L11, K11⟩, _⟩ ⟨K0, K1, K2, K3, K4, K5, K6, K7, K8, K9, K10, _⟩ ⟨x0, x1, x2, _⟩ _ B
    have D3_11 : Hid (g1_3 ≠ blkOf (σ 93)) := x0
    have D4_11 : Hid (g1_4 ≠ blkOf (σ 93)) := x1
    have D10_11 : Hid (g5_8 ≠ blkOf (σ 93)) := x2
    clear x0 x1 x2
    simp only [slotsOf, finX, nval, nvalN, nvalA, Nat.reduceBEq, cond_true, cond_false, putAll, Act.put, List.setIfInBounds_toArray, List.set_cons_succ, List.set_cons_zero]
    generalize blkOf (σ 93) = g9_2 at *
    go_upto_region 16 with (fail)
    have lt0 := K0.out.lt
    have lt1 := K1.out.lt
    have lt2 := K2.out.lt
    have lt3 := K3.out.lt
    have lt4 := K4.out.lt
    have lt5 := K5.out.lt
    have lt6 := K6.out.lt
    have lt7 := K7.out.lt
    have lt8 := K8.out.lt
    have lt9 := K9.out.lt
    have lt10 := K10.out.lt
    have lt11 := K11.out.lt
    refine wp_tab [.v 98 (.agg #[.string O1, .string O2, .string O3]), .v 99 (.agg #[.string I1, .string I2, .string I3]), .z, .z, .v 8 (.int .i64 0)] [] [⟨g1_0, #[.string A1, .string A2, .string A3, .string A0, .string S1, .string S2, .string S3], 58, none⟩, ⟨g1_1, #[.string C1, .string C2, .string C3, .string C0], 26, none⟩, ⟨g1_2, #[.string D1, .string D2, .string D3, .string D0], 26, none⟩, ⟨g1_3, #[.string O1, .string O2, .string O3], 24, none⟩, ⟨g1_4, #[.string I1, .string I2, .string I3], 24, none⟩, ⟨g2_5, #[.string S1, .string S2, .string S3], 24, none⟩, ⟨g2_11, #[.int .i64 e1, .int .i64 e2, .int .i64 e3, .int .i64 e4], 31, none⟩, ⟨g3_7, #[.string A1, .string A2, .string A3, .string C1, .string C2, .string C3, .string D1, .string D2, .string D3], 24, none⟩, ⟨g3_11, #[.int .i64 e5, .int .i64 e6], 31, none⟩, ⟨g4_8, #[.string A1, .string A2, .string A3, .string C1, .string C2, .string C3, .string D1, .string D2, .string D3], 105, none⟩, ⟨g5_8, #[.string A0, .string Q, .string D0], 102, none⟩, ⟨g9_2, #[.string O1, .string O2, .string O3, .string I1, .string I2, .string I3], 24, none⟩] [] [] [] [] [] (by kernel_rfl) B.out ⟨K0.out, K1.out, K2.out, K3.out, K4.out, K5.out, K6.out, K7.out, K8.out, K9.out, K10.out, K11.out, trivial⟩ trivial ⟨ld 3 0, ld 4 0, ?_, ?_, pu, trivial⟩ ?_
    · intro L a U ho J hn d KK k; refine .free rfl ?_; have r6 : a.tmps[(6 : Nat)]?.getD undef = .pointer (some ⟨g1_3, 0, none⟩) := ho.slot 6 rfl; have r98 := J.read 0 rfl (d.get 0 rfl); have kb := (J.eld 3 rfl); have c0 := kb.at_ 0 _ rfl; have z0 := kb.free 0; have c1 := kb.at_ 1 _ rfl; have z1 := kb.free 1; have c2 := kb.at_ 2 _ rfl; have z2 := kb.free 2; clear kb; go_simp; exact k.out undef _ (J.stored 2 3 rfl rfl (.inr ⟨rfl, rfl⟩) rfl rfl 0 [.string O1, .string O2, .string O3] rfl L3.out lt3 ⟨.inr D0_3.out, .inr D1_3.out, .inr D2_3.out, .inl rfl, .inr (Ne.symm D3_4.out), .inr (Ne.symm D3_5.out), .inr (Ne.symm D3_6.out), .inr (Ne.symm D3_7.out), .inr (Ne.symm D3_8.out), .inr (Ne.symm D3_9.out), .inr (Ne.symm D3_10.out), .inr (Ne.symm D3_11.out), trivial⟩ hn trivial)
    · intro L a U ho J hn d KK k; refine .free rfl ?_; have r7 : a.tmps[(7 : Nat)]?.getD undef = .pointer (some ⟨g1_4, 0, none⟩) := ho.slot 7 rfl; have r99 := J.read 1 rfl (d.get 1 rfl); have kb := (J.eld 4 rfl); have c0 := kb.at_ 0 _ rfl; have z0 := kb.free 0; have c1 := kb.at_ 1 _ rfl; have z1 := kb.free 1; have c2 := kb.at_ 2 _ rfl; have z2 := kb.free 2; clear kb; go_simp; exact k.out undef _ (J.stored 3 4 rfl rfl (.inr ⟨rfl, rfl⟩) rfl rfl 0 [.string I1, .string I2, .string I3] rfl L4.out lt4 ⟨.inr D0_4.out, .inr D1_4.out, .inr D2_4.out, .inr D3_4.out, .inl rfl, .inr (Ne.symm D4_5.out), .inr (Ne.symm D4_6.out), .inr (Ne.symm D4_7.out), .inr (Ne.symm D4_8.out), .inr (Ne.symm D4_9.out), .inr (Ne.symm D4_10.out), .inr (Ne.symm D4_11.out), trivial⟩ hn trivial)
    clear K0 K1 K2 K3 K4 K5 K6 K7 K8 K9 K10 K11 B lt0 lt1 lt2 lt3 lt4 lt5 lt6 lt7 lt8 lt9 lt10 lt11
    rintro σ W10 _ ⟨K0, K1, K2, K3, K4, K5, K6, K7, K8, K9, K10, K11, _⟩ _ _ B
    simp only [slotsOf, finX, nval, nvalN, nvalA, Nat.reduceBEq, cond_true, cond_false, putAll, Act.put, List.setIfInBounds_toArray, List.set_cons_succ, List.set_cons_zero]
    go_wp2
    have c3_0 := K3.out.at_ 0 _ rfl
    have c3_1 := K3.out.at_ 1 _ rfl
    have c3_2 := K3.out.at_ 2 _ rfl
    have c4_0 := K4.out.at_ 0 _ rfl
    have c4_1 := K4.out.at_ 1 _ rfl
    have c4_2 := K4.out.at_ 2 _ rfl
    exact bodyPost_ret (v := .tuple #[.agg #[.string O1, .string O2, .string O3], .agg #[.string I1, .string I2, .string I3], .int .i64 0]) (by simp [results, Tryz.results41, go_sem, c3_0, c3_1, c3_2, c4_0, c4_1, c4_2]) rfl ⟨by first | rfl | (rw [r4 hef hez hok] <;> rfl), B.out⟩
   ·
    have H_MF := Lib.hid (h_mf ⟨hef, hez, hok⟩)
    clear h_mf
    go_upto_region 9 with (fail)
    have lt0 := K0.out.lt
    have lt1 := K1.out.lt
    have lt2 := K2.out.lt
    have lt3 := K3.out.lt
    have lt4 := K4.out.lt
    have lt5 := K5.out.lt
    have lt6 := K6.out.lt
    have lt7 := K7.out.lt
    have lt8 := K8.out.lt
    have lt9 := K9.out.lt
    have lt10 := K10.out.lt
    refine wp_tab [.v 67 (.agg #[.string A1, .string A2, .string A3, .string C1, .string C2, .string C3, .string D1, .string D2, .string D3]), .v 68 (.agg #[.string A0, .string C0, .string D0]), .v 69 (.tuple #[.agg #[.string ⟨#[]⟩, .string ⟨#[]⟩, .string ⟨#[]⟩], .bool false]), .v 66 (.tuple #[.agg #[.string ⟨#[]⟩, .string ⟨#[]⟩, .string ⟨#[]⟩], .bool false]), .v 70 (.agg #[.string ⟨#[]⟩, .string ⟨#[]⟩, .string ⟨#[]⟩]), .v 71 (.bool false), .z, .v 13 (.bool false)] [] [⟨g1_0, #[.string A1, .string A2, .string A3, .string A0, .string S1, .string S2, .string S3], 58, none⟩, ⟨g1_1, #[.string C1, .string C2, .string C3, .string C0], 26, none⟩, ⟨g1_2, #[.string D1, .string D2, .string D3, .string D0], 26, none⟩, ⟨g1_3, #[.string ⟨#[]⟩, .string ⟨#[]⟩, .string ⟨#[]⟩], 24, none⟩, ⟨g1_4, #[.string ⟨#[]⟩, .string ⟨#[]⟩, .string ⟨#[]⟩], 24, none⟩, ⟨g2_5, #[.string S1, .string S2, .string S3], 24, none⟩, ⟨g2_11, #[.int .i64 e1, .int .i64 e2, .int .i64 e3, .int .i64 e4], 31, none⟩, ⟨g3_7, #[.string A1, .string A2, .string A3, .string C1, .string C2, .string C3, .string D1, .string D2, .string D3], 24, none⟩, ⟨g3_11, #[.int .i64 e5, .int .i64 e6], 31, none⟩, ⟨g4_8, #[.string A1, .string A2, .string A3, .string C1, .string C2, .string C3, .string D1, .string D2, .string D3], 105, none⟩, ⟨g5_8, #[.string A0, .string C0, .string D0], 102, none⟩] [] [] [] [] [] (by kernel_rfl) B.out ⟨K0.out, K1.out, K2.out, K3.out, K4.out, K5.out, K6.out, K7.out, K8.out, K9.out, K10.out, trivial⟩ trivial ⟨ld 9 0, ld 10 0, cl H_MF.out, pu, pu, pu, ?_, pu, trivial⟩ ?_
    · intro L a U ho J hn d KK k; refine .free rfl ?_; have r6 : a.tmps[(6 : Nat)]?.getD undef = .pointer (some ⟨g1_3, 0, none⟩) := ho.slot 6 rfl; have r70 := J.read 4 rfl (d.get 4 rfl); have kb := (J.eld 3 rfl); have c0 := kb.at_ 0 _ rfl; have z0 := kb.free 0; have c1 := kb.at_ 1 _ rfl; have z1 := kb.free 1; have c2 := kb.at_ 2 _ rfl; have z2 := kb.free 2; clear kb; go_simp; exact k.out undef _ (J.stored 6 3 rfl rfl (.inr ⟨rfl, rfl⟩) rfl rfl 0 [.string ⟨#[]⟩, .string ⟨#[]⟩, .string ⟨#[]⟩] rfl L3.out lt3 ⟨.inr D0_3.out, .inr D1_3.out, .inr D2_3.out, .inl rfl, .inr (Ne.symm D3_4.out), .inr (Ne.symm D3_5.out), .inr (Ne.symm D3_6.out), .inr (Ne.symm D3_7.out), .inr (Ne.symm D3_8.out), .inr (Ne.symm D3_9.out), .inr (Ne.symm D3_10.out), trivial⟩ hn trivial)
    clear K0 K1 K2 K3 K4 K5 K6 K7 K8 K9 K10 B lt0 lt1 lt2 lt3 lt4 lt5 lt6 lt7 lt8 lt9 lt10
    rintro σ W6 _ ⟨K0, K1, K2, K3, K4, K5, K6, K7, K8, K9, K10, _⟩ _ _ B
    simp only [slotsOf, finX, nval, nvalN, nvalA, Nat.reduceBEq, cond_true, cond_false, putAll, Act.put, List.setIfInBounds_toArray, List.set_cons_succ, List.set_cons_zero]
    go_upto_region 11 with (fail)
    have lt0 := K0.out.lt
    have lt1 := K1.out.lt
    have lt2 := K2.out.lt
    have lt3 := K3.out.lt
    have lt4 := K4.out.lt
    have lt5 := K5.out.lt
    have lt6 := K6.out.lt
    have lt7 := K7.out.lt
    have lt8 := K8.out.lt
    have lt9 := K9.out.lt
    have lt10 := K10.out.lt
    refine wp_tab [.v 74 (.agg #[.string ⟨#[]⟩, .string ⟨#[]⟩, .string ⟨#[]⟩]), .v 75 (.agg #[.string ⟨#[]⟩, .string ⟨#[]⟩, .string ⟨#[]⟩]), .z, .z, .v 8 (.int .i64 18)] [] [⟨g1_0, #[.string A1, .string A2, .string A3, .string A0, .string S1, .string S2, .string S3], 58, none⟩, ⟨g1_1, #[.string C1, .string C2, .string C3, .string C0], 26, none⟩, ⟨g1_2, #[.string D1, .string D2, .string D3, .string D0], 26, none⟩, ⟨g1_3, #[.string ⟨#[]⟩, .string ⟨#[]⟩, .string ⟨#[]⟩], 24, none⟩, ⟨g1_4, #[.string ⟨#[]⟩, .string ⟨#[]⟩, .string ⟨#[]⟩], 24, none⟩, ⟨g2_5, #[.string S1, .string S2, .string S3], 24, none⟩, ⟨g2_11, #[.int .i64 e1, .int .i64 e2, .int .i64 e3, .int .i64 e4], 31, none⟩, ⟨g3_7, #[.string A1, .string A2, .string A3, .string C1, .string C2, .string C3, .string D1, .string D2, .string D3], 24, none⟩, ⟨g3_11, #[.int .i64 e5, .int .i64 e6], 31, none⟩, ⟨g4_8, #[.string A1, .string A2, .string A3, .string C1, .string C2, .string C3, .string D1, .string D2, .string D3], 105, none⟩, ⟨g5_8, #[.string A0, .string C0, .string D0], 102, none⟩] [] [] [] [] [] (by kernel_rfl) B.out ⟨K0.out, K1.out, K2.out, K3.out, K4.out, K5.out, K6.out, K7.out, K8.out, K9.out, K10.out, trivial⟩ trivial ⟨pu, pu, ?_, ?_, pu, trivial⟩ ?_
    · intro L a U ho J hn d KK k; refine .free rfl ?_; have r6 : a.tmps[(6 : Nat)]?.getD undef = .pointer (some ⟨g1_3, 0, none⟩) := ho.slot 6 rfl; have r74 := J.read 0 rfl (d.get 0 rfl); have kb := (J.eld 3 rfl); have c0 := kb.at_ 0 _ rfl; have z0 := kb.free 0; have c1 := kb.at_ 1 _ rfl; have z1 := kb.free 1; have c2 := kb.at_ 2 _ rfl; have z2 := kb.free 2; clear kb; go_simp; exact k.out undef _ (J.stored 2 3 rfl rfl (.inr ⟨rfl, rfl⟩) rfl rfl 0 [.string ⟨#[]⟩, .string ⟨#[]⟩, .string ⟨#[]⟩] rfl L3.out lt3 ⟨.inr D0_3.out, .inr D1_3.out, .inr D2_3.out, .inl rfl, .inr (Ne.symm D3_4.out), .inr (Ne.symm D3_5.out), .inr (Ne.symm D3_6.out), .inr (Ne.symm D3_7.out), .inr (Ne.symm D3_8.out), .inr (Ne.symm D3_9.out), .inr (Ne.symm D3_10.out), trivial⟩ hn trivial)
    · intro L a U ho J hn d KK k; refine .free rfl ?_; have r7 : a.tmps[(7 : Nat)]?.getD undef = .pointer (some ⟨g1_4, 0, none⟩) := ho.slot 7 rfl; have r75 := J.read 1 rfl (d.get 1 rfl); have kb := (J.eld 4 rfl); have c0 := kb.at_ 0 _ rfl; have z0 := kb.free 0; have c1 := kb.at_ 1 _ rfl; have z1 := kb.free 1; have c2 := kb.at_ 2 _ rfl; have z2 := kb.free 2; clear kb; go_simp; exact k.out undef _ (J.stored 3 4 rfl rfl (.inr ⟨rfl, rfl⟩) rfl rfl 0 [.string ⟨#[]⟩, .string ⟨#[]⟩, .string ⟨#[]⟩] rfl L4.out lt4 ⟨.inr D0_4.out, .inr D1_4.out, .inr D2_4.out, .inr D3_4.out, .inl rfl, .inr (Ne.symm D4_5.out), .inr (Ne.symm D4_6.out), .inr (Ne.symm D4_7.out), .inr (Ne.symm D4_8.out), .inr (Ne.symm D4_9.out), .inr (Ne.symm D4_10.out), trivial⟩ hn trivial)
    clear K0 K1 K2 K3 K4 K5 K6 K7 K8 K9 K10 B lt0 lt1 lt2 lt3 lt4 lt5 lt6 lt7 lt8 lt9 lt10
    rintro σ W7 _ ⟨K0, K1, K2, K3, K4, K5, K6, K7, K8, K9, K10, _⟩ _ _ B
    simp only [slotsOf, finX, nval, nvalN, nvalA, Nat.reduceBEq, cond_true, cond_false, putAll, Act.put, List.setIfInBounds_toArray, List.set_cons_succ, List.set_cons_zero]
    go_wp2
    have c3_0 := K3.out.at_ 0 _ rfl
    have c3_1 := K3.out.at_ 1 _ rfl
    have c3_2 := K3.out.at_ 2 _ rfl
    have c4_0 := K4.out.at_ 0 _ rfl
    have c4_1 := K4.out.at_ 1 _ rfl
    have c4_2 := K4.out.at_ 2 _ rfl
    exact bodyPost_ret (v := .tuple #[.agg #[.string ⟨#[]⟩, .string ⟨#[]⟩, .string ⟨#[]⟩], .agg #[.string ⟨#[]⟩, .string ⟨#[]⟩, .string ⟨#[]⟩], .int .i64 18]) (by simp [results, Tryz.results41, go_sem, c3_0, c3_1, c3_2, c4_0, c4_1, c4_2]) rfl ⟨by first | rfl | (rw [r3 hef hez hok] <;> rfl), B.out⟩
  ·
   have qez : (ez != 0) = true := by simp [hez]
   go_upto_region 6 with (fail)
   have lt0 := K0.out.lt
   have lt1 := K1.out.lt
   have lt2 := K2.out.lt
   have lt3 := K3.out.lt
   have lt4 := K4.out.lt
   have lt5 := K5.out.lt
   have lt6 := K6.out.lt
   have lt7 := K7.out.lt
   have lt8 := K8.out.lt
   refine wp_tab [.v 47 (.agg #[.string ⟨#[]⟩, .string ⟨#[]⟩, .string ⟨#[]⟩]), .v 48 (.agg #[.string ⟨#[]⟩, .string ⟨#[]⟩, .string ⟨#[]⟩]), .v 49 (.int .i64 ez), .z, .z, .v 8 (.int .i64 ez)] [] [⟨g1_0, #[.string A1, .string A2, .string A3, .string A0, .string S1, .string S2, .string S3], 58, none⟩, ⟨g1_1, #[.string C1, .string C2, .string C3, .string C0], 26, none⟩, ⟨g1_2, #[.string D1, .string D2, .string D3, .string D0], 26, none⟩, ⟨g1_3, #[.string ⟨#[]⟩, .string ⟨#[]⟩, .string ⟨#[]⟩], 24, none⟩, ⟨g1_4, #[.string ⟨#[]⟩, .string ⟨#[]⟩, .string ⟨#[]⟩], 24, none⟩, ⟨g2_5, #[.string S1, .string S2, .string S3], 24, none⟩, ⟨g2_11, #[.int .i64 e1, .int .i64 e2, .int .i64 e3, .int .i64 e4], 31, none⟩, ⟨g3_7, #[.string A1, .string A2, .string A3, .string C1, .string C2, .string C3, .string D1, .string D2, .string D3], 24, none⟩, ⟨g3_11, #[.int .i64 e5, .int .i64 e6], 31, none⟩] [] [] [] [] [] (by kernel_rfl) B.out ⟨K0.out, K1.out, K2.out, K3.out, K4.out, K5.out, K6.out, K7.out, K8.out, trivial⟩ trivial ⟨pu, pu, pu, ?_, ?_, pu, trivial⟩ ?_
   · intro L a U ho J hn d KK k; refine .free rfl ?_; have r6 : a.tmps[(6 : Nat)]?.getD undef = .pointer (some ⟨g1_3, 0, none⟩) := ho.slot 6 rfl; have r47 := J.read 0 rfl (d.get 0 rfl); have kb := (J.eld 3 rfl); have c0 := kb.at_ 0 _ rfl; have z0 := kb.free 0; have c1 := kb.at_ 1 _ rfl; have z1 := kb.free 1; have c2 := kb.at_ 2 _ rfl; have z2 := kb.free 2; clear kb; go_simp; exact k.out undef _ (J.stored 3 3 rfl rfl (.inr ⟨rfl, rfl⟩) rfl rfl 0 [.string ⟨#[]⟩, .string ⟨#[]⟩, .string ⟨#[]⟩] rfl L3.out lt3 ⟨.inr D0_3.out, .inr D1_3.out, .inr D2_3.out, .inl rfl, .inr (Ne.symm D3_4.out), .inr (Ne.symm D3_5.out), .inr (Ne.symm D3_6.out), .inr (Ne.symm D3_7.out), .inr (Ne.symm D3_8.out), trivial⟩ hn trivial)
   · intro L a U ho J hn d KK k; refine .free rfl ?_; have r7 : a.tmps[(7 : Nat)]?.getD undef = .pointer (some ⟨g1_4, 0, none⟩) := ho.slot 7 rfl; have r48 := J.read 1 rfl (d.get 1 rfl); have kb := (J.eld 4 rfl); have c0 := kb.at_ 0 _ rfl; have z0 := kb.free 0; have c1 := kb.at_ 1 _ rfl; have z1 := kb.free 1; have c2 := kb.at_ 2 _ rfl; have z2 := kb.free 2; clear kb; go_simp; exact k.out undef _ (J.stored 4 4 rfl rfl (.inr ⟨rfl, rfl⟩) rfl rfl 0 [.string ⟨#[]⟩, .string ⟨#[]⟩, .string ⟨#[]⟩] rfl L4.out lt4 ⟨.inr D0_4.out, .inr D1_4.out, .inr D2_4.out, .inr D3_4.out, .inl rfl, .inr (Ne.symm D4_5.out), .inr (Ne.symm D4_6.out), .inr (Ne.symm D4_7.out), .inr (Ne.symm D4_8.out), trivial⟩ hn trivial)
   clear K0 K1 K2 K3 K4 K5 K6 K7 K8 B lt0 lt1 lt2 lt3 lt4 lt5 lt6 lt7 lt8
   rintro σ W4 _ ⟨K0, K1, K2, K3, K4, K5, K6, K7, K8, _⟩ _ _ B
   simp only [slotsOf, finX, nval, nvalN, nvalA, Nat.reduceBEq, cond_true, cond_false, putAll, Act.put, List.setIfInBounds_toArray, List.set_cons_succ, List.set_cons_zero]
   go_wp2
   have c3_0 := K3.out.at_ 0 _ rfl
   have c3_1 := K3.out.at_ 1 _ rfl
   have c3_2 := K3.out.at_ 2 _ rfl
   have c4_0 := K4.out.at_ 0 _ rfl
   have c4_1 := K4.out.at_ 1 _ rfl
   have c4_2 := K4.out.at_ 2 _ rfl
   exact bodyPost_ret (v := .tuple #[.agg #[.string ⟨#[]⟩, .string ⟨#[]⟩, .string ⟨#[]⟩], .agg #[.string ⟨#[]⟩, .string ⟨#[]⟩, .string ⟨#[]⟩], .int .i64 ez]) (by simp [results, Tryz.results41, go_sem, c3_0, c3_1, c3_2, c4_0, c4_1, c4_2]) rfl ⟨by first | rfl | (rw [r2 hef hez] <;> rfl), B.out⟩
 ·
  have qef : (ef != 0) = true := by simp [hef]
  go_upto_region 3 with (fail)
  have lt0 := K0.out.lt
  have lt1 := K1.out.lt
  have lt2 := K2.out.lt
  have lt3 := K3.out.lt
  have lt4 := K4.out.lt
  have lt5 := K5.out.lt
  have lt6 := K6.out.lt
  refine wp_tab [.v 29 (.agg #[.string ⟨#[]⟩, .string ⟨#[]⟩, .string ⟨#[]⟩]), .v 30 (.agg #[.string ⟨#[]⟩, .string ⟨#[]⟩, .string ⟨#[]⟩]), .v 31 (.int .i64 ef), .z, .z, .v 8 (.int .i64 ef)] [] [⟨g1_0, #[.string A1, .string A2, .string A3, .string A0, .string S1, .string S2, .string S3], 58, none⟩, ⟨g1_1, #[.string C1, .string C2, .string C3, .string C0], 26, none⟩, ⟨g1_2, #[.string D1, .string D2, .string D3, .string D0], 26, none⟩, ⟨g1_3, #[.string ⟨#[]⟩, .string ⟨#[]⟩, .string ⟨#[]⟩], 24, none⟩, ⟨g1_4, #[.string ⟨#[]⟩, .string ⟨#[]⟩, .string ⟨#[]⟩], 24, none⟩, ⟨g2_5, #[.string S1, .string S2, .string S3], 24, none⟩, ⟨g2_11, #[.int .i64 e1, .int .i64 e2, .int .i64 e3, .int .i64 e4], 31, none⟩] [] [] [] [] [] (by kernel_rfl) B.out ⟨K0.out, K1.out, K2.out, K3.out, K4.out, K5.out, K6.out, trivial⟩ trivial ⟨pu, pu, pu, ?_, ?_, pu, trivial⟩ ?_
  · intro L a U ho J hn d KK k; refine .free rfl ?_; have r6 : a.tmps[(6 : Nat)]?.getD undef = .pointer (some ⟨g1_3, 0, none⟩) := ho.slot 6 rfl; have r29 := J.read 0 rfl (d.get 0 rfl); have kb := (J.eld 3 rfl); have c0 := kb.at_ 0 _ rfl; have z0 := kb.free 0; have c1 := kb.at_ 1 _ rfl; have z1 := kb.free 1; have c2 := kb.at_ 2 _ rfl; have z2 := kb.free 2; clear kb; go_simp; exact k.out undef _ (J.stored 3 3 rfl rfl (.inr ⟨rfl, rfl⟩) rfl rfl 0 [.string ⟨#[]⟩, .string ⟨#[]⟩, .string ⟨#[]⟩] rfl L3.out lt3 ⟨.inr D0_3.out, .inr D1_3.out, .inr D2_3.out, .inl rfl, .inr (Ne.symm D3_4.out), .inr (Ne.symm D3_5.out), .inr (Ne.symm D3_6.out), trivial⟩ hn trivial)
  · intro L a U ho J hn d KK k; refine .free rfl ?_; have r7 : a.tmps[(7 : Nat)]?.getD undef = .pointer (some ⟨g1_4, 0, none⟩) := ho.slot 7 rfl; have r30 := J.read 1 rfl (d.get 1 rfl); have kb := (J.eld 4 rfl); have c0 := kb.at_ 0 _ rfl; have z0 := kb.free 0; have c1 := kb.at_ 1 _ rfl; have z1 := kb.free 1; have c2 := kb.at_ 2 _ rfl; have z2 := kb.free 2; clear kb; go_simp; exact k.out undef _ (J.stored 4 4 rfl rfl (.inr ⟨rfl, rfl⟩) rfl rfl 0 [.string ⟨#[]⟩, .string ⟨#[]⟩, .string ⟨#[]⟩] rfl L4.out lt4 ⟨.inr D0_4.out, .inr D1_4.out, .inr D2_4.out, .inr D3_4.out, .inl rfl, .inr (Ne.symm D4_5.out), .inr (Ne.symm D4_6.out), trivial⟩ hn trivial)
  clear K0 K1 K2 K3 K4 K5 K6 B lt0 lt1 lt2 lt3 lt4 lt5 lt6
  rintro σ W3 _ ⟨K0, K1, K2, K3, K4, K5, K6, _⟩ _ _ B
  simp only [slotsOf, finX, nval, nvalN, nvalA, Nat.reduceBEq, cond_true, cond_false, putAll, Act.put, List.setIfInBounds_toArray, List.set_cons_succ, List.set_cons_zero]
  go_wp2
  have c3_0 := K3.out.at_ 0 _ rfl
  have c3_1 := K3.out.at_ 1 _ rfl
  have c3_2 := K3.out.at_ 2 _ rfl
  have c4_0 := K4.out.at_ 0 _ rfl
  have c4_1 := K4.out.at_ 1 _ rfl
  have c4_2 := K4.out.at_ 2 _ rfl
  exact bodyPost_ret (v := .tuple #[.agg #[.string ⟨#[]⟩, .string ⟨#[]⟩, .string ⟨#[]⟩], .agg #[.string ⟨#[]⟩, .string ⟨#[]⟩, .string ⟨#[]⟩], .int .i64 ef]) (by simp [results, Tryz.results41, go_sem, c3_0, c3_1, c3_2, c4_0, c4_1, c4_2]) rfl ⟨by first | rfl | (rw [r1 hef] <;> rfl), B.out⟩

end Go.Proofs.YtopilnlniidejaaGreatDoor
