/- The walks of the laws of klippelaw42, over texts: SlipReturns. -/
import Derived.Test.YtopilnlniidejaaGreatDoorPar5
import Derived.Test.YtopilnlniidejaaGreatDoorElems2
import Derived.Test.YtopilnlniidejaaGreatDoorShelf
import Derived.Test.YtopilnlniidejaaGreatDoorGPar
import Derived.Deep.RegionHeld3
import Derived.Laws.ResultCell
import Derived.Deep.Cut
import Derived.Deep.CutRange
import Derived.Deep.DeepCutAuto
import Derived.Outline
namespace Go.Proofs.YtopilnlniidejaaGreatDoor
set_option linter.all false
open Go.RowKit

set_option maxRecDepth 100000 in
set_option maxHeartbeats 20000000 in
theorem returns_of {A1 A2 A3 A0 S1 S2 S3 C1 C2 C3 C0 D1 D2 D3 D0 PC PD MC MD X1 X2 X3 Y1 Y2 Y3 : ByteArray} {x y z t s d : Int} {sl sp : Bool} {xa ya za ta xb yb zb tb : Int} {ok okp : Bool} (w : World)
  (h_kn : Ret Tryz.prog w 11 #[] (.bool true))
  (h_mk : Ret Tryz.prog w 27 #[.agg #[.int .i8 x, .int .i8 y, .int .i8 z, .int .i8 t, .int .i8 s, .int .i8 d, .bool sl, .bool sp]] (.agg #[.string A1, .string A2, .string A3, .string A0, .string S1, .string S2, .string S3]))
  (h_pa : Ret Tryz.prog w 28 #[.agg #[.int .i8 xa, .int .i8 ya, .int .i8 za, .int .i8 ta]] (.agg #[.string C1, .string C2, .string C3, .string C0]))
  (h_pb : Ret Tryz.prog w 28 #[.agg #[.int .i8 xb, .int .i8 yb, .int .i8 zb, .int .i8 tb]] (.agg #[.string D1, .string D2, .string D3, .string D0]))
  (h_da : Ret Tryz.prog w 17 #[.agg #[.string C1, .string C2, .string C3], .agg #[.string S1, .string S2, .string S3]] (.string PC))
  (h_aa : Ret Tryz.prog w 29 #[.string C0, .string PC] (.string MC))
  (h_db : Ret Tryz.prog w 17 #[.agg #[.string D1, .string D2, .string D3], .agg #[.string S1, .string S2, .string S3]] (.string PD))
  (h_ab : Ret Tryz.prog w 29 #[.string D0, .string PD] (.string MD))
  (h_so : ok = true → Ret Tryz.prog w 13 #[.agg #[.string A1, .string A2, .string A3, .string A0], .agg #[.string C1, .string C2, .string C3, .string C0, .string MC], .agg #[.string D1, .string D2, .string D3, .string D0, .string MD]] (.tuple #[.agg #[.string S1, .string S2, .string S3], .int .i64 0]) := by intros; contradiction)
  (h_se : ok = false → Ret Tryz.prog w 13 #[.agg #[.string A1, .string A2, .string A3, .string A0], .agg #[.string C1, .string C2, .string C3, .string C0, .string MC], .agg #[.string D1, .string D2, .string D3, .string D0, .string MD]] (.tuple #[.agg #[.string ⟨#[]⟩, .string ⟨#[]⟩, .string ⟨#[]⟩], .int .i64 18]) := by intros; contradiction)
  (h_sp : Ret Tryz.prog w 30 #[.int .i64 1, .int .i64 2, .int .i64 3] (.agg #[.string X1, .string X2, .string X3]))
  (h_an : Ret Tryz.prog w 23 #[.agg #[.string X1, .string X2, .string X3], .agg #[.string S1, .string S2, .string S3]] (.agg #[.string Y1, .string Y2, .string Y3]))
  (h_po : okp = true → Ret Tryz.prog w 21 #[.agg #[.string A1, .string A2, .string A3, .string A0], .agg #[.string X1, .string X2, .string X3, .string C1, .string C2, .string C3], .agg #[.string Y1, .string Y2, .string Y3, .string C1, .string C2, .string C3]] (.tuple #[.agg #[.string S1, .string S2, .string S3], .int .i64 0]) := by intros; contradiction)
  (h_pe : okp = false → Ret Tryz.prog w 21 #[.agg #[.string A1, .string A2, .string A3, .string A0], .agg #[.string X1, .string X2, .string X3, .string C1, .string C2, .string C3], .agg #[.string Y1, .string Y2, .string Y3, .string C1, .string C2, .string C3]] (.tuple #[.agg #[.string ⟨#[]⟩, .string ⟨#[]⟩, .string ⟨#[]⟩], .int .i64 18]) := by intros; contradiction) :
  Calls Tryz.prog 5 #[.agg #[.int .i8 x, .int .i8 y, .int .i8 z, .int .i8 t, .int .i8 s, .int .i8 d, .bool sl, .bool sp], .agg #[.int .i8 xa, .int .i8 ya, .int .i8 za, .int .i8 ta], .agg #[.int .i8 xb, .int .i8 yb, .int .i8 zb, .int .i8 tb]] w fun e w' => e = .returned (.bool true) ∧ Below w.heap.size w w' := by
 have H_KN := Lib.hid h_kn
 have H_MK := Lib.hid h_mk
 have H_PA := Lib.hid h_pa
 have H_PB := Lib.hid h_pb
 have H_DA := Lib.hid h_da
 have H_AA := Lib.hid h_aa
 have H_DB := Lib.hid h_db
 have H_AB := Lib.hid h_ab
 have H_SP := Lib.hid h_sp
 have H_AN := Lib.hid h_an
 clear h_kn h_mk h_pa h_pb h_da h_aa h_db h_ab h_sp h_an
 have B := Lib.hid (Below.refl w.heap.size w)
 go_enter Tryz.func5, Tryz.ntmps5
 go_upto_region 0 with (fail)
 refine wp_tab [.n 3, .n 4, .n 5, .v 6 (.bool false)] [⟨0, 3, fun g => .pointer (some ⟨g, 0, none⟩), #[.int .i8 x, .int .i8 y, .int .i8 z, .int .i8 t, .int .i8 s, .int .i8 d, .bool sl, .bool sp], 56, none⟩, ⟨1, 4, fun g => .pointer (some ⟨g, 0, none⟩), #[.int .i8 xa, .int .i8 ya, .int .i8 za, .int .i8 ta], 54, none⟩, ⟨2, 5, fun g => .pointer (some ⟨g, 0, none⟩), #[.int .i8 xb, .int .i8 yb, .int .i8 zb, .int .i8 tb], 54, none⟩] [] [] [] [] [] [] (by kernel_rfl) B.out trivial trivial ⟨ml 0, ml 1, ml 2, pu, trivial⟩ ?_
 clear B
 rintro σ W1 ⟨⟨L0, K0⟩, ⟨L1, K1⟩, ⟨L2, K2⟩, _⟩ _ _ _ B
 simp only [slotsOf, finX, nval, nvalN, nvalA, Nat.reduceBEq, cond_true, cond_false, putAll, Act.put, List.setIfInBounds_toArray, List.set_cons_succ, List.set_cons_zero]
 generalize blkOf (σ 3) = g1_0 at *
 generalize blkOf (σ 4) = g1_1 at *
 generalize blkOf (σ 5) = g1_2 at *
 go_upto_region 3 with (
  (first
  | (go_at_call 11; with_reducible refine (H_KN.out _ (baseI B.out)).mono ?_)
  | fail "arm"); rintro e wx ⟨rfl, q⟩; replace K0 := Lib.hid (K0.out.nearI q); replace K1 := Lib.hid (K1.out.nearI q); replace K2 := Lib.hid (K2.out.nearI q); replace B := Lib.hid (goI B.out q); clear q)
 have lt0 := K0.out.lt
 have lt1 := K1.out.lt
 have lt2 := K2.out.lt
 refine wp_tab [.v 20 (.agg #[.int .i8 x, .int .i8 y, .int .i8 z, .int .i8 t, .int .i8 s, .int .i8 d, .bool sl, .bool sp]), .v 21 (.agg #[.string A1, .string A2, .string A3, .string A0, .string S1, .string S2, .string S3]), .n 7, .z] [⟨2, 7, fun g => .pointer (some ⟨g, 0, none⟩), #[.string ⟨#[]⟩, .string ⟨#[]⟩, .string ⟨#[]⟩, .string ⟨#[]⟩, .string ⟨#[]⟩, .string ⟨#[]⟩, .string ⟨#[]⟩], 58, some (3, #[.string A1, .string A2, .string A3, .string A0, .string S1, .string S2, .string S3])⟩] [⟨g1_0, #[.int .i8 x, .int .i8 y, .int .i8 z, .int .i8 t, .int .i8 s, .int .i8 d, .bool sl, .bool sp], 56, none⟩, ⟨g1_1, #[.int .i8 xa, .int .i8 ya, .int .i8 za, .int .i8 ta], 54, none⟩, ⟨g1_2, #[.int .i8 xb, .int .i8 yb, .int .i8 zb, .int .i8 tb], 54, none⟩] [] [(3, 2)] [] [] [] (by kernel_rfl) B.out ⟨K0.out, K1.out, K2.out, trivial⟩ trivial ⟨ld 0 0, cl H_MK.out, ml 0, ?_, trivial⟩ ?_
 · intro L a U ho J hn d KK k; refine .free rfl ?_; have r7 : a.tmps[(7 : Nat)]?.getD undef = .pointer (some ⟨(blkOf (slotOf a 7)), 0, none⟩) := J.readN 0 rfl (d.get 2 rfl); have r21 := J.read 1 rfl (d.get 1 rfl); have kb := (J.nwB 0 rfl (d.get 2 rfl) hn).blk; have c0 := kb.at_ 0 _ rfl; have z0 := kb.free 0; have c1 := kb.at_ 1 _ rfl; have z1 := kb.free 1; have c2 := kb.at_ 2 _ rfl; have z2 := kb.free 2; have c3 := kb.at_ 3 _ rfl; have z3 := kb.free 3; have c4 := kb.at_ 4 _ rfl; have z4 := kb.free 4; have c5 := kb.at_ 5 _ rfl; have z5 := kb.free 5; have c6 := kb.at_ 6 _ rfl; have z6 := kb.free 6; clear kb; go_simp; exact k.out undef _ (J.storedN 3 0 rfl rfl rfl rfl rfl 0 [.string A1, .string A2, .string A3, .string A0, .string S1, .string S2, .string S3] rfl ⟨lt0, lt1, lt2, trivial⟩ (d.get 2 rfl) hn ⟨.inr (d.get 2 rfl), trivial⟩)
 clear K0 K1 K2 B lt0 lt1 lt2
 rintro σ W2 ⟨⟨L3, K3⟩, _⟩ ⟨K0, K1, K2, _⟩ _ _ B
 simp only [slotsOf, finX, nval, nvalN, nvalA, Nat.reduceBEq, cond_true, cond_false, putAll, Act.put, List.setIfInBounds_toArray, List.set_cons_succ, List.set_cons_zero]
 generalize blkOf (σ 7) = g2_2 at *
 go_upto_region 5 with (fail)
 refine wp_tab [.v 22 (.agg #[.int .i8 xa, .int .i8 ya, .int .i8 za, .int .i8 ta]), .v 23 (.agg #[.int .i8 xb, .int .i8 yb, .int .i8 zb, .int .i8 tb]), .n 24, .v 25 (.int .i64 2), .v 26 (.int .i64 0)] [⟨2, 24, fun g => .slice (some ⟨g, 0, none⟩) 2 2, #[.int .i8 xa, .int .i8 ya, .int .i8 za, .int .i8 ta, .int .i8 xb, .int .i8 yb, .int .i8 zb, .int .i8 tb], 54, none⟩] [⟨g1_0, #[.int .i8 x, .int .i8 y, .int .i8 z, .int .i8 t, .int .i8 s, .int .i8 d, .bool sl, .bool sp], 56, none⟩, ⟨g1_1, #[.int .i8 xa, .int .i8 ya, .int .i8 za, .int .i8 ta], 54, none⟩, ⟨g1_2, #[.int .i8 xb, .int .i8 yb, .int .i8 zb, .int .i8 tb], 54, none⟩, ⟨g2_2, #[.string A1, .string A2, .string A3, .string A0, .string S1, .string S2, .string S3], 58, none⟩] [] [] [] [] [] (by kernel_rfl) B.out ⟨K0.out, K1.out, K2.out, K3.out, trivial⟩ trivial ⟨ld 1 0, ld 2 0, ml 0, pu, pu, trivial⟩ ?_
 clear K0 K1 K2 K3 B
 rintro σ W3 ⟨⟨L4, K4⟩, _⟩ ⟨K0, K1, K2, K3, _⟩ _ _ B
 simp only [slotsOf, finX, nval, nvalN, nvalA, Nat.reduceBEq, cond_true, cond_false, putAll, Act.put, List.setIfInBounds_toArray, List.set_cons_succ, List.set_cons_zero]
 generalize blkOf (σ 24) = g3_2 at *
 go_wp2
 refine wp_loop_rounds 3 ?_
 rw [rounds_succ]
 go_upto_region 7 with (fail)
 have lt0 := K0.out.lt
 have lt1 := K1.out.lt
 have lt2 := K2.out.lt
 have lt3 := K3.out.lt
 have lt4 := K4.out.lt
 refine wp_tab [.v 28 (.pointer (some ⟨g3_2, 0, none⟩)), .v 29 (.agg #[.int .i8 xa, .int .i8 ya, .int .i8 za, .int .i8 ta]), .n 10, .z] [⟨2, 10, fun g => .pointer (some ⟨g, 0, none⟩), #[.int .i8 0, .int .i8 0, .int .i8 0, .int .i8 0], 54, some (3, #[.int .i8 xa, .int .i8 ya, .int .i8 za, .int .i8 ta])⟩] [⟨g1_0, #[.int .i8 x, .int .i8 y, .int .i8 z, .int .i8 t, .int .i8 s, .int .i8 d, .bool sl, .bool sp], 56, none⟩, ⟨g1_1, #[.int .i8 xa, .int .i8 ya, .int .i8 za, .int .i8 ta], 54, none⟩, ⟨g1_2, #[.int .i8 xb, .int .i8 yb, .int .i8 zb, .int .i8 tb], 54, none⟩, ⟨g2_2, #[.string A1, .string A2, .string A3, .string A0, .string S1, .string S2, .string S3], 58, none⟩, ⟨g3_2, #[.int .i8 xa, .int .i8 ya, .int .i8 za, .int .i8 ta, .int .i8 xb, .int .i8 yb, .int .i8 zb, .int .i8 tb], 54, none⟩] [] [(3, 2)] [] [] [] (by kernel_rfl) B.out ⟨K0.out, K1.out, K2.out, K3.out, K4.out, trivial⟩ trivial ⟨pu, ld 4 0, ml 0, ?_, trivial⟩ ?_
 · intro L a U ho J hn d KK k; refine .free rfl ?_; have r10 : a.tmps[(10 : Nat)]?.getD undef = .pointer (some ⟨(blkOf (slotOf a 10)), 0, none⟩) := J.readN 0 rfl (d.get 2 rfl); have r29 := J.read 1 rfl (d.get 1 rfl); have kb := (J.nwB 0 rfl (d.get 2 rfl) hn).blk; have c0 := kb.at_ 0 _ rfl; have z0 := kb.free 0; have c1 := kb.at_ 1 _ rfl; have z1 := kb.free 1; have c2 := kb.at_ 2 _ rfl; have z2 := kb.free 2; have c3 := kb.at_ 3 _ rfl; have z3 := kb.free 3; clear kb; go_simp; exact k.out undef _ (J.storedN 3 0 rfl rfl rfl rfl rfl 0 [.int .i8 xa, .int .i8 ya, .int .i8 za, .int .i8 ta] rfl ⟨lt0, lt1, lt2, lt3, lt4, trivial⟩ (d.get 2 rfl) hn ⟨.inr (d.get 2 rfl), trivial⟩)
 clear K0 K1 K2 K3 K4 B lt0 lt1 lt2 lt3 lt4
 rintro σ W4 ⟨⟨L5, K5⟩, _⟩ ⟨K0, K1, K2, K3, K4, _⟩ _ _ B
 simp only [slotsOf, finX, nval, nvalN, nvalA, Nat.reduceBEq, cond_true, cond_false, putAll, Act.put, List.setIfInBounds_toArray, List.set_cons_succ, List.set_cons_zero]
 generalize blkOf (σ 10) = g4_2 at *
 go_upto_region 8 with (fail)
 have lt0 := K0.out.lt
 have lt1 := K1.out.lt
 have lt2 := K2.out.lt
 have lt3 := K3.out.lt
 have lt4 := K4.out.lt
 have lt5 := K5.out.lt
 refine wp_tab [.v 30 (.agg #[.int .i8 xa, .int .i8 ya, .int .i8 za, .int .i8 ta]), .v 31 (.agg #[.string C1, .string C2, .string C3, .string C0]), .n 11, .z] [⟨2, 11, fun g => .pointer (some ⟨g, 0, none⟩), #[.string ⟨#[]⟩, .string ⟨#[]⟩, .string ⟨#[]⟩, .string ⟨#[]⟩], 26, some (3, #[.string C1, .string C2, .string C3, .string C0])⟩] [⟨g1_0, #[.int .i8 x, .int .i8 y, .int .i8 z, .int .i8 t, .int .i8 s, .int .i8 d, .bool sl, .bool sp], 56, none⟩, ⟨g1_1, #[.int .i8 xa, .int .i8 ya, .int .i8 za, .int .i8 ta], 54, none⟩, ⟨g1_2, #[.int .i8 xb, .int .i8 yb, .int .i8 zb, .int .i8 tb], 54, none⟩, ⟨g2_2, #[.string A1, .string A2, .string A3, .string A0, .string S1, .string S2, .string S3], 58, none⟩, ⟨g3_2, #[.int .i8 xa, .int .i8 ya, .int .i8 za, .int .i8 ta, .int .i8 xb, .int .i8 yb, .int .i8 zb, .int .i8 tb], 54, none⟩, ⟨g4_2, #[.int .i8 xa, .int .i8 ya, .int .i8 za, .int .i8 ta], 54, none⟩] [] [(3, 2)] [] [] [] (by kernel_rfl) B.out ⟨K0.out, K1.out, K2.out, K3.out, K4.out, K5.out, trivial⟩ trivial ⟨ld 5 0, cl H_PA.out, ml 0, ?_, trivial⟩ ?_
 · intro L a U ho J hn d KK k; refine .free rfl ?_; have r11 : a.tmps[(11 : Nat)]?.getD undef = .pointer (some ⟨(blkOf (slotOf a 11)), 0, none⟩) := J.readN 0 rfl (d.get 2 rfl); have r31 := J.read 1 rfl (d.get 1 rfl); have kb := (J.nwB 0 rfl (d.get 2 rfl) hn).blk; have c0 := kb.at_ 0 _ rfl; have z0 := kb.free 0; have c1 := kb.at_ 1 _ rfl; have z1 := kb.free 1; have c2 := kb.at_ 2 _ rfl; have z2 := kb.free 2; have c3 := kb.at_ 3 _ rfl; have z3 := kb.free 3; clear kb; go_simp; exact k.out undef _ (J.storedN 3 0 rfl rfl rfl rfl rfl 0 [.string C1, .string C2, .string C3, .string C0] rfl ⟨lt0, lt1, lt2, lt3, lt4, lt5, trivial⟩ (d.get 2 rfl) hn ⟨.inr (d.get 2 rfl), trivial⟩)
 clear K0 K1 K2 K3 K4 K5 B lt0 lt1 lt2 lt3 lt4 lt5
 rintro σ W5 ⟨⟨L6, K6⟩, _⟩ ⟨K0, K1, K2, K3, K4, K5, _⟩ _ _ B
 simp only [slotsOf, finX, nval, nvalN, nvalA, Nat.reduceBEq, cond_true, cond_false, putAll, Act.put, List.setIfInBounds_toArray, List.set_cons_succ, List.set_cons_zero]
 generalize blkOf (σ 11) = g5_2 at *
 go_upto_region 9 with (fail)
 refine wp_tab_app [.v 32 (.slice none 0 0), .v 33 (.agg #[.string C1, .string C2, .string C3, .string C0]), .v 34 (.pointer (some ⟨g5_2, 3, none⟩)), .v 35 (.string C0), .v 36 (.pointer (some ⟨g5_2, 0, none⟩)), .v 37 (.agg #[.string C1, .string C2, .string C3]), .v 38 (.pointer (some ⟨g2_2, 4, none⟩)), .v 39 (.agg #[.string S1, .string S2, .string S3]), .v 40 (.string PC), .v 41 (.string MC), .v 42 (.agg #[.string C1, .string C2, .string C3, .string C0, .string MC]), .n 43] [⟨11, 43, fun g => .slice (some ⟨g, 0, none⟩) 1 1, #[.string C1, .string C2, .string C3, .string C0, .string MC], 35, none⟩] [⟨g1_0, #[.int .i8 x, .int .i8 y, .int .i8 z, .int .i8 t, .int .i8 s, .int .i8 d, .bool sl, .bool sp], 56, none⟩, ⟨g1_1, #[.int .i8 xa, .int .i8 ya, .int .i8 za, .int .i8 ta], 54, none⟩, ⟨g1_2, #[.int .i8 xb, .int .i8 yb, .int .i8 zb, .int .i8 tb], 54, none⟩, ⟨g2_2, #[.string A1, .string A2, .string A3, .string A0, .string S1, .string S2, .string S3], 58, none⟩, ⟨g3_2, #[.int .i8 xa, .int .i8 ya, .int .i8 za, .int .i8 ta, .int .i8 xb, .int .i8 yb, .int .i8 zb, .int .i8 tb], 54, none⟩, ⟨g4_2, #[.int .i8 xa, .int .i8 ya, .int .i8 za, .int .i8 ta], 54, none⟩, ⟨g5_2, #[.string C1, .string C2, .string C3, .string C0], 26, none⟩] [] [] [] [] [] [11, 10, 9, 8, 7, 6, 5, 4, 3, 2, 1, 0] 44 8 _ _ (by kernel_rfl) rfl rfl rfl rfl rfl rfl rfl (by kernel_rfl) B.out ⟨K0.out, K1.out, K2.out, K3.out, K4.out, K5.out, K6.out, trivial⟩ trivial ⟨pu, ld 6 0, pu, ld 6 3, pu, ld 6 0, pu, ld 3 4, cl H_DA.out, cl H_AA.out, pu, ml 0, trivial⟩ ?_
 clear K0 K1 K2 K3 K4 K5 K6 B
 rintro σ W6 ⟨⟨L7, K7⟩, _⟩ ⟨K0, K1, K2, K3, K4, K5, K6, _⟩ _ _ B
 simp only [slotsOf, finX, nval, nvalN, nvalA, Nat.reduceBEq, cond_true, cond_false, putAll, Act.put, List.setIfInBounds_toArray, List.set_cons_succ, List.set_cons_zero]
 generalize blkOf (σ 43) = g6_11 at *
 refine app0_k ElS (.tmp 32) (.tmp 43) rfl rfl [.string C1, .string C2, .string C3, .string C0, .string MC] rfl rfl K7.out (by simp [Value.oneCell']) ?_
 intro ga1 qa1 ra1 wp1 kk lg mm qq
 have K8 := Lib.hid (show Blk wp1 ga1 (List.toArray (.string C1 :: .string C2 :: .string C3 :: .string C0 :: .string MC :: ra1)) 35 from kk)
 have M8 := Lib.hid mm
 have D0_8 := Lib.hid (Nat.ne_of_lt (Nat.lt_of_lt_of_le K0.out.lt lg))
 replace K0 := Lib.hid (K0.out.grown qq (fun h => by cases h))
 have D1_8 := Lib.hid (Nat.ne_of_lt (Nat.lt_of_lt_of_le K1.out.lt lg))
 replace K1 := Lib.hid (K1.out.grown qq (fun h => by cases h))
 have D2_8 := Lib.hid (Nat.ne_of_lt (Nat.lt_of_lt_of_le K2.out.lt lg))
 replace K2 := Lib.hid (K2.out.grown qq (fun h => by cases h))
 have D3_8 := Lib.hid (Nat.ne_of_lt (Nat.lt_of_lt_of_le K3.out.lt lg))
 replace K3 := Lib.hid (K3.out.grown qq (fun h => by cases h))
 have D4_8 := Lib.hid (Nat.ne_of_lt (Nat.lt_of_lt_of_le K4.out.lt lg))
 replace K4 := Lib.hid (K4.out.grown qq (fun h => by cases h))
 have D5_8 := Lib.hid (Nat.ne_of_lt (Nat.lt_of_lt_of_le K5.out.lt lg))
 replace K5 := Lib.hid (K5.out.grown qq (fun h => by cases h))
 have D6_8 := Lib.hid (Nat.ne_of_lt (Nat.lt_of_lt_of_le K6.out.lt lg))
 replace K6 := Lib.hid (K6.out.grown qq (fun h => by cases h))
 have L8 := Lib.hid (Nat.le_trans B.out.size lg)
 replace B := Lib.hid (below_app0 B.out qq B.out.size)
 clear kk lg mm qq
 clear K7
 try simp only [Act.put, List.setIfInBounds_toArray, List.set_cons_succ, List.set_cons_zero]
 go_wp2
 rw [rounds_succ]
 go_upto_region 7 with (fail)
 have lt0 := K0.out.lt
 have lt1 := K1.out.lt
 have lt2 := K2.out.lt
 have lt3 := K3.out.lt
 have lt4 := K4.out.lt
 have lt5 := K5.out.lt
 have lt6 := K6.out.lt
 have lt8 := K8.out.lt
 refine wp_tab [.v 28 (.pointer (some ⟨g3_2, 4, none⟩)), .v 29 (.agg #[.int .i8 xb, .int .i8 yb, .int .i8 zb, .int .i8 tb]), .n 10, .z] [⟨2, 10, fun g => .pointer (some ⟨g, 0, none⟩), #[.int .i8 0, .int .i8 0, .int .i8 0, .int .i8 0], 54, some (3, #[.int .i8 xb, .int .i8 yb, .int .i8 zb, .int .i8 tb])⟩] [⟨g1_0, #[.int .i8 x, .int .i8 y, .int .i8 z, .int .i8 t, .int .i8 s, .int .i8 d, .bool sl, .bool sp], 56, none⟩, ⟨g1_1, #[.int .i8 xa, .int .i8 ya, .int .i8 za, .int .i8 ta], 54, none⟩, ⟨g1_2, #[.int .i8 xb, .int .i8 yb, .int .i8 zb, .int .i8 tb], 54, none⟩, ⟨g2_2, #[.string A1, .string A2, .string A3, .string A0, .string S1, .string S2, .string S3], 58, none⟩, ⟨g3_2, #[.int .i8 xa, .int .i8 ya, .int .i8 za, .int .i8 ta, .int .i8 xb, .int .i8 yb, .int .i8 zb, .int .i8 tb], 54, none⟩, ⟨g4_2, #[.int .i8 xa, .int .i8 ya, .int .i8 za, .int .i8 ta], 54, none⟩, ⟨g5_2, #[.string C1, .string C2, .string C3, .string C0], 26, none⟩, ⟨ga1, (List.toArray (.string C1 :: .string C2 :: .string C3 :: .string C0 :: .string MC :: ra1)), 35, none⟩] [] [(3, 2)] [] [(7, 0)] [] (by kernel_rfl) B.out ⟨K0.out, K1.out, K2.out, K3.out, K4.out, K5.out, K6.out, K8.out, trivial⟩ trivial ⟨pu, ld 4 4, ml 0, ?_, trivial⟩ ?_
 · intro L a U ho J hn d KK k; refine .free rfl ?_; have r10 : a.tmps[(10 : Nat)]?.getD undef = .pointer (some ⟨(blkOf (slotOf a 10)), 0, none⟩) := J.readN 0 rfl (d.get 2 rfl); have r29 := J.read 1 rfl (d.get 1 rfl); have kb := (J.nwB 0 rfl (d.get 2 rfl) hn).blk; have c0 := kb.at_ 0 _ rfl; have z0 := kb.free 0; have c1 := kb.at_ 1 _ rfl; have z1 := kb.free 1; have c2 := kb.at_ 2 _ rfl; have z2 := kb.free 2; have c3 := kb.at_ 3 _ rfl; have z3 := kb.free 3; clear kb; go_simp; exact k.out undef _ (J.storedN 3 0 rfl rfl rfl rfl rfl 0 [.int .i8 xb, .int .i8 yb, .int .i8 zb, .int .i8 tb] rfl ⟨lt0, lt1, lt2, lt3, lt4, lt5, lt6, lt8, trivial⟩ (d.get 2 rfl) hn ⟨.inr (d.get 2 rfl), trivial⟩)
 clear K0 K1 K2 K3 K4 K5 K6 K8 B lt0 lt1 lt2 lt3 lt4 lt5 lt6 lt8
 rintro σ W7 ⟨⟨L9, K9⟩, _⟩ ⟨K0, K1, K2, K3, K4, K5, K6, K8, _⟩ ⟨x0, _⟩ _ B
 have D8_9 : Hid (ga1 ≠ blkOf (σ 10)) := x0
 clear x0
 simp only [slotsOf, finX, nval, nvalN, nvalA, Nat.reduceBEq, cond_true, cond_false, putAll, Act.put, List.setIfInBounds_toArray, List.set_cons_succ, List.set_cons_zero]
 generalize blkOf (σ 10) = g7_2 at *
 go_upto_region 8 with (fail)
 have lt0 := K0.out.lt
 have lt1 := K1.out.lt
 have lt2 := K2.out.lt
 have lt3 := K3.out.lt
 have lt4 := K4.out.lt
 have lt5 := K5.out.lt
 have lt6 := K6.out.lt
 have lt8 := K8.out.lt
 have lt9 := K9.out.lt
 refine wp_tab [.v 30 (.agg #[.int .i8 xb, .int .i8 yb, .int .i8 zb, .int .i8 tb]), .v 31 (.agg #[.string D1, .string D2, .string D3, .string D0]), .n 11, .z] [⟨2, 11, fun g => .pointer (some ⟨g, 0, none⟩), #[.string ⟨#[]⟩, .string ⟨#[]⟩, .string ⟨#[]⟩, .string ⟨#[]⟩], 26, some (3, #[.string D1, .string D2, .string D3, .string D0])⟩] [⟨g1_0, #[.int .i8 x, .int .i8 y, .int .i8 z, .int .i8 t, .int .i8 s, .int .i8 d, .bool sl, .bool sp], 56, none⟩, ⟨g1_1, #[.int .i8 xa, .int .i8 ya, .int .i8 za, .int .i8 ta], 54, none⟩, ⟨g1_2, #[.int .i8 xb, .int .i8 yb, .int .i8 zb, .int .i8 tb], 54, none⟩, ⟨g2_2, #[.string A1, .string A2, .string A3, .string A0, .string S1, .string S2, .string S3], 58, none⟩, ⟨g3_2, #[.int .i8 xa, .int .i8 ya, .int .i8 za, .int .i8 ta, .int .i8 xb, .int .i8 yb, .int .i8 zb, .int .i8 tb], 54, none⟩, ⟨g4_2, #[.int .i8 xa, .int .i8 ya, .int .i8 za, .int .i8 ta], 54, none⟩, ⟨g5_2, #[.string C1, .string C2, .string C3, .string C0], 26, none⟩, ⟨ga1, (List.toArray (.string C1 :: .string C2 :: .string C3 :: .string C0 :: .string MC :: ra1)), 35, none⟩, ⟨g7_2, #[.int .i8 xb, .int .i8 yb, .int .i8 zb, .int .i8 tb], 54, none⟩] [] [(3, 2)] [] [(7, 0)] [] (by kernel_rfl) B.out ⟨K0.out, K1.out, K2.out, K3.out, K4.out, K5.out, K6.out, K8.out, K9.out, trivial⟩ trivial ⟨ld 8 0, cl H_PB.out, ml 0, ?_, trivial⟩ ?_
 · intro L a U ho J hn d KK k; refine .free rfl ?_; have r11 : a.tmps[(11 : Nat)]?.getD undef = .pointer (some ⟨(blkOf (slotOf a 11)), 0, none⟩) := J.readN 0 rfl (d.get 2 rfl); have r31 := J.read 1 rfl (d.get 1 rfl); have kb := (J.nwB 0 rfl (d.get 2 rfl) hn).blk; have c0 := kb.at_ 0 _ rfl; have z0 := kb.free 0; have c1 := kb.at_ 1 _ rfl; have z1 := kb.free 1; have c2 := kb.at_ 2 _ rfl; have z2 := kb.free 2; have c3 := kb.at_ 3 _ rfl; have z3 := kb.free 3; clear kb; go_simp; exact k.out undef _ (J.storedN 3 0 rfl rfl rfl rfl rfl 0 [.string D1, .string D2, .string D3, .string D0] rfl ⟨lt0, lt1, lt2, lt3, lt4, lt5, lt6, lt8, lt9, trivial⟩ (d.get 2 rfl) hn ⟨.inr (d.get 2 rfl), trivial⟩)
 clear K0 K1 K2 K3 K4 K5 K6 K8 K9 B lt0 lt1 lt2 lt3 lt4 lt5 lt6 lt8 lt9
 rintro σ W8 ⟨⟨L10, K10⟩, _⟩ ⟨K0, K1, K2, K3, K4, K5, K6, K8, K9, _⟩ ⟨x0, _⟩ _ B
 have D8_10 : Hid (ga1 ≠ blkOf (σ 11)) := x0
 clear x0
 simp only [slotsOf, finX, nval, nvalN, nvalA, Nat.reduceBEq, cond_true, cond_false, putAll, Act.put, List.setIfInBounds_toArray, List.set_cons_succ, List.set_cons_zero]
 generalize blkOf (σ 11) = g8_2 at *
 go_upto_region 9 with (fail)
 refine wp_tab_app [.v 32 (.slice (some ⟨ga1, 0, none⟩) 1 qa1), .v 33 (.agg #[.string D1, .string D2, .string D3, .string D0]), .v 34 (.pointer (some ⟨g8_2, 3, none⟩)), .v 35 (.string D0), .v 36 (.pointer (some ⟨g8_2, 0, none⟩)), .v 37 (.agg #[.string D1, .string D2, .string D3]), .v 38 (.pointer (some ⟨g2_2, 4, none⟩)), .v 39 (.agg #[.string S1, .string S2, .string S3]), .v 40 (.string PD), .v 41 (.string MD), .v 42 (.agg #[.string D1, .string D2, .string D3, .string D0, .string MD]), .n 43] [⟨11, 43, fun g => .slice (some ⟨g, 0, none⟩) 1 1, #[.string D1, .string D2, .string D3, .string D0, .string MD], 35, none⟩] [⟨g1_0, #[.int .i8 x, .int .i8 y, .int .i8 z, .int .i8 t, .int .i8 s, .int .i8 d, .bool sl, .bool sp], 56, none⟩, ⟨g1_1, #[.int .i8 xa, .int .i8 ya, .int .i8 za, .int .i8 ta], 54, none⟩, ⟨g1_2, #[.int .i8 xb, .int .i8 yb, .int .i8 zb, .int .i8 tb], 54, none⟩, ⟨g2_2, #[.string A1, .string A2, .string A3, .string A0, .string S1, .string S2, .string S3], 58, none⟩, ⟨g3_2, #[.int .i8 xa, .int .i8 ya, .int .i8 za, .int .i8 ta, .int .i8 xb, .int .i8 yb, .int .i8 zb, .int .i8 tb], 54, none⟩, ⟨g4_2, #[.int .i8 xa, .int .i8 ya, .int .i8 za, .int .i8 ta], 54, none⟩, ⟨g5_2, #[.string C1, .string C2, .string C3, .string C0], 26, none⟩, ⟨ga1, (List.toArray (.string C1 :: .string C2 :: .string C3 :: .string C0 :: .string MC :: ra1)), 35, none⟩, ⟨g7_2, #[.int .i8 xb, .int .i8 yb, .int .i8 zb, .int .i8 tb], 54, none⟩, ⟨g8_2, #[.string D1, .string D2, .string D3, .string D0], 26, none⟩] [] [] [] [(7, 0)] [] [11, 10, 9, 8, 7, 6, 5, 4, 3, 2, 1, 0] 44 8 _ _ (by kernel_rfl) rfl rfl rfl rfl rfl rfl rfl (by kernel_rfl) B.out ⟨K0.out, K1.out, K2.out, K3.out, K4.out, K5.out, K6.out, K8.out, K9.out, K10.out, trivial⟩ trivial ⟨pu, ld 9 0, pu, ld 9 3, pu, ld 9 0, pu, ld 3 4, cl H_DB.out, cl H_AB.out, pu, ml 0, trivial⟩ ?_
 clear K0 K1 K2 K3 K4 K5 K6 K8 K9 K10 B
 rintro σ W9 ⟨⟨L11, K11⟩, _⟩ ⟨K0, K1, K2, K3, K4, K5, K6, K8, K9, K10, _⟩ ⟨x0, _⟩ _ B
 have D8_11 : Hid (ga1 ≠ blkOf (σ 43)) := x0
 clear x0
 simp only [slotsOf, finX, nval, nvalN, nvalA, Nat.reduceBEq, cond_true, cond_false, putAll, Act.put, List.setIfInBounds_toArray, List.set_cons_succ, List.set_cons_zero]
 generalize blkOf (σ 43) = g9_11 at *
 refine appN_k ElS (.tmp 32) (.tmp 43) rfl rfl [.string C1, .string C2, .string C3, .string C0, .string MC] ra1 K8.out M8.out (by decide) [.string D1, .string D2, .string D3, .string D0, .string MD] rfl rfl K11.out (by simp [Value.oneCell']) ?_
 intro ga2 qa2 ra2 wp2 kk lg mm qq
 have K12 := Lib.hid (show Blk wp2 ga2 (List.toArray (.string C1 :: .string C2 :: .string C3 :: .string C0 :: .string MC :: .string D1 :: .string D2 :: .string D3 :: .string D0 :: .string MD :: ra2)) 35 from kk)
 have M12 := Lib.hid mm
 have D0_12 := Lib.hid (ne_app D0_8.out K0.out.lt lg)
 replace K0 := Lib.hid (K0.out.grown qq (ne_row D0_8.out))
 have D1_12 := Lib.hid (ne_app D1_8.out K1.out.lt lg)
 replace K1 := Lib.hid (K1.out.grown qq (ne_row D1_8.out))
 have D2_12 := Lib.hid (ne_app D2_8.out K2.out.lt lg)
 replace K2 := Lib.hid (K2.out.grown qq (ne_row D2_8.out))
 have D3_12 := Lib.hid (ne_app D3_8.out K3.out.lt lg)
 replace K3 := Lib.hid (K3.out.grown qq (ne_row D3_8.out))
 have D4_12 := Lib.hid (ne_app D4_8.out K4.out.lt lg)
 replace K4 := Lib.hid (K4.out.grown qq (ne_row D4_8.out))
 have D5_12 := Lib.hid (ne_app D5_8.out K5.out.lt lg)
 replace K5 := Lib.hid (K5.out.grown qq (ne_row D5_8.out))
 have D6_12 := Lib.hid (ne_app D6_8.out K6.out.lt lg)
 replace K6 := Lib.hid (K6.out.grown qq (ne_row D6_8.out))
 have D9_12 := Lib.hid (ne_app (Ne.symm D8_9.out) K9.out.lt lg)
 replace K9 := Lib.hid (K9.out.grown qq (ne_row (Ne.symm D8_9.out)))
 have D10_12 := Lib.hid (ne_app (Ne.symm D8_10.out) K10.out.lt lg)
 replace K10 := Lib.hid (K10.out.grown qq (ne_row (Ne.symm D8_10.out)))
 have L12 := Lib.hid (le_app B.out.size L8.out lg)
 replace B := Lib.hid (below_appN B.out qq B.out.size L8.out)
 clear kk lg mm qq K8 M8
 clear K11
 try simp only [Act.put, List.setIfInBounds_toArray, List.set_cons_succ, List.set_cons_zero]
 go_wp2
 rw [rounds_succ]
 go_upto_region 11 with (fail)
 cases ok
 ·
  clear h_so
  have H_SE := Lib.hid (h_se rfl)
  clear h_se
  go_upto_region 11 with (fail)
  have lt0 := K0.out.lt
  have lt1 := K1.out.lt
  have lt2 := K2.out.lt
  have lt3 := K3.out.lt
  have lt4 := K4.out.lt
  have lt5 := K5.out.lt
  have lt6 := K6.out.lt
  have lt9 := K9.out.lt
  have lt10 := K10.out.lt
  have lt12 := K12.out.lt
  refine wp_tab [.v 47 (.pointer (some ⟨g2_2, 0, none⟩)), .v 48 (.agg #[.string A1, .string A2, .string A3, .string A0]), .v 49 (.slice (some ⟨ga2, 0, none⟩) 2 qa2), .v 50 (.pointer (some ⟨ga2, 0, none⟩)), .v 51 (.agg #[.string C1, .string C2, .string C3, .string C0, .string MC]), .v 52 (.slice (some ⟨ga2, 0, none⟩) 2 qa2), .v 53 (.pointer (some ⟨ga2, 5, none⟩)), .v 54 (.agg #[.string D1, .string D2, .string D3, .string D0, .string MD]), .v 55 (.tuple #[.agg #[.string ⟨#[]⟩, .string ⟨#[]⟩, .string ⟨#[]⟩], .int .i64 18]), .v 46 (.tuple #[.agg #[.string ⟨#[]⟩, .string ⟨#[]⟩, .string ⟨#[]⟩], .int .i64 18]), .v 56 (.agg #[.string ⟨#[]⟩, .string ⟨#[]⟩, .string ⟨#[]⟩]), .v 57 (.int .i64 18), .n 12, .z, .v 13 (.int .i64 18)] [⟨12, 12, fun g => .pointer (some ⟨g, 0, none⟩), #[.string ⟨#[]⟩, .string ⟨#[]⟩, .string ⟨#[]⟩], 24, some (13, #[.string ⟨#[]⟩, .string ⟨#[]⟩, .string ⟨#[]⟩])⟩] [⟨g1_0, #[.int .i8 x, .int .i8 y, .int .i8 z, .int .i8 t, .int .i8 s, .int .i8 d, .bool sl, .bool sp], 56, none⟩, ⟨g1_1, #[.int .i8 xa, .int .i8 ya, .int .i8 za, .int .i8 ta], 54, none⟩, ⟨g1_2, #[.int .i8 xb, .int .i8 yb, .int .i8 zb, .int .i8 tb], 54, none⟩, ⟨g2_2, #[.string A1, .string A2, .string A3, .string A0, .string S1, .string S2, .string S3], 58, none⟩, ⟨g3_2, #[.int .i8 xa, .int .i8 ya, .int .i8 za, .int .i8 ta, .int .i8 xb, .int .i8 yb, .int .i8 zb, .int .i8 tb], 54, none⟩, ⟨g4_2, #[.int .i8 xa, .int .i8 ya, .int .i8 za, .int .i8 ta], 54, none⟩, ⟨g5_2, #[.string C1, .string C2, .string C3, .string C0], 26, none⟩, ⟨g7_2, #[.int .i8 xb, .int .i8 yb, .int .i8 zb, .int .i8 tb], 54, none⟩, ⟨g8_2, #[.string D1, .string D2, .string D3, .string D0], 26, none⟩, ⟨ga2, (List.toArray (.string C1 :: .string C2 :: .string C3 :: .string C0 :: .string MC :: .string D1 :: .string D2 :: .string D3 :: .string D0 :: .string MD :: ra2)), 35, none⟩] [] [(13, 12)] [] [(9, 0)] [] (by kernel_rfl) B.out ⟨K0.out, K1.out, K2.out, K3.out, K4.out, K5.out, K6.out, K9.out, K10.out, K12.out, trivial⟩ trivial ⟨pu, ld 3 0, pu, pu, ld 9 0, pu, pu, ld 9 5, cl H_SE.out, pu, pu, pu, ml 0, ?_, pu, trivial⟩ ?_
  · intro L a U ho J hn d KK k; refine .free rfl ?_; have r12 : a.tmps[(12 : Nat)]?.getD undef = .pointer (some ⟨(blkOf (slotOf a 12)), 0, none⟩) := J.readN 0 rfl (d.get 12 rfl); have r56 := J.read 10 rfl (d.get 10 rfl); have kb := (J.nwB 0 rfl (d.get 12 rfl) hn).blk; have c0 := kb.at_ 0 _ rfl; have z0 := kb.free 0; have c1 := kb.at_ 1 _ rfl; have z1 := kb.free 1; have c2 := kb.at_ 2 _ rfl; have z2 := kb.free 2; clear kb; go_simp; exact k.out undef _ (J.storedN 13 0 rfl rfl rfl rfl rfl 0 [.string ⟨#[]⟩, .string ⟨#[]⟩, .string ⟨#[]⟩] rfl ⟨lt0, lt1, lt2, lt3, lt4, lt5, lt6, lt9, lt10, lt12, trivial⟩ (d.get 12 rfl) hn ⟨.inr (d.get 12 rfl), trivial⟩)
  clear K0 K1 K2 K3 K4 K5 K6 K9 K10 K12 B lt0 lt1 lt2 lt3 lt4 lt5 lt6 lt9 lt10 lt12
  rintro σ W10 ⟨⟨L13, K13⟩, _⟩ ⟨K0, K1, K2, K3, K4, K5, K6, K9, K10, K12, _⟩ ⟨x0, _⟩ _ B
  have D12_13 : Hid (ga2 ≠ blkOf (σ 12)) := x0
  clear x0
  simp only [slotsOf, finX, nval, nvalN, nvalA, Nat.reduceBEq, cond_true, cond_false, putAll, Act.put, List.setIfInBounds_toArray, List.set_cons_succ, List.set_cons_zero]
  generalize blkOf (σ 12) = g10_12 at *
  go_upto_region 14 with (fail)
  have lt0 := K0.out.lt
  have lt1 := K1.out.lt
  have lt2 := K2.out.lt
  have lt3 := K3.out.lt
  have lt4 := K4.out.lt
  have lt5 := K5.out.lt
  have lt6 := K6.out.lt
  have lt9 := K9.out.lt
  have lt10 := K10.out.lt
  have lt12 := K12.out.lt
  have lt13 := K13.out.lt
  refine wp_tab [.v 74 (.agg #[.string X1, .string X2, .string X3]), .v 75 (.slice (some ⟨ga2, 0, none⟩) 2 qa2), .v 76 (.pointer (some ⟨ga2, 0, none⟩)), .v 77 (.pointer (some ⟨ga2, 0, none⟩)), .v 78 (.pointer (some ⟨ga2, 0, none⟩)), .v 79 (.agg #[.string C1, .string C2, .string C3]), .v 80 (.agg #[.string X1, .string X2, .string X3, .string C1, .string C2, .string C3]), .n 14, .z] [⟨7, 14, fun g => .pointer (some ⟨g, 0, none⟩), #[.string ⟨#[]⟩, .string ⟨#[]⟩, .string ⟨#[]⟩, .string ⟨#[]⟩, .string ⟨#[]⟩, .string ⟨#[]⟩], 45, some (8, #[.string X1, .string X2, .string X3, .string C1, .string C2, .string C3])⟩] [⟨g1_0, #[.int .i8 x, .int .i8 y, .int .i8 z, .int .i8 t, .int .i8 s, .int .i8 d, .bool sl, .bool sp], 56, none⟩, ⟨g1_1, #[.int .i8 xa, .int .i8 ya, .int .i8 za, .int .i8 ta], 54, none⟩, ⟨g1_2, #[.int .i8 xb, .int .i8 yb, .int .i8 zb, .int .i8 tb], 54, none⟩, ⟨g2_2, #[.string A1, .string A2, .string A3, .string A0, .string S1, .string S2, .string S3], 58, none⟩, ⟨g3_2, #[.int .i8 xa, .int .i8 ya, .int .i8 za, .int .i8 ta, .int .i8 xb, .int .i8 yb, .int .i8 zb, .int .i8 tb], 54, none⟩, ⟨g4_2, #[.int .i8 xa, .int .i8 ya, .int .i8 za, .int .i8 ta], 54, none⟩, ⟨g5_2, #[.string C1, .string C2, .string C3, .string C0], 26, none⟩, ⟨g7_2, #[.int .i8 xb, .int .i8 yb, .int .i8 zb, .int .i8 tb], 54, none⟩, ⟨g8_2, #[.string D1, .string D2, .string D3, .string D0], 26, none⟩, ⟨ga2, (List.toArray (.string C1 :: .string C2 :: .string C3 :: .string C0 :: .string MC :: .string D1 :: .string D2 :: .string D3 :: .string D0 :: .string MD :: ra2)), 35, none⟩, ⟨g10_12, #[.string ⟨#[]⟩, .string ⟨#[]⟩, .string ⟨#[]⟩], 24, none⟩] [] [(8, 7)] [] [(9, 0)] [] (by kernel_rfl) B.out ⟨K0.out, K1.out, K2.out, K3.out, K4.out, K5.out, K6.out, K9.out, K10.out, K12.out, K13.out, trivial⟩ trivial ⟨cl H_SP.out, pu, pu, pu, pu, ld 9 0, pu, ml 0, ?_, trivial⟩ ?_
  · intro L a U ho J hn d KK k; refine .free rfl ?_; have r14 : a.tmps[(14 : Nat)]?.getD undef = .pointer (some ⟨(blkOf (slotOf a 14)), 0, none⟩) := J.readN 0 rfl (d.get 7 rfl); have r80 := J.read 6 rfl (d.get 6 rfl); have kb := (J.nwB 0 rfl (d.get 7 rfl) hn).blk; have c0 := kb.at_ 0 _ rfl; have z0 := kb.free 0; have c1 := kb.at_ 1 _ rfl; have z1 := kb.free 1; have c2 := kb.at_ 2 _ rfl; have z2 := kb.free 2; have c3 := kb.at_ 3 _ rfl; have z3 := kb.free 3; have c4 := kb.at_ 4 _ rfl; have z4 := kb.free 4; have c5 := kb.at_ 5 _ rfl; have z5 := kb.free 5; clear kb; go_simp; exact k.out undef _ (J.storedN 8 0 rfl rfl rfl rfl rfl 0 [.string X1, .string X2, .string X3, .string C1, .string C2, .string C3] rfl ⟨lt0, lt1, lt2, lt3, lt4, lt5, lt6, lt9, lt10, lt12, lt13, trivial⟩ (d.get 7 rfl) hn ⟨.inr (d.get 7 rfl), trivial⟩)
  clear K0 K1 K2 K3 K4 K5 K6 K9 K10 K12 K13 B lt0 lt1 lt2 lt3 lt4 lt5 lt6 lt9 lt10 lt12 lt13
  rintro σ W11 ⟨⟨L14, K14⟩, _⟩ ⟨K0, K1, K2, K3, K4, K5, K6, K9, K10, K12, K13, _⟩ ⟨x0, _⟩ _ B
  have D12_14 : Hid (ga2 ≠ blkOf (σ 14)) := x0
  clear x0
  simp only [slotsOf, finX, nval, nvalN, nvalA, Nat.reduceBEq, cond_true, cond_false, putAll, Act.put, List.setIfInBounds_toArray, List.set_cons_succ, List.set_cons_zero]
  generalize blkOf (σ 14) = g11_7 at *
  go_upto_region 15 with (fail)
  have lt0 := K0.out.lt
  have lt1 := K1.out.lt
  have lt2 := K2.out.lt
  have lt3 := K3.out.lt
  have lt4 := K4.out.lt
  have lt5 := K5.out.lt
  have lt6 := K6.out.lt
  have lt9 := K9.out.lt
  have lt10 := K10.out.lt
  have lt12 := K12.out.lt
  have lt13 := K13.out.lt
  have lt14 := K14.out.lt
  refine wp_tab [.v 81 (.agg #[.string X1, .string X2, .string X3, .string C1, .string C2, .string C3]), .n 15, .z] [⟨1, 15, fun g => .pointer (some ⟨g, 0, none⟩), #[.string ⟨#[]⟩, .string ⟨#[]⟩, .string ⟨#[]⟩, .string ⟨#[]⟩, .string ⟨#[]⟩, .string ⟨#[]⟩], 45, some (2, #[.string X1, .string X2, .string X3, .string C1, .string C2, .string C3])⟩] [⟨g1_0, #[.int .i8 x, .int .i8 y, .int .i8 z, .int .i8 t, .int .i8 s, .int .i8 d, .bool sl, .bool sp], 56, none⟩, ⟨g1_1, #[.int .i8 xa, .int .i8 ya, .int .i8 za, .int .i8 ta], 54, none⟩, ⟨g1_2, #[.int .i8 xb, .int .i8 yb, .int .i8 zb, .int .i8 tb], 54, none⟩, ⟨g2_2, #[.string A1, .string A2, .string A3, .string A0, .string S1, .string S2, .string S3], 58, none⟩, ⟨g3_2, #[.int .i8 xa, .int .i8 ya, .int .i8 za, .int .i8 ta, .int .i8 xb, .int .i8 yb, .int .i8 zb, .int .i8 tb], 54, none⟩, ⟨g4_2, #[.int .i8 xa, .int .i8 ya, .int .i8 za, .int .i8 ta], 54, none⟩, ⟨g5_2, #[.string C1, .string C2, .string C3, .string C0], 26, none⟩, ⟨g7_2, #[.int .i8 xb, .int .i8 yb, .int .i8 zb, .int .i8 tb], 54, none⟩, ⟨g8_2, #[.string D1, .string D2, .string D3, .string D0], 26, none⟩, ⟨ga2, (List.toArray (.string C1 :: .string C2 :: .string C3 :: .string C0 :: .string MC :: .string D1 :: .string D2 :: .string D3 :: .string D0 :: .string MD :: ra2)), 35, none⟩, ⟨g10_12, #[.string ⟨#[]⟩, .string ⟨#[]⟩, .string ⟨#[]⟩], 24, none⟩, ⟨g11_7, #[.string X1, .string X2, .string X3, .string C1, .string C2, .string C3], 45, none⟩] [] [(2, 1)] [] [(0, 0), (1, 0), (2, 0), (3, 0), (4, 0), (5, 0), (6, 0), (7, 0), (8, 0), (9, 0), (10, 0), (11, 0)] [] (by kernel_rfl) B.out ⟨K0.out, K1.out, K2.out, K3.out, K4.out, K5.out, K6.out, K9.out, K10.out, K12.out, K13.out, K14.out, trivial⟩ trivial ⟨ld 11 0, ml 0, ?_, trivial⟩ ?_
  · intro L a U ho J hn d KK k; refine .free rfl ?_; have r15 : a.tmps[(15 : Nat)]?.getD undef = .pointer (some ⟨(blkOf (slotOf a 15)), 0, none⟩) := J.readN 0 rfl (d.get 1 rfl); have r81 := J.read 0 rfl (d.get 0 rfl); have kb := (J.nwB 0 rfl (d.get 1 rfl) hn).blk; have c0 := kb.at_ 0 _ rfl; have z0 := kb.free 0; have c1 := kb.at_ 1 _ rfl; have z1 := kb.free 1; have c2 := kb.at_ 2 _ rfl; have z2 := kb.free 2; have c3 := kb.at_ 3 _ rfl; have z3 := kb.free 3; have c4 := kb.at_ 4 _ rfl; have z4 := kb.free 4; have c5 := kb.at_ 5 _ rfl; have z5 := kb.free 5; clear kb; go_simp; exact k.out undef _ (J.storedN 2 0 rfl rfl rfl rfl rfl 0 [.string X1, .string X2, .string X3, .string C1, .string C2, .string C3] rfl ⟨lt0, lt1, lt2, lt3, lt4, lt5, lt6, lt9, lt10, lt12, lt13, lt14, trivial⟩ (d.get 1 rfl) hn ⟨.inr (d.get 1 rfl), trivial⟩)
  clear K0 K1 K2 K3 K4 K5 K6 K9 K10 K12 K13 K14 B lt0 lt1 lt2 lt3 lt4 lt5 lt6 lt9 lt10 lt12 lt13 lt14
  rintro σ W12 ⟨⟨L15, K15⟩, _⟩ ⟨K0, K1, K2, K3, K4, K5, K6, K9, K10, K12, K13, K14, _⟩ ⟨x0, x1, x2, x3, x4, x5, x6, x7, x8, x9, x10, x11, _⟩ _ B
  have D0_15 : Hid (g1_0 ≠ blkOf (σ 15)) := x0
  have D1_15 : Hid (g1_1 ≠ blkOf (σ 15)) := x1
  have D2_15 : Hid (g1_2 ≠ blkOf (σ 15)) := x2
  have D3_15 : Hid (g2_2 ≠ blkOf (σ 15)) := x3
  have D4_15 : Hid (g3_2 ≠ blkOf (σ 15)) := x4
  have D5_15 : Hid (g4_2 ≠ blkOf (σ 15)) := x5
  have D6_15 : Hid (g5_2 ≠ blkOf (σ 15)) := x6
  have D9_15 : Hid (g7_2 ≠ blkOf (σ 15)) := x7
  have D10_15 : Hid (g8_2 ≠ blkOf (σ 15)) := x8
  have D12_15 : Hid (ga2 ≠ blkOf (σ 15)) := x9
  have D13_15 : Hid (g10_12 ≠ blkOf (σ 15)) := x10
  have D14_15 : Hid (g11_7 ≠ blkOf (σ 15)) := x11
  clear x0 x1 x2 x3 x4 x5 x6 x7 x8 x9 x10 x11
  simp only [slotsOf, finX, nval, nvalN, nvalA, Nat.reduceBEq, cond_true, cond_false, putAll, Act.put, List.setIfInBounds_toArray, List.set_cons_succ, List.set_cons_zero]
  generalize blkOf (σ 15) = g12_1 at *
  go_upto_region 16 with (fail)
  have lt0 := K0.out.lt
  have lt1 := K1.out.lt
  have lt2 := K2.out.lt
  have lt3 := K3.out.lt
  have lt4 := K4.out.lt
  have lt5 := K5.out.lt
  have lt6 := K6.out.lt
  have lt9 := K9.out.lt
  have lt10 := K10.out.lt
  have lt12 := K12.out.lt
  have lt13 := K13.out.lt
  have lt14 := K14.out.lt
  have lt15 := K15.out.lt
  refine wp_tab [.v 82 (.pointer (some ⟨g11_7, 0, none⟩)), .v 83 (.agg #[.string X1, .string X2, .string X3]), .v 84 (.pointer (some ⟨g2_2, 4, none⟩)), .v 85 (.agg #[.string S1, .string S2, .string S3]), .v 86 (.agg #[.string Y1, .string Y2, .string Y3]), .v 87 (.pointer (some ⟨g12_1, 0, none⟩)), .z] [] [⟨g1_0, #[.int .i8 x, .int .i8 y, .int .i8 z, .int .i8 t, .int .i8 s, .int .i8 d, .bool sl, .bool sp], 56, none⟩, ⟨g1_1, #[.int .i8 xa, .int .i8 ya, .int .i8 za, .int .i8 ta], 54, none⟩, ⟨g1_2, #[.int .i8 xb, .int .i8 yb, .int .i8 zb, .int .i8 tb], 54, none⟩, ⟨g2_2, #[.string A1, .string A2, .string A3, .string A0, .string S1, .string S2, .string S3], 58, none⟩, ⟨g3_2, #[.int .i8 xa, .int .i8 ya, .int .i8 za, .int .i8 ta, .int .i8 xb, .int .i8 yb, .int .i8 zb, .int .i8 tb], 54, none⟩, ⟨g4_2, #[.int .i8 xa, .int .i8 ya, .int .i8 za, .int .i8 ta], 54, none⟩, ⟨g5_2, #[.string C1, .string C2, .string C3, .string C0], 26, none⟩, ⟨g7_2, #[.int .i8 xb, .int .i8 yb, .int .i8 zb, .int .i8 tb], 54, none⟩, ⟨g8_2, #[.string D1, .string D2, .string D3, .string D0], 26, none⟩, ⟨ga2, (List.toArray (.string C1 :: .string C2 :: .string C3 :: .string C0 :: .string MC :: .string D1 :: .string D2 :: .string D3 :: .string D0 :: .string MD :: ra2)), 35, none⟩, ⟨g10_12, #[.string ⟨#[]⟩, .string ⟨#[]⟩, .string ⟨#[]⟩], 24, none⟩, ⟨g11_7, #[.string X1, .string X2, .string X3, .string C1, .string C2, .string C3], 45, none⟩, ⟨g12_1, #[.string X1, .string X2, .string X3, .string C1, .string C2, .string C3], 45, some (6, #[.string Y1, .string Y2, .string Y3, .string C1, .string C2, .string C3])⟩] [] [] [] [] [] (by kernel_rfl) B.out ⟨K0.out, K1.out, K2.out, K3.out, K4.out, K5.out, K6.out, K9.out, K10.out, K12.out, K13.out, K14.out, K15.out, trivial⟩ trivial ⟨pu, ld 11 0, pu, ld 3 4, cl H_AN.out, pu, ?_, trivial⟩ ?_
  · intro L a U ho J hn d KK k; refine .free rfl ?_; have r87 := J.read 5 rfl (d.get 5 rfl); have r86 := J.read 4 rfl (d.get 4 rfl); have kb := (J.eldB 12 rfl hn); have c0 := kb.at_ 0 _ rfl; have z0 := kb.free 0; have c1 := kb.at_ 1 _ rfl; have z1 := kb.free 1; have c2 := kb.at_ 2 _ rfl; have z2 := kb.free 2; clear kb; go_simp; exact k.out undef _ (J.stored 6 12 rfl rfl (.inl rfl) rfl rfl 0 [.string Y1, .string Y2, .string Y3] rfl L15.out lt15 ⟨.inr D0_15.out, .inr D1_15.out, .inr D2_15.out, .inr D3_15.out, .inr D4_15.out, .inr D5_15.out, .inr D6_15.out, .inr D9_15.out, .inr D10_15.out, .inr D12_15.out, .inr D13_15.out, .inr D14_15.out, .inl rfl, trivial⟩ hn trivial)
  clear K0 K1 K2 K3 K4 K5 K6 K9 K10 K12 K13 K14 K15 B lt0 lt1 lt2 lt3 lt4 lt5 lt6 lt9 lt10 lt12 lt13 lt14 lt15
  rintro σ W13 _ ⟨K0, K1, K2, K3, K4, K5, K6, K9, K10, K12, K13, K14, K15, _⟩ _ _ B
  simp only [slotsOf, finX, nval, nvalN, nvalA, Nat.reduceBEq, cond_true, cond_false, putAll, Act.put, List.setIfInBounds_toArray, List.set_cons_succ, List.set_cons_zero]
  go_upto_region 17 with (fail)
  cases okp
  ·
   clear h_po
   have H_PE := Lib.hid (h_pe rfl)
   clear h_pe
   go_upto_region 17 with (fail)
   have lt0 := K0.out.lt
   have lt1 := K1.out.lt
   have lt2 := K2.out.lt
   have lt3 := K3.out.lt
   have lt4 := K4.out.lt
   have lt5 := K5.out.lt
   have lt6 := K6.out.lt
   have lt9 := K9.out.lt
   have lt10 := K10.out.lt
   have lt12 := K12.out.lt
   have lt13 := K13.out.lt
   have lt14 := K14.out.lt
   have lt15 := K15.out.lt
   refine wp_tab [.v 89 (.pointer (some ⟨g2_2, 0, none⟩)), .v 90 (.agg #[.string A1, .string A2, .string A3, .string A0]), .v 91 (.agg #[.string X1, .string X2, .string X3, .string C1, .string C2, .string C3]), .v 92 (.agg #[.string Y1, .string Y2, .string Y3, .string C1, .string C2, .string C3]), .v 93 (.tuple #[.agg #[.string ⟨#[]⟩, .string ⟨#[]⟩, .string ⟨#[]⟩], .int .i64 18]), .v 88 (.tuple #[.agg #[.string ⟨#[]⟩, .string ⟨#[]⟩, .string ⟨#[]⟩], .int .i64 18]), .v 94 (.agg #[.string ⟨#[]⟩, .string ⟨#[]⟩, .string ⟨#[]⟩]), .v 95 (.int .i64 18), .n 16, .z, .v 17 (.int .i64 18)] [⟨8, 16, fun g => .pointer (some ⟨g, 0, none⟩), #[.string ⟨#[]⟩, .string ⟨#[]⟩, .string ⟨#[]⟩], 24, some (9, #[.string ⟨#[]⟩, .string ⟨#[]⟩, .string ⟨#[]⟩])⟩] [⟨g1_0, #[.int .i8 x, .int .i8 y, .int .i8 z, .int .i8 t, .int .i8 s, .int .i8 d, .bool sl, .bool sp], 56, none⟩, ⟨g1_1, #[.int .i8 xa, .int .i8 ya, .int .i8 za, .int .i8 ta], 54, none⟩, ⟨g1_2, #[.int .i8 xb, .int .i8 yb, .int .i8 zb, .int .i8 tb], 54, none⟩, ⟨g2_2, #[.string A1, .string A2, .string A3, .string A0, .string S1, .string S2, .string S3], 58, none⟩, ⟨g3_2, #[.int .i8 xa, .int .i8 ya, .int .i8 za, .int .i8 ta, .int .i8 xb, .int .i8 yb, .int .i8 zb, .int .i8 tb], 54, none⟩, ⟨g4_2, #[.int .i8 xa, .int .i8 ya, .int .i8 za, .int .i8 ta], 54, none⟩, ⟨g5_2, #[.string C1, .string C2, .string C3, .string C0], 26, none⟩, ⟨g7_2, #[.int .i8 xb, .int .i8 yb, .int .i8 zb, .int .i8 tb], 54, none⟩, ⟨g8_2, #[.string D1, .string D2, .string D3, .string D0], 26, none⟩, ⟨ga2, (List.toArray (.string C1 :: .string C2 :: .string C3 :: .string C0 :: .string MC :: .string D1 :: .string D2 :: .string D3 :: .string D0 :: .string MD :: ra2)), 35, none⟩, ⟨g10_12, #[.string ⟨#[]⟩, .string ⟨#[]⟩, .string ⟨#[]⟩], 24, none⟩, ⟨g11_7, #[.string X1, .string X2, .string X3, .string C1, .string C2, .string C3], 45, none⟩, ⟨g12_1, #[.string Y1, .string Y2, .string Y3, .string C1, .string C2, .string C3], 45, none⟩] [] [(9, 8)] [] [(9, 0), (12, 0)] [] (by kernel_rfl) B.out ⟨K0.out, K1.out, K2.out, K3.out, K4.out, K5.out, K6.out, K9.out, K10.out, K12.out, K13.out, K14.out, K15.out, trivial⟩ trivial ⟨pu, ld 3 0, ld 11 0, ld 12 0, cl H_PE.out, pu, pu, pu, ml 0, ?_, pu, trivial⟩ ?_
   · intro L a U ho J hn d KK k; refine .free rfl ?_; have r16 : a.tmps[(16 : Nat)]?.getD undef = .pointer (some ⟨(blkOf (slotOf a 16)), 0, none⟩) := J.readN 0 rfl (d.get 8 rfl); have r94 := J.read 6 rfl (d.get 6 rfl); have kb := (J.nwB 0 rfl (d.get 8 rfl) hn).blk; have c0 := kb.at_ 0 _ rfl; have z0 := kb.free 0; have c1 := kb.at_ 1 _ rfl; have z1 := kb.free 1; have c2 := kb.at_ 2 _ rfl; have z2 := kb.free 2; clear kb; go_simp; exact k.out undef _ (J.storedN 9 0 rfl rfl rfl rfl rfl 0 [.string ⟨#[]⟩, .string ⟨#[]⟩, .string ⟨#[]⟩] rfl ⟨lt0, lt1, lt2, lt3, lt4, lt5, lt6, lt9, lt10, lt12, lt13, lt14, lt15, trivial⟩ (d.get 8 rfl) hn ⟨.inr (d.get 8 rfl), trivial⟩)
   clear K0 K1 K2 K3 K4 K5 K6 K9 K10 K12 K13 K14 K15 B lt0 lt1 lt2 lt3 lt4 lt5 lt6 lt9 lt10 lt12 lt13 lt14 lt15
   rintro σ W14 ⟨⟨L16, K16⟩, _⟩ ⟨K0, K1, K2, K3, K4, K5, K6, K9, K10, K12, K13, K14, K15, _⟩ ⟨x0, x1, _⟩ _ B
   have D12_16 : Hid (ga2 ≠ blkOf (σ 16)) := x0
   have D15_16 : Hid (g12_1 ≠ blkOf (σ 16)) := x1
   clear x0 x1
   simp only [slotsOf, finX, nval, nvalN, nvalA, Nat.reduceBEq, cond_true, cond_false, putAll, Act.put, List.setIfInBounds_toArray, List.set_cons_succ, List.set_cons_zero]
   generalize blkOf (σ 16) = g14_8 at *
   go_wp2
   go_ret
   exact ⟨rfl, B.out⟩
  ·
   have H_PO := Lib.hid (h_po rfl)
   clear h_po
   clear h_pe
   go_upto_region 17 with (fail)
   have lt0 := K0.out.lt
   have lt1 := K1.out.lt
   have lt2 := K2.out.lt
   have lt3 := K3.out.lt
   have lt4 := K4.out.lt
   have lt5 := K5.out.lt
   have lt6 := K6.out.lt
   have lt9 := K9.out.lt
   have lt10 := K10.out.lt
   have lt12 := K12.out.lt
   have lt13 := K13.out.lt
   have lt14 := K14.out.lt
   have lt15 := K15.out.lt
   refine wp_tab [.v 89 (.pointer (some ⟨g2_2, 0, none⟩)), .v 90 (.agg #[.string A1, .string A2, .string A3, .string A0]), .v 91 (.agg #[.string X1, .string X2, .string X3, .string C1, .string C2, .string C3]), .v 92 (.agg #[.string Y1, .string Y2, .string Y3, .string C1, .string C2, .string C3]), .v 93 (.tuple #[.agg #[.string S1, .string S2, .string S3], .int .i64 0]), .v 88 (.tuple #[.agg #[.string S1, .string S2, .string S3], .int .i64 0]), .v 94 (.agg #[.string S1, .string S2, .string S3]), .v 95 (.int .i64 0), .n 16, .z, .v 17 (.int .i64 0)] [⟨8, 16, fun g => .pointer (some ⟨g, 0, none⟩), #[.string ⟨#[]⟩, .string ⟨#[]⟩, .string ⟨#[]⟩], 24, some (9, #[.string S1, .string S2, .string S3])⟩] [⟨g1_0, #[.int .i8 x, .int .i8 y, .int .i8 z, .int .i8 t, .int .i8 s, .int .i8 d, .bool sl, .bool sp], 56, none⟩, ⟨g1_1, #[.int .i8 xa, .int .i8 ya, .int .i8 za, .int .i8 ta], 54, none⟩, ⟨g1_2, #[.int .i8 xb, .int .i8 yb, .int .i8 zb, .int .i8 tb], 54, none⟩, ⟨g2_2, #[.string A1, .string A2, .string A3, .string A0, .string S1, .string S2, .string S3], 58, none⟩, ⟨g3_2, #[.int .i8 xa, .int .i8 ya, .int .i8 za, .int .i8 ta, .int .i8 xb, .int .i8 yb, .int .i8 zb, .int .i8 tb], 54, none⟩, ⟨g4_2, #[.int .i8 xa, .int .i8 ya, .int .i8 za, .int .i8 ta], 54, none⟩, ⟨g5_2, #[.string C1, .string C2, .string C3, .string C0], 26, none⟩, ⟨g7_2, #[.int .i8 xb, .int .i8 yb, .int .i8 zb, .int .i8 tb], 54, none⟩, ⟨g8_2, #[.string D1, .string D2, .string D3, .string D0], 26, none⟩, ⟨ga2, (List.toArray (.string C1 :: .string C2 :: .string C3 :: .string C0 :: .string MC :: .string D1 :: .string D2 :: .string D3 :: .string D0 :: .string MD :: ra2)), 35, none⟩, ⟨g10_12, #[.string ⟨#[]⟩, .string ⟨#[]⟩, .string ⟨#[]⟩], 24, none⟩, ⟨g11_7, #[.string X1, .string X2, .string X3, .string C1, .string C2, .string C3], 45, none⟩, ⟨g12_1, #[.string Y1, .string Y2, .string Y3, .string C1, .string C2, .string C3], 45, none⟩] [] [(9, 8)] [] [(9, 0), (12, 0)] [] (by kernel_rfl) B.out ⟨K0.out, K1.out, K2.out, K3.out, K4.out, K5.out, K6.out, K9.out, K10.out, K12.out, K13.out, K14.out, K15.out, trivial⟩ trivial ⟨pu, ld 3 0, ld 11 0, ld 12 0, cl H_PO.out, pu, pu, pu, ml 0, ?_, pu, trivial⟩ ?_
   · intro L a U ho J hn d KK k; refine .free rfl ?_; have r16 : a.tmps[(16 : Nat)]?.getD undef = .pointer (some ⟨(blkOf (slotOf a 16)), 0, none⟩) := J.readN 0 rfl (d.get 8 rfl); have r94 := J.read 6 rfl (d.get 6 rfl); have kb := (J.nwB 0 rfl (d.get 8 rfl) hn).blk; have c0 := kb.at_ 0 _ rfl; have z0 := kb.free 0; have c1 := kb.at_ 1 _ rfl; have z1 := kb.free 1; have c2 := kb.at_ 2 _ rfl; have z2 := kb.free 2; clear kb; go_simp; exact k.out undef _ (J.storedN 9 0 rfl rfl rfl rfl rfl 0 [.string S1, .string S2, .string S3] rfl ⟨lt0, lt1, lt2, lt3, lt4, lt5, lt6, lt9, lt10, lt12, lt13, lt14, lt15, trivial⟩ (d.get 8 rfl) hn ⟨.inr (d.get 8 rfl), trivial⟩)
   clear K0 K1 K2 K3 K4 K5 K6 K9 K10 K12 K13 K14 K15 B lt0 lt1 lt2 lt3 lt4 lt5 lt6 lt9 lt10 lt12 lt13 lt14 lt15
   rintro σ W14 ⟨⟨L16, K16⟩, _⟩ ⟨K0, K1, K2, K3, K4, K5, K6, K9, K10, K12, K13, K14, K15, _⟩ ⟨x0, x1, _⟩ _ B
   have D12_16 : Hid (ga2 ≠ blkOf (σ 16)) := x0
   have D15_16 : Hid (g12_1 ≠ blkOf (σ 16)) := x1
   clear x0 x1
   simp only [slotsOf, finX, nval, nvalN, nvalA, Nat.reduceBEq, cond_true, cond_false, putAll, Act.put, List.setIfInBounds_toArray, List.set_cons_succ, List.set_cons_zero]
   generalize blkOf (σ 16) = g14_8 at *
   have c3_4 := K3.out.at_ 4 _ rfl
   have c3_5 := K3.out.at_ 5 _ rfl
   have c3_6 := K3.out.at_ 6 _ rfl
   have c16_0 := K16.out.at_ 0 _ rfl
   have c16_1 := K16.out.at_ 1 _ rfl
   have c16_2 := K16.out.at_ 2 _ rfl
   go_wp2
   clear c16_0 c16_1 c16_2 c3_4 c3_5 c3_6
   go_ret
   exact ⟨rfl, B.out⟩
 ·
  have H_SO := Lib.hid (h_so rfl)
  clear h_so
  clear h_se
  go_upto_region 11 with (fail)
  have lt0 := K0.out.lt
  have lt1 := K1.out.lt
  have lt2 := K2.out.lt
  have lt3 := K3.out.lt
  have lt4 := K4.out.lt
  have lt5 := K5.out.lt
  have lt6 := K6.out.lt
  have lt9 := K9.out.lt
  have lt10 := K10.out.lt
  have lt12 := K12.out.lt
  refine wp_tab [.v 47 (.pointer (some ⟨g2_2, 0, none⟩)), .v 48 (.agg #[.string A1, .string A2, .string A3, .string A0]), .v 49 (.slice (some ⟨ga2, 0, none⟩) 2 qa2), .v 50 (.pointer (some ⟨ga2, 0, none⟩)), .v 51 (.agg #[.string C1, .string C2, .string C3, .string C0, .string MC]), .v 52 (.slice (some ⟨ga2, 0, none⟩) 2 qa2), .v 53 (.pointer (some ⟨ga2, 5, none⟩)), .v 54 (.agg #[.string D1, .string D2, .string D3, .string D0, .string MD]), .v 55 (.tuple #[.agg #[.string S1, .string S2, .string S3], .int .i64 0]), .v 46 (.tuple #[.agg #[.string S1, .string S2, .string S3], .int .i64 0]), .v 56 (.agg #[.string S1, .string S2, .string S3]), .v 57 (.int .i64 0), .n 12, .z, .v 13 (.int .i64 0)] [⟨12, 12, fun g => .pointer (some ⟨g, 0, none⟩), #[.string ⟨#[]⟩, .string ⟨#[]⟩, .string ⟨#[]⟩], 24, some (13, #[.string S1, .string S2, .string S3])⟩] [⟨g1_0, #[.int .i8 x, .int .i8 y, .int .i8 z, .int .i8 t, .int .i8 s, .int .i8 d, .bool sl, .bool sp], 56, none⟩, ⟨g1_1, #[.int .i8 xa, .int .i8 ya, .int .i8 za, .int .i8 ta], 54, none⟩, ⟨g1_2, #[.int .i8 xb, .int .i8 yb, .int .i8 zb, .int .i8 tb], 54, none⟩, ⟨g2_2, #[.string A1, .string A2, .string A3, .string A0, .string S1, .string S2, .string S3], 58, none⟩, ⟨g3_2, #[.int .i8 xa, .int .i8 ya, .int .i8 za, .int .i8 ta, .int .i8 xb, .int .i8 yb, .int .i8 zb, .int .i8 tb], 54, none⟩, ⟨g4_2, #[.int .i8 xa, .int .i8 ya, .int .i8 za, .int .i8 ta], 54, none⟩, ⟨g5_2, #[.string C1, .string C2, .string C3, .string C0], 26, none⟩, ⟨g7_2, #[.int .i8 xb, .int .i8 yb, .int .i8 zb, .int .i8 tb], 54, none⟩, ⟨g8_2, #[.string D1, .string D2, .string D3, .string D0], 26, none⟩, ⟨ga2, (List.toArray (.string C1 :: .string C2 :: .string C3 :: .string C0 :: .string MC :: .string D1 :: .string D2 :: .string D3 :: .string D0 :: .string MD :: ra2)), 35, none⟩] [] [(13, 12)] [] [(9, 0)] [] (by kernel_rfl) B.out ⟨K0.out, K1.out, K2.out, K3.out, K4.out, K5.out, K6.out, K9.out, K10.out, K12.out, trivial⟩ trivial ⟨pu, ld 3 0, pu, pu, ld 9 0, pu, pu, ld 9 5, cl H_SO.out, pu, pu, pu, ml 0, ?_, pu, trivial⟩ ?_
  · intro L a U ho J hn d KK k; refine .free rfl ?_; have r12 : a.tmps[(12 : Nat)]?.getD undef = .pointer (some ⟨(blkOf (slotOf a 12)), 0, none⟩) := J.readN 0 rfl (d.get 12 rfl); have r56 := J.read 10 rfl (d.get 10 rfl); have kb := (J.nwB 0 rfl (d.get 12 rfl) hn).blk; have c0 := kb.at_ 0 _ rfl; have z0 := kb.free 0; have c1 := kb.at_ 1 _ rfl; have z1 := kb.free 1; have c2 := kb.at_ 2 _ rfl; have z2 := kb.free 2; clear kb; go_simp; exact k.out undef _ (J.storedN 13 0 rfl rfl rfl rfl rfl 0 [.string S1, .string S2, .string S3] rfl ⟨lt0, lt1, lt2, lt3, lt4, lt5, lt6, lt9, lt10, lt12, trivial⟩ (d.get 12 rfl) hn ⟨.inr (d.get 12 rfl), trivial⟩)
  clear K0 K1 K2 K3 K4 K5 K6 K9 K10 K12 B lt0 lt1 lt2 lt3 lt4 lt5 lt6 lt9 lt10 lt12
  rintro σ W10 ⟨⟨L13, K13⟩, _⟩ ⟨K0, K1, K2, K3, K4, K5, K6, K9, K10, K12, _⟩ ⟨x0, _⟩ _ B
  have D12_13 : Hid (ga2 ≠ blkOf (σ 12)) := x0
  clear x0
  simp only [slotsOf, finX, nval, nvalN, nvalA, Nat.reduceBEq, cond_true, cond_false, putAll, Act.put, List.setIfInBounds_toArray, List.set_cons_succ, List.set_cons_zero]
  generalize blkOf (σ 12) = g10_12 at *
  have c3_4 := K3.out.at_ 4 _ rfl
  have c3_5 := K3.out.at_ 5 _ rfl
  have c3_6 := K3.out.at_ 6 _ rfl
  have c13_0 := K13.out.at_ 0 _ rfl
  have c13_1 := K13.out.at_ 1 _ rfl
  have c13_2 := K13.out.at_ 2 _ rfl
  go_upto_region 14 with (fail)
  clear c13_0 c13_1 c13_2 c3_4 c3_5 c3_6
  have lt0 := K0.out.lt
  have lt1 := K1.out.lt
  have lt2 := K2.out.lt
  have lt3 := K3.out.lt
  have lt4 := K4.out.lt
  have lt5 := K5.out.lt
  have lt6 := K6.out.lt
  have lt9 := K9.out.lt
  have lt10 := K10.out.lt
  have lt12 := K12.out.lt
  have lt13 := K13.out.lt
  refine wp_tab [.v 74 (.agg #[.string X1, .string X2, .string X3]), .v 75 (.slice (some ⟨ga2, 0, none⟩) 2 qa2), .v 76 (.pointer (some ⟨ga2, 0, none⟩)), .v 77 (.pointer (some ⟨ga2, 0, none⟩)), .v 78 (.pointer (some ⟨ga2, 0, none⟩)), .v 79 (.agg #[.string C1, .string C2, .string C3]), .v 80 (.agg #[.string X1, .string X2, .string X3, .string C1, .string C2, .string C3]), .n 14, .z] [⟨7, 14, fun g => .pointer (some ⟨g, 0, none⟩), #[.string ⟨#[]⟩, .string ⟨#[]⟩, .string ⟨#[]⟩, .string ⟨#[]⟩, .string ⟨#[]⟩, .string ⟨#[]⟩], 45, some (8, #[.string X1, .string X2, .string X3, .string C1, .string C2, .string C3])⟩] [⟨g1_0, #[.int .i8 x, .int .i8 y, .int .i8 z, .int .i8 t, .int .i8 s, .int .i8 d, .bool sl, .bool sp], 56, none⟩, ⟨g1_1, #[.int .i8 xa, .int .i8 ya, .int .i8 za, .int .i8 ta], 54, none⟩, ⟨g1_2, #[.int .i8 xb, .int .i8 yb, .int .i8 zb, .int .i8 tb], 54, none⟩, ⟨g2_2, #[.string A1, .string A2, .string A3, .string A0, .string S1, .string S2, .string S3], 58, none⟩, ⟨g3_2, #[.int .i8 xa, .int .i8 ya, .int .i8 za, .int .i8 ta, .int .i8 xb, .int .i8 yb, .int .i8 zb, .int .i8 tb], 54, none⟩, ⟨g4_2, #[.int .i8 xa, .int .i8 ya, .int .i8 za, .int .i8 ta], 54, none⟩, ⟨g5_2, #[.string C1, .string C2, .string C3, .string C0], 26, none⟩, ⟨g7_2, #[.int .i8 xb, .int .i8 yb, .int .i8 zb, .int .i8 tb], 54, none⟩, ⟨g8_2, #[.string D1, .string D2, .string D3, .string D0], 26, none⟩, ⟨ga2, (List.toArray (.string C1 :: .string C2 :: .string C3 :: .string C0 :: .string MC :: .string D1 :: .string D2 :: .string D3 :: .string D0 :: .string MD :: ra2)), 35, none⟩, ⟨g10_12, #[.string S1, .string S2, .string S3], 24, none⟩] [] [(8, 7)] [] [(9, 0)] [] (by kernel_rfl) B.out ⟨K0.out, K1.out, K2.out, K3.out, K4.out, K5.out, K6.out, K9.out, K10.out, K12.out, K13.out, trivial⟩ trivial ⟨cl H_SP.out, pu, pu, pu, pu, ld 9 0, pu, ml 0, ?_, trivial⟩ ?_
  · intro L a U ho J hn d KK k; refine .free rfl ?_; have r14 : a.tmps[(14 : Nat)]?.getD undef = .pointer (some ⟨(blkOf (slotOf a 14)), 0, none⟩) := J.readN 0 rfl (d.get 7 rfl); have r80 := J.read 6 rfl (d.get 6 rfl); have kb := (J.nwB 0 rfl (d.get 7 rfl) hn).blk; have c0 := kb.at_ 0 _ rfl; have z0 := kb.free 0; have c1 := kb.at_ 1 _ rfl; have z1 := kb.free 1; have c2 := kb.at_ 2 _ rfl; have z2 := kb.free 2; have c3 := kb.at_ 3 _ rfl; have z3 := kb.free 3; have c4 := kb.at_ 4 _ rfl; have z4 := kb.free 4; have c5 := kb.at_ 5 _ rfl; have z5 := kb.free 5; clear kb; go_simp; exact k.out undef _ (J.storedN 8 0 rfl rfl rfl rfl rfl 0 [.string X1, .string X2, .string X3, .string C1, .string C2, .string C3] rfl ⟨lt0, lt1, lt2, lt3, lt4, lt5, lt6, lt9, lt10, lt12, lt13, trivial⟩ (d.get 7 rfl) hn ⟨.inr (d.get 7 rfl), trivial⟩)
  clear K0 K1 K2 K3 K4 K5 K6 K9 K10 K12 K13 B lt0 lt1 lt2 lt3 lt4 lt5 lt6 lt9 lt10 lt12 lt13
  rintro σ W11 ⟨⟨L14, K14⟩, _⟩ ⟨K0, K1, K2, K3, K4, K5, K6, K9, K10, K12, K13, _⟩ ⟨x0, _⟩ _ B
  have D12_14 : Hid (ga2 ≠ blkOf (σ 14)) := x0
  clear x0
  simp only [slotsOf, finX, nval, nvalN, nvalA, Nat.reduceBEq, cond_true, cond_false, putAll, Act.put, List.setIfInBounds_toArray, List.set_cons_succ, List.set_cons_zero]
  generalize blkOf (σ 14) = g11_7 at *
  go_upto_region 15 with (fail)
  have lt0 := K0.out.lt
  have lt1 := K1.out.lt
  have lt2 := K2.out.lt
  have lt3 := K3.out.lt
  have lt4 := K4.out.lt
  have lt5 := K5.out.lt
  have lt6 := K6.out.lt
  have lt9 := K9.out.lt
  have lt10 := K10.out.lt
  have lt12 := K12.out.lt
  have lt13 := K13.out.lt
  have lt14 := K14.out.lt
  refine wp_tab [.v 81 (.agg #[.string X1, .string X2, .string X3, .string C1, .string C2, .string C3]), .n 15, .z] [⟨1, 15, fun g => .pointer (some ⟨g, 0, none⟩), #[.string ⟨#[]⟩, .string ⟨#[]⟩, .string ⟨#[]⟩, .string ⟨#[]⟩, .string ⟨#[]⟩, .string ⟨#[]⟩], 45, some (2, #[.string X1, .string X2, .string X3, .string C1, .string C2, .string C3])⟩] [⟨g1_0, #[.int .i8 x, .int .i8 y, .int .i8 z, .int .i8 t, .int .i8 s, .int .i8 d, .bool sl, .bool sp], 56, none⟩, ⟨g1_1, #[.int .i8 xa, .int .i8 ya, .int .i8 za, .int .i8 ta], 54, none⟩, ⟨g1_2, #[.int .i8 xb, .int .i8 yb, .int .i8 zb, .int .i8 tb], 54, none⟩, ⟨g2_2, #[.string A1, .string A2, .string A3, .string A0, .string S1, .string S2, .string S3], 58, none⟩, ⟨g3_2, #[.int .i8 xa, .int .i8 ya, .int .i8 za, .int .i8 ta, .int .i8 xb, .int .i8 yb, .int .i8 zb, .int .i8 tb], 54, none⟩, ⟨g4_2, #[.int .i8 xa, .int .i8 ya, .int .i8 za, .int .i8 ta], 54, none⟩, ⟨g5_2, #[.string C1, .string C2, .string C3, .string C0], 26, none⟩, ⟨g7_2, #[.int .i8 xb, .int .i8 yb, .int .i8 zb, .int .i8 tb], 54, none⟩, ⟨g8_2, #[.string D1, .string D2, .string D3, .string D0], 26, none⟩, ⟨ga2, (List.toArray (.string C1 :: .string C2 :: .string C3 :: .string C0 :: .string MC :: .string D1 :: .string D2 :: .string D3 :: .string D0 :: .string MD :: ra2)), 35, none⟩, ⟨g10_12, #[.string S1, .string S2, .string S3], 24, none⟩, ⟨g11_7, #[.string X1, .string X2, .string X3, .string C1, .string C2, .string C3], 45, none⟩] [] [(2, 1)] [] [(0, 0), (1, 0), (2, 0), (3, 0), (4, 0), (5, 0), (6, 0), (7, 0), (8, 0), (9, 0), (10, 0), (11, 0)] [] (by kernel_rfl) B.out ⟨K0.out, K1.out, K2.out, K3.out, K4.out, K5.out, K6.out, K9.out, K10.out, K12.out, K13.out, K14.out, trivial⟩ trivial ⟨ld 11 0, ml 0, ?_, trivial⟩ ?_
  · intro L a U ho J hn d KK k; refine .free rfl ?_; have r15 : a.tmps[(15 : Nat)]?.getD undef = .pointer (some ⟨(blkOf (slotOf a 15)), 0, none⟩) := J.readN 0 rfl (d.get 1 rfl); have r81 := J.read 0 rfl (d.get 0 rfl); have kb := (J.nwB 0 rfl (d.get 1 rfl) hn).blk; have c0 := kb.at_ 0 _ rfl; have z0 := kb.free 0; have c1 := kb.at_ 1 _ rfl; have z1 := kb.free 1; have c2 := kb.at_ 2 _ rfl; have z2 := kb.free 2; have c3 := kb.at_ 3 _ rfl; have z3 := kb.free 3; have c4 := kb.at_ 4 _ rfl; have z4 := kb.free 4; have c5 := kb.at_ 5 _ rfl; have z5 := kb.free 5; clear kb; go_simp; exact k.out undef _ (J.storedN 2 0 rfl rfl rfl rfl rfl 0 [.string X1, .string X2, .string X3, .string C1, .string C2, .string C3] rfl ⟨lt0, lt1, lt2, lt3, lt4, lt5, lt6, lt9, lt10, lt12, lt13, lt14, trivial⟩ (d.get 1 rfl) hn ⟨.inr (d.get 1 rfl), trivial⟩)
  clear K0 K1 K2 K3 K4 K5 K6 K9 K10 K12 K13 K14 B lt0 lt1 lt2 lt3 lt4 lt5 lt6 lt9 lt10 lt12 lt13 lt14
  rintro σ W12 ⟨⟨L15, K15⟩, _⟩ ⟨K0, K1, K2, K3, K4, K5, K6, K9, K10, K12, K13, K14, _⟩ ⟨x0, x1, x2, x3, x4, x5, x6, x7, x8, x9, x10, x11, _⟩ _ B
  have D0_15 : Hid (g1_0 ≠ blkOf (σ 15)) := x0
  have D1_15 : Hid (g1_1 ≠ blkOf (σ 15)) := x1
  have D2_15 : Hid (g1_2 ≠ blkOf (σ 15)) := x2
  have D3_15 : Hid (g2_2 ≠ blkOf (σ 15)) := x3
  have D4_15 : Hid (g3_2 ≠ blkOf (σ 15)) := x4
  have D5_15 : Hid (g4_2 ≠ blkOf (σ 15)) := x5
  have D6_15 : Hid (g5_2 ≠ blkOf (σ 15)) := x6
  have D9_15 : Hid (g7_2 ≠ blkOf (σ 15)) := x7
  have D10_15 : Hid (g8_2 ≠ blkOf (σ 15)) := x8
  have D12_15 : Hid (ga2 ≠ blkOf (σ 15)) := x9
  have D13_15 : Hid (g10_12 ≠ blkOf (σ 15)) := x10
  have D14_15 : Hid (g11_7 ≠ blkOf (σ 15)) := x11
  clear x0 x1 x2 x3 x4 x5 x6 x7 x8 x9 x10 x11
  simp only [slotsOf, finX, nval, nvalN, nvalA, Nat.reduceBEq, cond_true, cond_false, putAll, Act.put, List.setIfInBounds_toArray, List.set_cons_succ, List.set_cons_zero]
  generalize blkOf (σ 15) = g12_1 at *
  go_upto_region 16 with (fail)
  have lt0 := K0.out.lt
  have lt1 := K1.out.lt
  have lt2 := K2.out.lt
  have lt3 := K3.out.lt
  have lt4 := K4.out.lt
  have lt5 := K5.out.lt
  have lt6 := K6.out.lt
  have lt9 := K9.out.lt
  have lt10 := K10.out.lt
  have lt12 := K12.out.lt
  have lt13 := K13.out.lt
  have lt14 := K14.out.lt
  have lt15 := K15.out.lt
  refine wp_tab [.v 82 (.pointer (some ⟨g11_7, 0, none⟩)), .v 83 (.agg #[.string X1, .string X2, .string X3]), .v 84 (.pointer (some ⟨g2_2, 4, none⟩)), .v 85 (.agg #[.string S1, .string S2, .string S3]), .v 86 (.agg #[.string Y1, .string Y2, .string Y3]), .v 87 (.pointer (some ⟨g12_1, 0, none⟩)), .z] [] [⟨g1_0, #[.int .i8 x, .int .i8 y, .int .i8 z, .int .i8 t, .int .i8 s, .int .i8 d, .bool sl, .bool sp], 56, none⟩, ⟨g1_1, #[.int .i8 xa, .int .i8 ya, .int .i8 za, .int .i8 ta], 54, none⟩, ⟨g1_2, #[.int .i8 xb, .int .i8 yb, .int .i8 zb, .int .i8 tb], 54, none⟩, ⟨g2_2, #[.string A1, .string A2, .string A3, .string A0, .string S1, .string S2, .string S3], 58, none⟩, ⟨g3_2, #[.int .i8 xa, .int .i8 ya, .int .i8 za, .int .i8 ta, .int .i8 xb, .int .i8 yb, .int .i8 zb, .int .i8 tb], 54, none⟩, ⟨g4_2, #[.int .i8 xa, .int .i8 ya, .int .i8 za, .int .i8 ta], 54, none⟩, ⟨g5_2, #[.string C1, .string C2, .string C3, .string C0], 26, none⟩, ⟨g7_2, #[.int .i8 xb, .int .i8 yb, .int .i8 zb, .int .i8 tb], 54, none⟩, ⟨g8_2, #[.string D1, .string D2, .string D3, .string D0], 26, none⟩, ⟨ga2, (List.toArray (.string C1 :: .string C2 :: .string C3 :: .string C0 :: .string MC :: .string D1 :: .string D2 :: .string D3 :: .string D0 :: .string MD :: ra2)), 35, none⟩, ⟨g10_12, #[.string S1, .string S2, .string S3], 24, none⟩, ⟨g11_7, #[.string X1, .string X2, .string X3, .string C1, .string C2, .string C3], 45, none⟩, ⟨g12_1, #[.string X1, .string X2, .string X3, .string C1, .string C2, .string C3], 45, some (6, #[.string Y1, .string Y2, .string Y3, .string C1, .string C2, .string C3])⟩] [] [] [] [] [] (by kernel_rfl) B.out ⟨K0.out, K1.out, K2.out, K3.out, K4.out, K5.out, K6.out, K9.out, K10.out, K12.out, K13.out, K14.out, K15.out, trivial⟩ trivial ⟨pu, ld 11 0, pu, ld 3 4, cl H_AN.out, pu, ?_, trivial⟩ ?_
  · intro L a U ho J hn d KK k; refine .free rfl ?_; have r87 := J.read 5 rfl (d.get 5 rfl); have r86 := J.read 4 rfl (d.get 4 rfl); have kb := (J.eldB 12 rfl hn); have c0 := kb.at_ 0 _ rfl; have z0 := kb.free 0; have c1 := kb.at_ 1 _ rfl; have z1 := kb.free 1; have c2 := kb.at_ 2 _ rfl; have z2 := kb.free 2; clear kb; go_simp; exact k.out undef _ (J.stored 6 12 rfl rfl (.inl rfl) rfl rfl 0 [.string Y1, .string Y2, .string Y3] rfl L15.out lt15 ⟨.inr D0_15.out, .inr D1_15.out, .inr D2_15.out, .inr D3_15.out, .inr D4_15.out, .inr D5_15.out, .inr D6_15.out, .inr D9_15.out, .inr D10_15.out, .inr D12_15.out, .inr D13_15.out, .inr D14_15.out, .inl rfl, trivial⟩ hn trivial)
  clear K0 K1 K2 K3 K4 K5 K6 K9 K10 K12 K13 K14 K15 B lt0 lt1 lt2 lt3 lt4 lt5 lt6 lt9 lt10 lt12 lt13 lt14 lt15
  rintro σ W13 _ ⟨K0, K1, K2, K3, K4, K5, K6, K9, K10, K12, K13, K14, K15, _⟩ _ _ B
  simp only [slotsOf, finX, nval, nvalN, nvalA, Nat.reduceBEq, cond_true, cond_false, putAll, Act.put, List.setIfInBounds_toArray, List.set_cons_succ, List.set_cons_zero]
  go_upto_region 17 with (fail)
  cases okp
  ·
   clear h_po
   have H_PE := Lib.hid (h_pe rfl)
   clear h_pe
   go_upto_region 17 with (fail)
   have lt0 := K0.out.lt
   have lt1 := K1.out.lt
   have lt2 := K2.out.lt
   have lt3 := K3.out.lt
   have lt4 := K4.out.lt
   have lt5 := K5.out.lt
   have lt6 := K6.out.lt
   have lt9 := K9.out.lt
   have lt10 := K10.out.lt
   have lt12 := K12.out.lt
   have lt13 := K13.out.lt
   have lt14 := K14.out.lt
   have lt15 := K15.out.lt
   refine wp_tab [.v 89 (.pointer (some ⟨g2_2, 0, none⟩)), .v 90 (.agg #[.string A1, .string A2, .string A3, .string A0]), .v 91 (.agg #[.string X1, .string X2, .string X3, .string C1, .string C2, .string C3]), .v 92 (.agg #[.string Y1, .string Y2, .string Y3, .string C1, .string C2, .string C3]), .v 93 (.tuple #[.agg #[.string ⟨#[]⟩, .string ⟨#[]⟩, .string ⟨#[]⟩], .int .i64 18]), .v 88 (.tuple #[.agg #[.string ⟨#[]⟩, .string ⟨#[]⟩, .string ⟨#[]⟩], .int .i64 18]), .v 94 (.agg #[.string ⟨#[]⟩, .string ⟨#[]⟩, .string ⟨#[]⟩]), .v 95 (.int .i64 18), .n 16, .z, .v 17 (.int .i64 18)] [⟨8, 16, fun g => .pointer (some ⟨g, 0, none⟩), #[.string ⟨#[]⟩, .string ⟨#[]⟩, .string ⟨#[]⟩], 24, some (9, #[.string ⟨#[]⟩, .string ⟨#[]⟩, .string ⟨#[]⟩])⟩] [⟨g1_0, #[.int .i8 x, .int .i8 y, .int .i8 z, .int .i8 t, .int .i8 s, .int .i8 d, .bool sl, .bool sp], 56, none⟩, ⟨g1_1, #[.int .i8 xa, .int .i8 ya, .int .i8 za, .int .i8 ta], 54, none⟩, ⟨g1_2, #[.int .i8 xb, .int .i8 yb, .int .i8 zb, .int .i8 tb], 54, none⟩, ⟨g2_2, #[.string A1, .string A2, .string A3, .string A0, .string S1, .string S2, .string S3], 58, none⟩, ⟨g3_2, #[.int .i8 xa, .int .i8 ya, .int .i8 za, .int .i8 ta, .int .i8 xb, .int .i8 yb, .int .i8 zb, .int .i8 tb], 54, none⟩, ⟨g4_2, #[.int .i8 xa, .int .i8 ya, .int .i8 za, .int .i8 ta], 54, none⟩, ⟨g5_2, #[.string C1, .string C2, .string C3, .string C0], 26, none⟩, ⟨g7_2, #[.int .i8 xb, .int .i8 yb, .int .i8 zb, .int .i8 tb], 54, none⟩, ⟨g8_2, #[.string D1, .string D2, .string D3, .string D0], 26, none⟩, ⟨ga2, (List.toArray (.string C1 :: .string C2 :: .string C3 :: .string C0 :: .string MC :: .string D1 :: .string D2 :: .string D3 :: .string D0 :: .string MD :: ra2)), 35, none⟩, ⟨g10_12, #[.string S1, .string S2, .string S3], 24, none⟩, ⟨g11_7, #[.string X1, .string X2, .string X3, .string C1, .string C2, .string C3], 45, none⟩, ⟨g12_1, #[.string Y1, .string Y2, .string Y3, .string C1, .string C2, .string C3], 45, none⟩] [] [(9, 8)] [] [(9, 0), (12, 0)] [] (by kernel_rfl) B.out ⟨K0.out, K1.out, K2.out, K3.out, K4.out, K5.out, K6.out, K9.out, K10.out, K12.out, K13.out, K14.out, K15.out, trivial⟩ trivial ⟨pu, ld 3 0, ld 11 0, ld 12 0, cl H_PE.out, pu, pu, pu, ml 0, ?_, pu, trivial⟩ ?_
   · intro L a U ho J hn d KK k; refine .free rfl ?_; have r16 : a.tmps[(16 : Nat)]?.getD undef = .pointer (some ⟨(blkOf (slotOf a 16)), 0, none⟩) := J.readN 0 rfl (d.get 8 rfl); have r94 := J.read 6 rfl (d.get 6 rfl); have kb := (J.nwB 0 rfl (d.get 8 rfl) hn).blk; have c0 := kb.at_ 0 _ rfl; have z0 := kb.free 0; have c1 := kb.at_ 1 _ rfl; have z1 := kb.free 1; have c2 := kb.at_ 2 _ rfl; have z2 := kb.free 2; clear kb; go_simp; exact k.out undef _ (J.storedN 9 0 rfl rfl rfl rfl rfl 0 [.string ⟨#[]⟩, .string ⟨#[]⟩, .string ⟨#[]⟩] rfl ⟨lt0, lt1, lt2, lt3, lt4, lt5, lt6, lt9, lt10, lt12, lt13, lt14, lt15, trivial⟩ (d.get 8 rfl) hn ⟨.inr (d.get 8 rfl), trivial⟩)
   clear K0 K1 K2 K3 K4 K5 K6 K9 K10 K12 K13 K14 K15 B lt0 lt1 lt2 lt3 lt4 lt5 lt6 lt9 lt10 lt12 lt13 lt14 lt15
   rintro σ W14 ⟨⟨L16, K16⟩, _⟩ ⟨K0, K1, K2, K3, K4, K5, K6, K9, K10, K12, K13, K14, K15, _⟩ ⟨x0, x1, _⟩ _ B
   have D12_16 : Hid (ga2 ≠ blkOf (σ 16)) := x0
   have D15_16 : Hid (g12_1 ≠ blkOf (σ 16)) := x1
   clear x0 x1
   simp only [slotsOf, finX, nval, nvalN, nvalA, Nat.reduceBEq, cond_true, cond_false, putAll, Act.put, List.setIfInBounds_toArray, List.set_cons_succ, List.set_cons_zero]
   generalize blkOf (σ 16) = g14_8 at *
   go_wp2
   go_ret
   exact ⟨rfl, B.out⟩
  ·
   have H_PO := Lib.hid (h_po rfl)
   clear h_po
   clear h_pe
   go_upto_region 17 with (fail)
   have lt0 := K0.out.lt
   have lt1 := K1.out.lt
   have lt2 := K2.out.lt
   have lt3 := K3.out.lt
   have lt4 := K4.out.lt
   have lt5 := K5.out.lt
   have lt6 := K6.out.lt
   have lt9 := K9.out.lt
   have lt10 := K10.out.lt
   have lt12 := K12.out.lt
   have lt13 := K13.out.lt
   have lt14 := K14.out.lt
   have lt15 := K15.out.lt
   refine wp_tab [.v 89 (.pointer (some ⟨g2_2, 0, none⟩)), .v 90 (.agg #[.string A1, .string A2, .string A3, .string A0]), .v 91 (.agg #[.string X1, .string X2, .string X3, .string C1, .string C2, .string C3]), .v 92 (.agg #[.string Y1, .string Y2, .string Y3, .string C1, .string C2, .string C3]), .v 93 (.tuple #[.agg #[.string S1, .string S2, .string S3], .int .i64 0]), .v 88 (.tuple #[.agg #[.string S1, .string S2, .string S3], .int .i64 0]), .v 94 (.agg #[.string S1, .string S2, .string S3]), .v 95 (.int .i64 0), .n 16, .z, .v 17 (.int .i64 0)] [⟨8, 16, fun g => .pointer (some ⟨g, 0, none⟩), #[.string ⟨#[]⟩, .string ⟨#[]⟩, .string ⟨#[]⟩], 24, some (9, #[.string S1, .string S2, .string S3])⟩] [⟨g1_0, #[.int .i8 x, .int .i8 y, .int .i8 z, .int .i8 t, .int .i8 s, .int .i8 d, .bool sl, .bool sp], 56, none⟩, ⟨g1_1, #[.int .i8 xa, .int .i8 ya, .int .i8 za, .int .i8 ta], 54, none⟩, ⟨g1_2, #[.int .i8 xb, .int .i8 yb, .int .i8 zb, .int .i8 tb], 54, none⟩, ⟨g2_2, #[.string A1, .string A2, .string A3, .string A0, .string S1, .string S2, .string S3], 58, none⟩, ⟨g3_2, #[.int .i8 xa, .int .i8 ya, .int .i8 za, .int .i8 ta, .int .i8 xb, .int .i8 yb, .int .i8 zb, .int .i8 tb], 54, none⟩, ⟨g4_2, #[.int .i8 xa, .int .i8 ya, .int .i8 za, .int .i8 ta], 54, none⟩, ⟨g5_2, #[.string C1, .string C2, .string C3, .string C0], 26, none⟩, ⟨g7_2, #[.int .i8 xb, .int .i8 yb, .int .i8 zb, .int .i8 tb], 54, none⟩, ⟨g8_2, #[.string D1, .string D2, .string D3, .string D0], 26, none⟩, ⟨ga2, (List.toArray (.string C1 :: .string C2 :: .string C3 :: .string C0 :: .string MC :: .string D1 :: .string D2 :: .string D3 :: .string D0 :: .string MD :: ra2)), 35, none⟩, ⟨g10_12, #[.string S1, .string S2, .string S3], 24, none⟩, ⟨g11_7, #[.string X1, .string X2, .string X3, .string C1, .string C2, .string C3], 45, none⟩, ⟨g12_1, #[.string Y1, .string Y2, .string Y3, .string C1, .string C2, .string C3], 45, none⟩] [] [(9, 8)] [] [(9, 0), (12, 0)] [] (by kernel_rfl) B.out ⟨K0.out, K1.out, K2.out, K3.out, K4.out, K5.out, K6.out, K9.out, K10.out, K12.out, K13.out, K14.out, K15.out, trivial⟩ trivial ⟨pu, ld 3 0, ld 11 0, ld 12 0, cl H_PO.out, pu, pu, pu, ml 0, ?_, pu, trivial⟩ ?_
   · intro L a U ho J hn d KK k; refine .free rfl ?_; have r16 : a.tmps[(16 : Nat)]?.getD undef = .pointer (some ⟨(blkOf (slotOf a 16)), 0, none⟩) := J.readN 0 rfl (d.get 8 rfl); have r94 := J.read 6 rfl (d.get 6 rfl); have kb := (J.nwB 0 rfl (d.get 8 rfl) hn).blk; have c0 := kb.at_ 0 _ rfl; have z0 := kb.free 0; have c1 := kb.at_ 1 _ rfl; have z1 := kb.free 1; have c2 := kb.at_ 2 _ rfl; have z2 := kb.free 2; clear kb; go_simp; exact k.out undef _ (J.storedN 9 0 rfl rfl rfl rfl rfl 0 [.string S1, .string S2, .string S3] rfl ⟨lt0, lt1, lt2, lt3, lt4, lt5, lt6, lt9, lt10, lt12, lt13, lt14, lt15, trivial⟩ (d.get 8 rfl) hn ⟨.inr (d.get 8 rfl), trivial⟩)
   clear K0 K1 K2 K3 K4 K5 K6 K9 K10 K12 K13 K14 K15 B lt0 lt1 lt2 lt3 lt4 lt5 lt6 lt9 lt10 lt12 lt13 lt14 lt15
   rintro σ W14 ⟨⟨L16, K16⟩, _⟩ ⟨K0, K1, K2, K3, K4, K5, K6, K9, K10, K12, K13, K14, K15, _⟩ ⟨x0, x1, _⟩ _ B
   have D12_16 : Hid (ga2 ≠ blkOf (σ 16)) := x0
   have D15_16 : Hid (g12_1 ≠ blkOf (σ 16)) := x1
   clear x0 x1
   simp only [slotsOf, finX, nval, nvalN, nvalA, Nat.reduceBEq, cond_true, cond_false, putAll, Act.put, List.setIfInBounds_toArray, List.set_cons_succ, List.set_cons_zero]
   generalize blkOf (σ 16) = g14_8 at *
   have c3_4 := K3.out.at_ 4 _ rfl
   have c3_5 := K3.out.at_ 5 _ rfl
   have c3_6 := K3.out.at_ 6 _ rfl
   have c16_0 := K16.out.at_ 0 _ rfl
   have c16_1 := K16.out.at_ 1 _ rfl
   have c16_2 := K16.out.at_ 2 _ rfl
   go_wp2
   clear c16_0 c16_1 c16_2 c3_4 c3_5 c3_6
   go_ret
   exact ⟨rfl, B.out⟩

end Go.Proofs.YtopilnlniidejaaGreatDoor
