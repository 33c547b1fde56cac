/- The walks of klippelaw42, over texts: Make. -/
import Derived.Test.YtopilnlniidejaaGreatDoorShelf
import Derived.Test.YtopilnlniidejaaGreatDoorGPar
import Derived.Deep.RegionHeld3
import Derived.Laws.ResultCell
import Derived.Deep.Cut
import Derived.Deep.CutRange
import Derived.Deep.DeepCutAuto
import Derived.Outline
namespace Go.Proofs.YtopilnlniidejaaGreatDoor
set_option linter.all false
open Go.RowKit

set_option maxRecDepth 100000 in
set_option maxHeartbeats 8000000 in
theorem lmake_of (P1 P2 P3 P0 Z1 Z2 Z3 A1 A2 A3 C1 C2 C3 D1 D2 D3 F1 F2 F3 G1 G2 G3 H1 H2 H3 I1 I2 I3 J1 J2 J3 M1 M2 M3 Q R : ByteArray) (x y z t s d : Int) (sl sp : Bool) (res : Value) (w : World)
  (hk : bits BinOp.and IntKind.i8 t 3 = 0 ∨ bits BinOp.and IntKind.i8 t 3 = 1 ∨ bits BinOp.and IntKind.i8 t 3 = 2 ∨ bits BinOp.and IntKind.i8 t 3 = 3)
  (rAs : sp = true → bits BinOp.and IntKind.i8 t 3 = 0 → sl = true → res = .agg #[.string A1, .string A2, .string A3, .string P0, .string Z1, .string Z2, .string Z3])
  (rAm : sp = true → bits BinOp.and IntKind.i8 t 3 = 0 → ¬ sl = true → res = .agg #[.string A1, .string A2, .string A3, .string P0, .string M1, .string M2, .string M3])
  (rCs : sp = true → bits BinOp.and IntKind.i8 t 3 = 1 → sl = true → res = .agg #[.string C1, .string C2, .string C3, .string P0, .string Z1, .string Z2, .string Z3])
  (rCm : sp = true → bits BinOp.and IntKind.i8 t 3 = 1 → ¬ sl = true → res = .agg #[.string C1, .string C2, .string C3, .string P0, .string M1, .string M2, .string M3])
  (rDs : sp = true → bits BinOp.and IntKind.i8 t 3 = 2 → sl = true → res = .agg #[.string D1, .string D2, .string D3, .string P0, .string Z1, .string Z2, .string Z3])
  (rDm : sp = true → bits BinOp.and IntKind.i8 t 3 = 2 → ¬ sl = true → res = .agg #[.string D1, .string D2, .string D3, .string P0, .string M1, .string M2, .string M3])
  (rFs : sp = true → bits BinOp.and IntKind.i8 t 3 = 3 → sl = true → res = .agg #[.string F1, .string F2, .string F3, .string P0, .string Z1, .string Z2, .string Z3])
  (rFm : sp = true → bits BinOp.and IntKind.i8 t 3 = 3 → ¬ sl = true → res = .agg #[.string F1, .string F2, .string F3, .string P0, .string M1, .string M2, .string M3])
  (rPs : ¬ sp = true → sl = true → res = .agg #[.string P1, .string P2, .string P3, .string P0, .string Z1, .string Z2, .string Z3])
  (rPm : ¬ sp = true → ¬ sl = true → res = .agg #[.string P1, .string P2, .string P3, .string P0, .string M1, .string M2, .string M3])
  (kw0 : IntKind.i64.wrap s = s)
  (kw1 : IntKind.i64.wrap d = d)
  (h_pl : Ret Tryz.prog w 28 #[.agg #[.int .i8 x, .int .i8 y, .int .i8 z, .int .i8 t]] (.agg #[.string P1, .string P2, .string P3, .string P0]))
  (h_s0 : Ret Tryz.prog w 30 #[.int .i64 0, .int .i64 0, .int .i64 0] (.agg #[.string Z1, .string Z2, .string Z3]))
  (h_s1 : Ret Tryz.prog w 30 #[.int .i64 0, .int .i64 0, .int .i64 1] (.agg #[.string A1, .string A2, .string A3]))
  (h_s2 : Ret Tryz.prog w 30 #[.int .i64 0, .int .i64 0, .int .i64 (-2)] (.agg #[.string C1, .string C2, .string C3]))
  (h_s3 : Ret Tryz.prog w 30 #[.int .i64 1, .int .i64 0, .int .i64 0] (.agg #[.string D1, .string D2, .string D3]))
  (h_s4 : Ret Tryz.prog w 30 #[.int .i64 1, .int .i64 0, .int .i64 1] (.agg #[.string F1, .string F2, .string F3]))
  (h_o1 : Ret Tryz.prog w 44 #[.int .i64 (s.tmod 4), .int .i64 1] (.string Q))
  (h_x1 : Ret Tryz.prog w 24 #[.agg #[.string G1, .string G2, .string G3], .string Q] (.agg #[.string I1, .string I2, .string I3]))
  (h_o2 : Ret Tryz.prog w 44 #[.int .i64 (d.tmod 4), .int .i64 2] (.string R))
  (h_x2 : Ret Tryz.prog w 24 #[.agg #[.string H1, .string H2, .string H3], .string R] (.agg #[.string J1, .string J2, .string J3]))
  (h_x3 : Ret Tryz.prog w 23 #[.agg #[.string I1, .string I2, .string I3], .agg #[.string J1, .string J2, .string J3]] (.agg #[.string M1, .string M2, .string M3]))
  (h_dia : sp = true ∧ bits BinOp.and IntKind.i8 t 3 = 0 → Ret Tryz.prog w 40 #[.agg #[.string A1, .string A2, .string A3]] (.tuple #[.agg #[.string G1, .string G2, .string G3], .agg #[.string H1, .string H2, .string H3]]))
  (h_dic : sp = true ∧ bits BinOp.and IntKind.i8 t 3 = 1 → Ret Tryz.prog w 40 #[.agg #[.string C1, .string C2, .string C3]] (.tuple #[.agg #[.string G1, .string G2, .string G3], .agg #[.string H1, .string H2, .string H3]]))
  (h_did : sp = true ∧ bits BinOp.and IntKind.i8 t 3 = 2 → Ret Tryz.prog w 40 #[.agg #[.string D1, .string D2, .string D3]] (.tuple #[.agg #[.string G1, .string G2, .string G3], .agg #[.string H1, .string H2, .string H3]]))
  (h_dif : sp = true ∧ bits BinOp.and IntKind.i8 t 3 = 3 → Ret Tryz.prog w 40 #[.agg #[.string F1, .string F2, .string F3]] (.tuple #[.agg #[.string G1, .string G2, .string G3], .agg #[.string H1, .string H2, .string H3]]))
  (h_dip : ¬ sp = true → Ret Tryz.prog w 40 #[.agg #[.string P1, .string P2, .string P3]] (.tuple #[.agg #[.string G1, .string G2, .string G3], .agg #[.string H1, .string H2, .string H3]])) :
  Calls Tryz.prog 27 #[.agg #[.int .i8 x, .int .i8 y, .int .i8 z, .int .i8 t, .int .i8 s, .int .i8 d, .bool sl, .bool sp]] w fun e w' => e = .returned (res) ∧ Below w.heap.size w w' := by
 have H_PL := Lib.hid h_pl
 have H_S0 := Lib.hid h_s0
 have H_S1 := Lib.hid h_s1
 have H_S2 := Lib.hid h_s2
 have H_S3 := Lib.hid h_s3
 have H_S4 := Lib.hid h_s4
 have H_O1 := Lib.hid h_o1
 have H_X1 := Lib.hid h_x1
 have H_O2 := Lib.hid h_o2
 have H_X2 := Lib.hid h_x2
 have H_X3 := Lib.hid h_x3
 clear h_pl h_s0 h_s1 h_s2 h_s3 h_s4 h_o1 h_x1 h_o2 h_x2 h_x3
 have B := Lib.hid (Below.refl w.heap.size w)
 go_enter Tryz.func27, Tryz.ntmps27
 go_upto_region 0 with (fail)
 refine wp_tab [.n 1, .n 2] [⟨0, 1, fun g => .pointer (some ⟨g, 0, none⟩), #[.int .i8 x, .int .i8 y, .int .i8 z, .int .i8 t, .int .i8 s, .int .i8 d, .bool sl, .bool sp], 56, none⟩, ⟨1, 2, fun g => .pointer (some ⟨g, 0, none⟩), #[.string ⟨#[]⟩, .string ⟨#[]⟩, .string ⟨#[]⟩, .string ⟨#[]⟩, .string ⟨#[]⟩, .string ⟨#[]⟩, .string ⟨#[]⟩], 58, none⟩] [] [] [] [(0, 1)] [] [] (by kernel_rfl) B.out trivial trivial ⟨ml 0, ml 1, trivial⟩ ?_
 clear B
 rintro σ W1 ⟨⟨L0, K0⟩, ⟨L1, K1⟩, _⟩ _ _ ⟨y0, _⟩ B
 have D0_1 : Hid (blkOf (σ 1) ≠ blkOf (σ 2)) := y0
 clear y0
 simp only [slotsOf, finX, nval, nvalN, nvalA, Nat.reduceBEq, cond_true, cond_false, putAll, Act.put, List.setIfInBounds_toArray, List.set_cons_succ, List.set_cons_zero]
 generalize blkOf (σ 1) = g1_0 at *
 generalize blkOf (σ 2) = g1_1 at *
 go_upto_region 1 with (fail)
 have lt0 := K0.out.lt
 have lt1 := K1.out.lt
 refine wp_tab [.v 6 (.pointer (some ⟨g1_0, 0, none⟩)), .v 7 (.agg #[.int .i8 x, .int .i8 y, .int .i8 z, .int .i8 t]), .v 8 (.agg #[.string P1, .string P2, .string P3, .string P0]), .v 9 (.agg #[.string Z1, .string Z2, .string Z3]), .v 10 (.agg #[.string P1, .string P2, .string P3, .string P0, .string Z1, .string Z2, .string Z3]), .n 3, .z] [⟨5, 3, fun g => .pointer (some ⟨g, 0, none⟩), #[.string ⟨#[]⟩, .string ⟨#[]⟩, .string ⟨#[]⟩, .string ⟨#[]⟩, .string ⟨#[]⟩, .string ⟨#[]⟩, .string ⟨#[]⟩], 58, some (6, #[.string P1, .string P2, .string P3, .string P0, .string Z1, .string Z2, .string Z3])⟩] [⟨g1_0, #[.int .i8 x, .int .i8 y, .int .i8 z, .int .i8 t, .int .i8 s, .int .i8 d, .bool sl, .bool sp], 56, none⟩, ⟨g1_1, #[.string ⟨#[]⟩, .string ⟨#[]⟩, .string ⟨#[]⟩, .string ⟨#[]⟩, .string ⟨#[]⟩, .string ⟨#[]⟩, .string ⟨#[]⟩], 58, none⟩] [] [(6, 5)] [] [(0, 0), (1, 0)] [] (by kernel_rfl) B.out ⟨K0.out, K1.out, trivial⟩ trivial ⟨pu, ld 0 0, cl H_PL.out, cl H_S0.out, pu, ml 0, ?_, trivial⟩ ?_
 · intro L a U ho J hn d KK k; refine .free rfl ?_; have r3 : a.tmps[(3 : Nat)]?.getD undef = .pointer (some ⟨(blkOf (slotOf a 3)), 0, none⟩) := J.readN 0 rfl (d.get 5 rfl); have r10 := J.read 4 rfl (d.get 4 rfl); have kb := (J.nwB 0 rfl (d.get 5 rfl) hn).blk; have c0 := kb.at_ 0 _ rfl; have z0 := kb.free 0; have c1 := kb.at_ 1 _ rfl; have z1 := kb.free 1; have c2 := kb.at_ 2 _ rfl; have z2 := kb.free 2; have c3 := kb.at_ 3 _ rfl; have z3 := kb.free 3; have c4 := kb.at_ 4 _ rfl; have z4 := kb.free 4; have c5 := kb.at_ 5 _ rfl; have z5 := kb.free 5; have c6 := kb.at_ 6 _ rfl; have z6 := kb.free 6; clear kb; go_simp; exact k.out undef _ (J.storedN 6 0 rfl rfl rfl rfl rfl 0 [.string P1, .string P2, .string P3, .string P0, .string Z1, .string Z2, .string Z3] rfl ⟨lt0, lt1, trivial⟩ (d.get 5 rfl) hn ⟨.inr (d.get 5 rfl), trivial⟩)
 clear K0 K1 B lt0 lt1
 rintro σ W2 ⟨⟨L2, K2⟩, _⟩ ⟨K0, K1, _⟩ ⟨x0, x1, _⟩ _ B
 have D0_2 : Hid (g1_0 ≠ blkOf (σ 3)) := x0
 have D1_2 : Hid (g1_1 ≠ blkOf (σ 3)) := x1
 clear x0 x1
 simp only [slotsOf, finX, nval, nvalN, nvalA, Nat.reduceBEq, cond_true, cond_false, putAll, Act.put, List.setIfInBounds_toArray, List.set_cons_succ, List.set_cons_zero]
 generalize blkOf (σ 3) = g2_5 at *
 go_upto_region 2 with (fail)
 by_cases hsp : sp = true
 ·
  have c0_7 := K0.out.at_ 7 _ rfl
  go_upto_region 3 with (fail)
  clear c0_7
  rcases hk with hk | hk | hk | hk
  ·
   have H_DIA := Lib.hid (h_dia ⟨hsp, hk⟩)
   clear h_dia
   go_upto_region 3 with (fail)
   have lt0 := K0.out.lt
   have lt1 := K1.out.lt
   have lt2 := K2.out.lt
   refine wp_tab [.v 13 (.agg #[.string A1, .string A2, .string A3]), .v 14 (.agg #[.string C1, .string C2, .string C3]), .v 15 (.agg #[.string D1, .string D2, .string D3]), .v 16 (.agg #[.string F1, .string F2, .string F3]), .n 17, .v 18 (.pointer (some ⟨g1_0, 0, none⟩)), .v 19 (.pointer (some ⟨g1_0, 3, none⟩)), .v 20 (.int .i8 t), .v 21 (.int .i8 0), .n 22, .v 23 (.agg #[.string A1, .string A2, .string A3]), .v 24 (.pointer (some ⟨g2_5, 0, none⟩)), .v 25 (.pointer (some ⟨g2_5, 0, none⟩)), .z] [⟨4, 17, fun g => .slice (some ⟨g, 0, none⟩) 4 4, #[.string A1, .string A2, .string A3, .string C1, .string C2, .string C3, .string D1, .string D2, .string D3, .string F1, .string F2, .string F3], 24, none⟩] [⟨g1_0, #[.int .i8 x, .int .i8 y, .int .i8 z, .int .i8 t, .int .i8 s, .int .i8 d, .bool sl, .bool sp], 56, none⟩, ⟨g1_1, #[.string ⟨#[]⟩, .string ⟨#[]⟩, .string ⟨#[]⟩, .string ⟨#[]⟩, .string ⟨#[]⟩, .string ⟨#[]⟩, .string ⟨#[]⟩], 58, none⟩, ⟨g2_5, #[.string P1, .string P2, .string P3, .string P0, .string Z1, .string Z2, .string Z3], 58, some (13, #[.string A1, .string A2, .string A3, .string P0, .string Z1, .string Z2, .string Z3])⟩] [⟨9, 22, 17, 4, fun g => .pointer (some ⟨g, 0, none⟩)⟩] [] [] [(1, 0), (2, 0)] [] (by kernel_rfl) B.out ⟨K0.out, K1.out, K2.out, trivial⟩ trivial ⟨cl H_S1.out, cl H_S2.out, cl H_S3.out, cl H_S4.out, ml 0, pu, pu, ld 0 3, ?_, wa 0, ldN 0 0, pu, pu, ?_, trivial⟩ ?_
   · intro L a U ho J hn d KK k; refine .free rfl ?_; have r20 := J.read 7 rfl (d.get 7 rfl); go_simp; exact k.out _ _ (J.st 8 rfl rfl)
   · intro L a U ho J hn d KK k; refine .free rfl ?_; have r25 := J.read 12 rfl (d.get 12 rfl); have r23 := J.read 10 rfl (d.get 10 rfl); have kb := (J.eldB 2 rfl hn); have c0 := kb.at_ 0 _ rfl; have z0 := kb.free 0; have c1 := kb.at_ 1 _ rfl; have z1 := kb.free 1; have c2 := kb.at_ 2 _ rfl; have z2 := kb.free 2; clear kb; go_simp; exact k.out undef _ (J.stored 13 2 rfl rfl (.inl rfl) rfl rfl 0 [.string A1, .string A2, .string A3] rfl L2.out lt2 ⟨.inr D0_2.out, .inr D1_2.out, .inl rfl, trivial⟩ hn trivial)
   clear K0 K1 K2 B lt0 lt1 lt2
   rintro σ W3 ⟨⟨L3, K3⟩, _⟩ ⟨K0, K1, K2, _⟩ ⟨x0, x1, _⟩ _ B
   have D1_3 : Hid (g1_1 ≠ blkOf (σ 17)) := x0
   have D2_3 : Hid (g2_5 ≠ blkOf (σ 17)) := x1
   clear x0 x1
   simp only [slotsOf, finX, nval, nvalN, nvalA, Nat.reduceBEq, cond_true, cond_false, putAll, Act.put, List.setIfInBounds_toArray, List.set_cons_succ, List.set_cons_zero]
   generalize blkOf (σ 17) = g3_4 at *
   go_upto_region 4 with (fail)
   by_cases hsl : sl = true
   ·
    have c0_6 := K0.out.at_ 6 _ rfl
    go_upto_region 5 with (fail)
    clear c0_6
    have lt0 := K0.out.lt
    have lt1 := K1.out.lt
    have lt2 := K2.out.lt
    have lt3 := K3.out.lt
    refine wp_tab [.v 28 (.agg #[.string A1, .string A2, .string A3, .string P0, .string Z1, .string Z2, .string Z3]), .z] [] [⟨g1_0, #[.int .i8 x, .int .i8 y, .int .i8 z, .int .i8 t, .int .i8 s, .int .i8 d, .bool sl, .bool sp], 56, none⟩, ⟨g1_1, #[.string ⟨#[]⟩, .string ⟨#[]⟩, .string ⟨#[]⟩, .string ⟨#[]⟩, .string ⟨#[]⟩, .string ⟨#[]⟩, .string ⟨#[]⟩], 58, some (1, #[.string A1, .string A2, .string A3, .string P0, .string Z1, .string Z2, .string Z3])⟩, ⟨g2_5, #[.string A1, .string A2, .string A3, .string P0, .string Z1, .string Z2, .string Z3], 58, none⟩, ⟨g3_4, #[.string A1, .string A2, .string A3, .string C1, .string C2, .string C3, .string D1, .string D2, .string D3, .string F1, .string F2, .string F3], 24, none⟩] [] [] [] [] [] (by kernel_rfl) B.out ⟨K0.out, K1.out, K2.out, K3.out, trivial⟩ trivial ⟨ld 2 0, ?_, trivial⟩ ?_
    · intro L a U ho J hn d KK k; refine .free rfl ?_; have r2 : a.tmps[(2 : Nat)]?.getD undef = .pointer (some ⟨g1_1, 0, none⟩) := ho.slot 2 rfl; have r28 := J.read 0 rfl (d.get 0 rfl); have kb := (J.eldB 1 rfl hn); have c0 := kb.at_ 0 _ rfl; have z0 := kb.free 0; have c1 := kb.at_ 1 _ rfl; have z1 := kb.free 1; have c2 := kb.at_ 2 _ rfl; have z2 := kb.free 2; have c3 := kb.at_ 3 _ rfl; have z3 := kb.free 3; have c4 := kb.at_ 4 _ rfl; have z4 := kb.free 4; have c5 := kb.at_ 5 _ rfl; have z5 := kb.free 5; have c6 := kb.at_ 6 _ rfl; have z6 := kb.free 6; clear kb; go_simp; exact k.out undef _ (J.stored 1 1 rfl rfl (.inl rfl) rfl rfl 0 [.string A1, .string A2, .string A3, .string P0, .string Z1, .string Z2, .string Z3] rfl L1.out lt1 ⟨.inr D0_1.out, .inl rfl, .inr (Ne.symm D1_2.out), .inr (Ne.symm D1_3.out), trivial⟩ hn trivial)
    clear K0 K1 K2 K3 B lt0 lt1 lt2 lt3
    rintro σ W4 _ ⟨K0, K1, K2, K3, _⟩ _ _ B
    simp only [slotsOf, finX, nval, nvalN, nvalA, Nat.reduceBEq, cond_true, cond_false, putAll, Act.put, List.setIfInBounds_toArray, List.set_cons_succ, List.set_cons_zero]
    go_wp2
    have c1_0 := K1.out.at_ 0 _ rfl
    have c1_1 := K1.out.at_ 1 _ rfl
    have c1_2 := K1.out.at_ 2 _ rfl
    have c1_3 := K1.out.at_ 3 _ rfl
    have c1_4 := K1.out.at_ 4 _ rfl
    have c1_5 := K1.out.at_ 5 _ rfl
    have c1_6 := K1.out.at_ 6 _ rfl
    exact bodyPost_ret (v := .agg #[.string A1, .string A2, .string A3, .string P0, .string Z1, .string Z2, .string Z3]) (by simp [results, Tryz.results27, go_sem, c1_0, c1_1, c1_2, c1_3, c1_4, c1_5, c1_6]) rfl ⟨by first | rfl | (rw [rAs hsp hk hsl] <;> rfl), B.out⟩
   ·
    have c0_6 := K0.out.at_ 6 _ rfl
    go_upto_region 6 with (fail)
    clear c0_6
    have lt0 := K0.out.lt
    have lt1 := K1.out.lt
    have lt2 := K2.out.lt
    have lt3 := K3.out.lt
    refine wp_tab [.v 30 (.pointer (some ⟨g2_5, 0, none⟩)), .v 31 (.pointer (some ⟨g2_5, 0, none⟩)), .v 32 (.agg #[.string A1, .string A2, .string A3]), .v 33 (.tuple #[.agg #[.string G1, .string G2, .string G3], .agg #[.string H1, .string H2, .string H3]]), .v 29 (.tuple #[.agg #[.string G1, .string G2, .string G3], .agg #[.string H1, .string H2, .string H3]]), .v 34 (.agg #[.string G1, .string G2, .string G3]), .v 35 (.agg #[.string H1, .string H2, .string H3]), .n 4, .n 5, .z, .z] [⟨7, 4, fun g => .pointer (some ⟨g, 0, none⟩), #[.string ⟨#[]⟩, .string ⟨#[]⟩, .string ⟨#[]⟩], 24, some (9, #[.string G1, .string G2, .string G3])⟩, ⟨8, 5, fun g => .pointer (some ⟨g, 0, none⟩), #[.string ⟨#[]⟩, .string ⟨#[]⟩, .string ⟨#[]⟩], 24, some (10, #[.string H1, .string H2, .string H3])⟩] [⟨g1_0, #[.int .i8 x, .int .i8 y, .int .i8 z, .int .i8 t, .int .i8 s, .int .i8 d, .bool sl, .bool sp], 56, none⟩, ⟨g1_1, #[.string ⟨#[]⟩, .string ⟨#[]⟩, .string ⟨#[]⟩, .string ⟨#[]⟩, .string ⟨#[]⟩, .string ⟨#[]⟩, .string ⟨#[]⟩], 58, none⟩, ⟨g2_5, #[.string A1, .string A2, .string A3, .string P0, .string Z1, .string Z2, .string Z3], 58, none⟩, ⟨g3_4, #[.string A1, .string A2, .string A3, .string C1, .string C2, .string C3, .string D1, .string D2, .string D3, .string F1, .string F2, .string F3], 24, none⟩] [] [(9, 7), (10, 8)] [(0, 1)] [(1, 0), (1, 1), (2, 0), (2, 1)] [] (by kernel_rfl) B.out ⟨K0.out, K1.out, K2.out, K3.out, trivial⟩ trivial ⟨pu, pu, ld 2 0, cl H_DIA.out, pu, pu, pu, ml 0, ml 1, ?_, ?_, trivial⟩ ?_
    · intro L a U ho J hn d KK k; refine .free rfl ?_; have r4 : a.tmps[(4 : Nat)]?.getD undef = .pointer (some ⟨(blkOf (slotOf a 4)), 0, none⟩) := J.readN 0 rfl (d.get 7 rfl); have r34 := J.read 5 rfl (d.get 5 rfl); have kb := (J.nwB 0 rfl (d.get 7 rfl) hn).blk; have c0 := kb.at_ 0 _ rfl; have z0 := kb.free 0; have c1 := kb.at_ 1 _ rfl; have z1 := kb.free 1; have c2 := kb.at_ 2 _ rfl; have z2 := kb.free 2; clear kb; go_simp; exact k.out undef _ (J.storedN 9 0 rfl rfl rfl rfl rfl 0 [.string G1, .string G2, .string G3] rfl ⟨lt0, lt1, lt2, lt3, trivial⟩ (d.get 7 rfl) hn ⟨.inr (d.get 7 rfl), .inl (by decide), trivial⟩)
    · intro L a U ho J hn d KK k; refine .free rfl ?_; have r5 : a.tmps[(5 : Nat)]?.getD undef = .pointer (some ⟨(blkOf (slotOf a 5)), 0, none⟩) := J.readN 1 rfl (d.get 8 rfl); have r35 := J.read 6 rfl (d.get 6 rfl); have kb := (J.nwB 1 rfl (d.get 8 rfl) hn).blk; have c0 := kb.at_ 0 _ rfl; have z0 := kb.free 0; have c1 := kb.at_ 1 _ rfl; have z1 := kb.free 1; have c2 := kb.at_ 2 _ rfl; have z2 := kb.free 2; clear kb; go_simp; exact k.out undef _ (J.storedN 10 1 rfl rfl rfl rfl rfl 0 [.string H1, .string H2, .string H3] rfl ⟨lt0, lt1, lt2, lt3, trivial⟩ (d.get 8 rfl) hn ⟨.inl (by decide), .inr (d.get 8 rfl), trivial⟩)
    clear K0 K1 K2 K3 B lt0 lt1 lt2 lt3
    rintro σ W4 ⟨⟨L4, K4⟩, ⟨L5, K5⟩, _⟩ ⟨K0, K1, K2, K3, _⟩ ⟨x0, x1, x2, x3, _⟩ ⟨y0, _⟩ B
    have D1_4 : Hid (g1_1 ≠ blkOf (σ 4)) := x0
    have D1_5 : Hid (g1_1 ≠ blkOf (σ 5)) := x1
    have D2_4 : Hid (g2_5 ≠ blkOf (σ 4)) := x2
    have D2_5 : Hid (g2_5 ≠ blkOf (σ 5)) := x3
    have D4_5 : Hid (blkOf (σ 4) ≠ blkOf (σ 5)) := y0
    clear x0 x1 x2 x3 y0
    simp only [slotsOf, finX, nval, nvalN, nvalA, Nat.reduceBEq, cond_true, cond_false, putAll, Act.put, List.setIfInBounds_toArray, List.set_cons_succ, List.set_cons_zero]
    generalize blkOf (σ 4) = g4_7 at *
    generalize blkOf (σ 5) = g4_8 at *
    go_upto_region 7 with (fail)
    have lt0 := K0.out.lt
    have lt1 := K1.out.lt
    have lt2 := K2.out.lt
    have lt3 := K3.out.lt
    have lt4 := K4.out.lt
    have lt5 := K5.out.lt
    refine wp_tab [.v 36 (.agg #[.string G1, .string G2, .string G3]), .v 37 (.pointer (some ⟨g1_0, 4, none⟩)), .v 38 (.int .i8 s), .v 39 (.int .i64 s), .v 40 (.int .i64 (s.tmod 4)), .v 41 (.string Q), .v 42 (.agg #[.string I1, .string I2, .string I3]), .v 43 (.agg #[.string H1, .string H2, .string H3]), .v 44 (.pointer (some ⟨g1_0, 5, none⟩)), .v 45 (.int .i8 d), .v 46 (.int .i64 d), .v 47 (.int .i64 (d.tmod 4)), .v 48 (.string R), .v 49 (.agg #[.string J1, .string J2, .string J3]), .v 50 (.agg #[.string M1, .string M2, .string M3]), .v 51 (.pointer (some ⟨g2_5, 4, none⟩)), .z] [] [⟨g1_0, #[.int .i8 x, .int .i8 y, .int .i8 z, .int .i8 t, .int .i8 s, .int .i8 d, .bool sl, .bool sp], 56, none⟩, ⟨g1_1, #[.string ⟨#[]⟩, .string ⟨#[]⟩, .string ⟨#[]⟩, .string ⟨#[]⟩, .string ⟨#[]⟩, .string ⟨#[]⟩, .string ⟨#[]⟩], 58, none⟩, ⟨g2_5, #[.string A1, .string A2, .string A3, .string P0, .string Z1, .string Z2, .string Z3], 58, some (16, #[.string A1, .string A2, .string A3, .string P0, .string M1, .string M2, .string M3])⟩, ⟨g3_4, #[.string A1, .string A2, .string A3, .string C1, .string C2, .string C3, .string D1, .string D2, .string D3, .string F1, .string F2, .string F3], 24, none⟩, ⟨g4_7, #[.string G1, .string G2, .string G3], 24, none⟩, ⟨g4_8, #[.string H1, .string H2, .string H3], 24, none⟩] [] [] [] [] [] (by kernel_rfl) B.out ⟨K0.out, K1.out, K2.out, K3.out, K4.out, K5.out, trivial⟩ trivial ⟨ld 4 0, pu, ld 0 4, ?_, ?_, cl H_O1.out, cl H_X1.out, ld 5 0, pu, ld 0 5, ?_, ?_, cl H_O2.out, cl H_X2.out, cl H_X3.out, pu, ?_, trivial⟩ ?_
    · intro L a U ho J hn d KK k; refine .free rfl ?_; have r38 := J.read 2 rfl (d.get 2 rfl); go_simp; exact k.out _ _ (J.st 3 rfl rfl)
    · intro L a U ho J hn d KK k; refine .free rfl ?_; have r39 := J.read 3 rfl (d.get 3 rfl); go_simp; exact k.out _ _ (J.st 4 rfl rfl)
    · intro L a U ho J hn d KK k; refine .free rfl ?_; have r45 := J.read 9 rfl (d.get 9 rfl); go_simp; exact k.out _ _ (J.st 10 rfl rfl)
    · intro L a U ho J hn d KK k; refine .free rfl ?_; have r46 := J.read 10 rfl (d.get 10 rfl); go_simp; exact k.out _ _ (J.st 11 rfl rfl)
    · intro L a U ho J hn d KK k; refine .free rfl ?_; have r51 := J.read 15 rfl (d.get 15 rfl); have r50 := J.read 14 rfl (d.get 14 rfl); have kb := (J.eldB 2 rfl hn); have c4 := kb.at_ 4 _ rfl; have z4 := kb.free 4; have c5 := kb.at_ 5 _ rfl; have z5 := kb.free 5; have c6 := kb.at_ 6 _ rfl; have z6 := kb.free 6; clear kb; go_simp; exact k.out undef _ (J.stored 16 2 rfl rfl (.inl rfl) rfl rfl 4 [.string M1, .string M2, .string M3] rfl L2.out lt2 ⟨.inr D0_2.out, .inr D1_2.out, .inl rfl, .inr (Ne.symm D2_3.out), .inr (Ne.symm D2_4.out), .inr (Ne.symm D2_5.out), trivial⟩ hn trivial)
    clear K0 K1 K2 K3 K4 K5 B lt0 lt1 lt2 lt3 lt4 lt5
    rintro σ W5 _ ⟨K0, K1, K2, K3, K4, K5, _⟩ _ _ B
    simp only [slotsOf, finX, nval, nvalN, nvalA, Nat.reduceBEq, cond_true, cond_false, putAll, Act.put, List.setIfInBounds_toArray, List.set_cons_succ, List.set_cons_zero]
    go_upto_region 8 with (fail)
    have lt0 := K0.out.lt
    have lt1 := K1.out.lt
    have lt2 := K2.out.lt
    have lt3 := K3.out.lt
    have lt4 := K4.out.lt
    have lt5 := K5.out.lt
    refine wp_tab [.v 52 (.agg #[.string A1, .string A2, .string A3, .string P0, .string M1, .string M2, .string M3]), .z] [] [⟨g1_0, #[.int .i8 x, .int .i8 y, .int .i8 z, .int .i8 t, .int .i8 s, .int .i8 d, .bool sl, .bool sp], 56, none⟩, ⟨g1_1, #[.string ⟨#[]⟩, .string ⟨#[]⟩, .string ⟨#[]⟩, .string ⟨#[]⟩, .string ⟨#[]⟩, .string ⟨#[]⟩, .string ⟨#[]⟩], 58, some (1, #[.string A1, .string A2, .string A3, .string P0, .string M1, .string M2, .string M3])⟩, ⟨g2_5, #[.string A1, .string A2, .string A3, .string P0, .string M1, .string M2, .string M3], 58, none⟩, ⟨g3_4, #[.string A1, .string A2, .string A3, .string C1, .string C2, .string C3, .string D1, .string D2, .string D3, .string F1, .string F2, .string F3], 24, none⟩, ⟨g4_7, #[.string G1, .string G2, .string G3], 24, none⟩, ⟨g4_8, #[.string H1, .string H2, .string H3], 24, none⟩] [] [] [] [] [] (by kernel_rfl) B.out ⟨K0.out, K1.out, K2.out, K3.out, K4.out, K5.out, trivial⟩ trivial ⟨ld 2 0, ?_, trivial⟩ ?_
    · intro L a U ho J hn d KK k; refine .free rfl ?_; have r2 : a.tmps[(2 : Nat)]?.getD undef = .pointer (some ⟨g1_1, 0, none⟩) := ho.slot 2 rfl; have r52 := J.read 0 rfl (d.get 0 rfl); have kb := (J.eldB 1 rfl hn); have c0 := kb.at_ 0 _ rfl; have z0 := kb.free 0; have c1 := kb.at_ 1 _ rfl; have z1 := kb.free 1; have c2 := kb.at_ 2 _ rfl; have z2 := kb.free 2; have c3 := kb.at_ 3 _ rfl; have z3 := kb.free 3; have c4 := kb.at_ 4 _ rfl; have z4 := kb.free 4; have c5 := kb.at_ 5 _ rfl; have z5 := kb.free 5; have c6 := kb.at_ 6 _ rfl; have z6 := kb.free 6; clear kb; go_simp; exact k.out undef _ (J.stored 1 1 rfl rfl (.inl rfl) rfl rfl 0 [.string A1, .string A2, .string A3, .string P0, .string M1, .string M2, .string M3] rfl L1.out lt1 ⟨.inr D0_1.out, .inl rfl, .inr (Ne.symm D1_2.out), .inr (Ne.symm D1_3.out), .inr (Ne.symm D1_4.out), .inr (Ne.symm D1_5.out), trivial⟩ hn trivial)
    clear K0 K1 K2 K3 K4 K5 B lt0 lt1 lt2 lt3 lt4 lt5
    rintro σ W6 _ ⟨K0, K1, K2, K3, K4, K5, _⟩ _ _ B
    simp only [slotsOf, finX, nval, nvalN, nvalA, Nat.reduceBEq, cond_true, cond_false, putAll, Act.put, List.setIfInBounds_toArray, List.set_cons_succ, List.set_cons_zero]
    go_wp2
    have c1_0 := K1.out.at_ 0 _ rfl
    have c1_1 := K1.out.at_ 1 _ rfl
    have c1_2 := K1.out.at_ 2 _ rfl
    have c1_3 := K1.out.at_ 3 _ rfl
    have c1_4 := K1.out.at_ 4 _ rfl
    have c1_5 := K1.out.at_ 5 _ rfl
    have c1_6 := K1.out.at_ 6 _ rfl
    exact bodyPost_ret (v := .agg #[.string A1, .string A2, .string A3, .string P0, .string M1, .string M2, .string M3]) (by simp [results, Tryz.results27, go_sem, c1_0, c1_1, c1_2, c1_3, c1_4, c1_5, c1_6]) rfl ⟨by first | rfl | (rw [rAm hsp hk hsl] <;> rfl), B.out⟩
  ·
   have H_DIC := Lib.hid (h_dic ⟨hsp, hk⟩)
   clear h_dic
   go_upto_region 3 with (fail)
   have lt0 := K0.out.lt
   have lt1 := K1.out.lt
   have lt2 := K2.out.lt
   refine wp_tab [.v 13 (.agg #[.string A1, .string A2, .string A3]), .v 14 (.agg #[.string C1, .string C2, .string C3]), .v 15 (.agg #[.string D1, .string D2, .string D3]), .v 16 (.agg #[.string F1, .string F2, .string F3]), .n 17, .v 18 (.pointer (some ⟨g1_0, 0, none⟩)), .v 19 (.pointer (some ⟨g1_0, 3, none⟩)), .v 20 (.int .i8 t), .v 21 (.int .i8 1), .n 22, .v 23 (.agg #[.string C1, .string C2, .string C3]), .v 24 (.pointer (some ⟨g2_5, 0, none⟩)), .v 25 (.pointer (some ⟨g2_5, 0, none⟩)), .z] [⟨4, 17, fun g => .slice (some ⟨g, 0, none⟩) 4 4, #[.string A1, .string A2, .string A3, .string C1, .string C2, .string C3, .string D1, .string D2, .string D3, .string F1, .string F2, .string F3], 24, none⟩] [⟨g1_0, #[.int .i8 x, .int .i8 y, .int .i8 z, .int .i8 t, .int .i8 s, .int .i8 d, .bool sl, .bool sp], 56, none⟩, ⟨g1_1, #[.string ⟨#[]⟩, .string ⟨#[]⟩, .string ⟨#[]⟩, .string ⟨#[]⟩, .string ⟨#[]⟩, .string ⟨#[]⟩, .string ⟨#[]⟩], 58, none⟩, ⟨g2_5, #[.string P1, .string P2, .string P3, .string P0, .string Z1, .string Z2, .string Z3], 58, some (13, #[.string C1, .string C2, .string C3, .string P0, .string Z1, .string Z2, .string Z3])⟩] [⟨9, 22, 17, 4, fun g => .pointer (some ⟨g, 3, none⟩)⟩] [] [] [(1, 0), (2, 0)] [] (by kernel_rfl) B.out ⟨K0.out, K1.out, K2.out, trivial⟩ trivial ⟨cl H_S1.out, cl H_S2.out, cl H_S3.out, cl H_S4.out, ml 0, pu, pu, ld 0 3, ?_, wa 0, ldN 0 3, pu, pu, ?_, trivial⟩ ?_
   · intro L a U ho J hn d KK k; refine .free rfl ?_; have r20 := J.read 7 rfl (d.get 7 rfl); go_simp; exact k.out _ _ (J.st 8 rfl rfl)
   · intro L a U ho J hn d KK k; refine .free rfl ?_; have r25 := J.read 12 rfl (d.get 12 rfl); have r23 := J.read 10 rfl (d.get 10 rfl); have kb := (J.eldB 2 rfl hn); have c0 := kb.at_ 0 _ rfl; have z0 := kb.free 0; have c1 := kb.at_ 1 _ rfl; have z1 := kb.free 1; have c2 := kb.at_ 2 _ rfl; have z2 := kb.free 2; clear kb; go_simp; exact k.out undef _ (J.stored 13 2 rfl rfl (.inl rfl) rfl rfl 0 [.string C1, .string C2, .string C3] rfl L2.out lt2 ⟨.inr D0_2.out, .inr D1_2.out, .inl rfl, trivial⟩ hn trivial)
   clear K0 K1 K2 B lt0 lt1 lt2
   rintro σ W3 ⟨⟨L3, K3⟩, _⟩ ⟨K0, K1, K2, _⟩ ⟨x0, x1, _⟩ _ B
   have D1_3 : Hid (g1_1 ≠ blkOf (σ 17)) := x0
   have D2_3 : Hid (g2_5 ≠ blkOf (σ 17)) := x1
   clear x0 x1
   simp only [slotsOf, finX, nval, nvalN, nvalA, Nat.reduceBEq, cond_true, cond_false, putAll, Act.put, List.setIfInBounds_toArray, List.set_cons_succ, List.set_cons_zero]
   generalize blkOf (σ 17) = g3_4 at *
   go_upto_region 4 with (fail)
   by_cases hsl : sl = true
   ·
    have c0_6 := K0.out.at_ 6 _ rfl
    go_upto_region 5 with (fail)
    clear c0_6
    have lt0 := K0.out.lt
    have lt1 := K1.out.lt
    have lt2 := K2.out.lt
    have lt3 := K3.out.lt
    refine wp_tab [.v 28 (.agg #[.string C1, .string C2, .string C3, .string P0, .string Z1, .string Z2, .string Z3]), .z] [] [⟨g1_0, #[.int .i8 x, .int .i8 y, .int .i8 z, .int .i8 t, .int .i8 s, .int .i8 d, .bool sl, .bool sp], 56, none⟩, ⟨g1_1, #[.string ⟨#[]⟩, .string ⟨#[]⟩, .string ⟨#[]⟩, .string ⟨#[]⟩, .string ⟨#[]⟩, .string ⟨#[]⟩, .string ⟨#[]⟩], 58, some (1, #[.string C1, .string C2, .string C3, .string P0, .string Z1, .string Z2, .string Z3])⟩, ⟨g2_5, #[.string C1, .string C2, .string C3, .string P0, .string Z1, .string Z2, .string Z3], 58, none⟩, ⟨g3_4, #[.string A1, .string A2, .string A3, .string C1, .string C2, .string C3, .string D1, .string D2, .string D3, .string F1, .string F2, .string F3], 24, none⟩] [] [] [] [] [] (by kernel_rfl) B.out ⟨K0.out, K1.out, K2.out, K3.out, trivial⟩ trivial ⟨ld 2 0, ?_, trivial⟩ ?_
    · intro L a U ho J hn d KK k; refine .free rfl ?_; have r2 : a.tmps[(2 : Nat)]?.getD undef = .pointer (some ⟨g1_1, 0, none⟩) := ho.slot 2 rfl; have r28 := J.read 0 rfl (d.get 0 rfl); have kb := (J.eldB 1 rfl hn); have c0 := kb.at_ 0 _ rfl; have z0 := kb.free 0; have c1 := kb.at_ 1 _ rfl; have z1 := kb.free 1; have c2 := kb.at_ 2 _ rfl; have z2 := kb.free 2; have c3 := kb.at_ 3 _ rfl; have z3 := kb.free 3; have c4 := kb.at_ 4 _ rfl; have z4 := kb.free 4; have c5 := kb.at_ 5 _ rfl; have z5 := kb.free 5; have c6 := kb.at_ 6 _ rfl; have z6 := kb.free 6; clear kb; go_simp; exact k.out undef _ (J.stored 1 1 rfl rfl (.inl rfl) rfl rfl 0 [.string C1, .string C2, .string C3, .string P0, .string Z1, .string Z2, .string Z3] rfl L1.out lt1 ⟨.inr D0_1.out, .inl rfl, .inr (Ne.symm D1_2.out), .inr (Ne.symm D1_3.out), trivial⟩ hn trivial)
    clear K0 K1 K2 K3 B lt0 lt1 lt2 lt3
    rintro σ W4 _ ⟨K0, K1, K2, K3, _⟩ _ _ B
    simp only [slotsOf, finX, nval, nvalN, nvalA, Nat.reduceBEq, cond_true, cond_false, putAll, Act.put, List.setIfInBounds_toArray, List.set_cons_succ, List.set_cons_zero]
    go_wp2
    have c1_0 := K1.out.at_ 0 _ rfl
    have c1_1 := K1.out.at_ 1 _ rfl
    have c1_2 := K1.out.at_ 2 _ rfl
    have c1_3 := K1.out.at_ 3 _ rfl
    have c1_4 := K1.out.at_ 4 _ rfl
    have c1_5 := K1.out.at_ 5 _ rfl
    have c1_6 := K1.out.at_ 6 _ rfl
    exact bodyPost_ret (v := .agg #[.string C1, .string C2, .string C3, .string P0, .string Z1, .string Z2, .string Z3]) (by simp [results, Tryz.results27, go_sem, c1_0, c1_1, c1_2, c1_3, c1_4, c1_5, c1_6]) rfl ⟨by first | rfl | (rw [rCs hsp hk hsl] <;> rfl), B.out⟩
   ·
    have c0_6 := K0.out.at_ 6 _ rfl
    go_upto_region 6 with (fail)
    clear c0_6
    have lt0 := K0.out.lt
    have lt1 := K1.out.lt
    have lt2 := K2.out.lt
    have lt3 := K3.out.lt
    refine wp_tab [.v 30 (.pointer (some ⟨g2_5, 0, none⟩)), .v 31 (.pointer (some ⟨g2_5, 0, none⟩)), .v 32 (.agg #[.string C1, .string C2, .string C3]), .v 33 (.tuple #[.agg #[.string G1, .string G2, .string G3], .agg #[.string H1, .string H2, .string H3]]), .v 29 (.tuple #[.agg #[.string G1, .string G2, .string G3], .agg #[.string H1, .string H2, .string H3]]), .v 34 (.agg #[.string G1, .string G2, .string G3]), .v 35 (.agg #[.string H1, .string H2, .string H3]), .n 4, .n 5, .z, .z] [⟨7, 4, fun g => .pointer (some ⟨g, 0, none⟩), #[.string ⟨#[]⟩, .string ⟨#[]⟩, .string ⟨#[]⟩], 24, some (9, #[.string G1, .string G2, .string G3])⟩, ⟨8, 5, fun g => .pointer (some ⟨g, 0, none⟩), #[.string ⟨#[]⟩, .string ⟨#[]⟩, .string ⟨#[]⟩], 24, some (10, #[.string H1, .string H2, .string H3])⟩] [⟨g1_0, #[.int .i8 x, .int .i8 y, .int .i8 z, .int .i8 t, .int .i8 s, .int .i8 d, .bool sl, .bool sp], 56, none⟩, ⟨g1_1, #[.string ⟨#[]⟩, .string ⟨#[]⟩, .string ⟨#[]⟩, .string ⟨#[]⟩, .string ⟨#[]⟩, .string ⟨#[]⟩, .string ⟨#[]⟩], 58, none⟩, ⟨g2_5, #[.string C1, .string C2, .string C3, .string P0, .string Z1, .string Z2, .string Z3], 58, none⟩, ⟨g3_4, #[.string A1, .string A2, .string A3, .string C1, .string C2, .string C3, .string D1, .string D2, .string D3, .string F1, .string F2, .string F3], 24, none⟩] [] [(9, 7), (10, 8)] [(0, 1)] [(1, 0), (1, 1), (2, 0), (2, 1)] [] (by kernel_rfl) B.out ⟨K0.out, K1.out, K2.out, K3.out, trivial⟩ trivial ⟨pu, pu, ld 2 0, cl H_DIC.out, pu, pu, pu, ml 0, ml 1, ?_, ?_, trivial⟩ ?_
    · intro L a U ho J hn d KK k; refine .free rfl ?_; have r4 : a.tmps[(4 : Nat)]?.getD undef = .pointer (some ⟨(blkOf (slotOf a 4)), 0, none⟩) := J.readN 0 rfl (d.get 7 rfl); have r34 := J.read 5 rfl (d.get 5 rfl); have kb := (J.nwB 0 rfl (d.get 7 rfl) hn).blk; have c0 := kb.at_ 0 _ rfl; have z0 := kb.free 0; have c1 := kb.at_ 1 _ rfl; have z1 := kb.free 1; have c2 := kb.at_ 2 _ rfl; have z2 := kb.free 2; clear kb; go_simp; exact k.out undef _ (J.storedN 9 0 rfl rfl rfl rfl rfl 0 [.string G1, .string G2, .string G3] rfl ⟨lt0, lt1, lt2, lt3, trivial⟩ (d.get 7 rfl) hn ⟨.inr (d.get 7 rfl), .inl (by decide), trivial⟩)
    · intro L a U ho J hn d KK k; refine .free rfl ?_; have r5 : a.tmps[(5 : Nat)]?.getD undef = .pointer (some ⟨(blkOf (slotOf a 5)), 0, none⟩) := J.readN 1 rfl (d.get 8 rfl); have r35 := J.read 6 rfl (d.get 6 rfl); have kb := (J.nwB 1 rfl (d.get 8 rfl) hn).blk; have c0 := kb.at_ 0 _ rfl; have z0 := kb.free 0; have c1 := kb.at_ 1 _ rfl; have z1 := kb.free 1; have c2 := kb.at_ 2 _ rfl; have z2 := kb.free 2; clear kb; go_simp; exact k.out undef _ (J.storedN 10 1 rfl rfl rfl rfl rfl 0 [.string H1, .string H2, .string H3] rfl ⟨lt0, lt1, lt2, lt3, trivial⟩ (d.get 8 rfl) hn ⟨.inl (by decide), .inr (d.get 8 rfl), trivial⟩)
    clear K0 K1 K2 K3 B lt0 lt1 lt2 lt3
    rintro σ W4 ⟨⟨L4, K4⟩, ⟨L5, K5⟩, _⟩ ⟨K0, K1, K2, K3, _⟩ ⟨x0, x1, x2, x3, _⟩ ⟨y0, _⟩ B
    have D1_4 : Hid (g1_1 ≠ blkOf (σ 4)) := x0
    have D1_5 : Hid (g1_1 ≠ blkOf (σ 5)) := x1
    have D2_4 : Hid (g2_5 ≠ blkOf (σ 4)) := x2
    have D2_5 : Hid (g2_5 ≠ blkOf (σ 5)) := x3
    have D4_5 : Hid (blkOf (σ 4) ≠ blkOf (σ 5)) := y0
    clear x0 x1 x2 x3 y0
    simp only [slotsOf, finX, nval, nvalN, nvalA, Nat.reduceBEq, cond_true, cond_false, putAll, Act.put, List.setIfInBounds_toArray, List.set_cons_succ, List.set_cons_zero]
    generalize blkOf (σ 4) = g4_7 at *
    generalize blkOf (σ 5) = g4_8 at *
    go_upto_region 7 with (fail)
    have lt0 := K0.out.lt
    have lt1 := K1.out.lt
    have lt2 := K2.out.lt
    have lt3 := K3.out.lt
    have lt4 := K4.out.lt
    have lt5 := K5.out.lt
    refine wp_tab [.v 36 (.agg #[.string G1, .string G2, .string G3]), .v 37 (.pointer (some ⟨g1_0, 4, none⟩)), .v 38 (.int .i8 s), .v 39 (.int .i64 s), .v 40 (.int .i64 (s.tmod 4)), .v 41 (.string Q), .v 42 (.agg #[.string I1, .string I2, .string I3]), .v 43 (.agg #[.string H1, .string H2, .string H3]), .v 44 (.pointer (some ⟨g1_0, 5, none⟩)), .v 45 (.int .i8 d), .v 46 (.int .i64 d), .v 47 (.int .i64 (d.tmod 4)), .v 48 (.string R), .v 49 (.agg #[.string J1, .string J2, .string J3]), .v 50 (.agg #[.string M1, .string M2, .string M3]), .v 51 (.pointer (some ⟨g2_5, 4, none⟩)), .z] [] [⟨g1_0, #[.int .i8 x, .int .i8 y, .int .i8 z, .int .i8 t, .int .i8 s, .int .i8 d, .bool sl, .bool sp], 56, none⟩, ⟨g1_1, #[.string ⟨#[]⟩, .string ⟨#[]⟩, .string ⟨#[]⟩, .string ⟨#[]⟩, .string ⟨#[]⟩, .string ⟨#[]⟩, .string ⟨#[]⟩], 58, none⟩, ⟨g2_5, #[.string C1, .string C2, .string C3, .string P0, .string Z1, .string Z2, .string Z3], 58, some (16, #[.string C1, .string C2, .string C3, .string P0, .string M1, .string M2, .string M3])⟩, ⟨g3_4, #[.string A1, .string A2, .string A3, .string C1, .string C2, .string C3, .string D1, .string D2, .string D3, .string F1, .string F2, .string F3], 24, none⟩, ⟨g4_7, #[.string G1, .string G2, .string G3], 24, none⟩, ⟨g4_8, #[.string H1, .string H2, .string H3], 24, none⟩] [] [] [] [] [] (by kernel_rfl) B.out ⟨K0.out, K1.out, K2.out, K3.out, K4.out, K5.out, trivial⟩ trivial ⟨ld 4 0, pu, ld 0 4, ?_, ?_, cl H_O1.out, cl H_X1.out, ld 5 0, pu, ld 0 5, ?_, ?_, cl H_O2.out, cl H_X2.out, cl H_X3.out, pu, ?_, trivial⟩ ?_
    · intro L a U ho J hn d KK k; refine .free rfl ?_; have r38 := J.read 2 rfl (d.get 2 rfl); go_simp; exact k.out _ _ (J.st 3 rfl rfl)
    · intro L a U ho J hn d KK k; refine .free rfl ?_; have r39 := J.read 3 rfl (d.get 3 rfl); go_simp; exact k.out _ _ (J.st 4 rfl rfl)
    · intro L a U ho J hn d KK k; refine .free rfl ?_; have r45 := J.read 9 rfl (d.get 9 rfl); go_simp; exact k.out _ _ (J.st 10 rfl rfl)
    · intro L a U ho J hn d KK k; refine .free rfl ?_; have r46 := J.read 10 rfl (d.get 10 rfl); go_simp; exact k.out _ _ (J.st 11 rfl rfl)
    · intro L a U ho J hn d KK k; refine .free rfl ?_; have r51 := J.read 15 rfl (d.get 15 rfl); have r50 := J.read 14 rfl (d.get 14 rfl); have kb := (J.eldB 2 rfl hn); have c4 := kb.at_ 4 _ rfl; have z4 := kb.free 4; have c5 := kb.at_ 5 _ rfl; have z5 := kb.free 5; have c6 := kb.at_ 6 _ rfl; have z6 := kb.free 6; clear kb; go_simp; exact k.out undef _ (J.stored 16 2 rfl rfl (.inl rfl) rfl rfl 4 [.string M1, .string M2, .string M3] rfl L2.out lt2 ⟨.inr D0_2.out, .inr D1_2.out, .inl rfl, .inr (Ne.symm D2_3.out), .inr (Ne.symm D2_4.out), .inr (Ne.symm D2_5.out), trivial⟩ hn trivial)
    clear K0 K1 K2 K3 K4 K5 B lt0 lt1 lt2 lt3 lt4 lt5
    rintro σ W5 _ ⟨K0, K1, K2, K3, K4, K5, _⟩ _ _ B
    simp only [slotsOf, finX, nval, nvalN, nvalA, Nat.reduceBEq, cond_true, cond_false, putAll, Act.put, List.setIfInBounds_toArray, List.set_cons_succ, List.set_cons_zero]
    go_upto_region 8 with (fail)
    have lt0 := K0.out.lt
    have lt1 := K1.out.lt
    have lt2 := K2.out.lt
    have lt3 := K3.out.lt
    have lt4 := K4.out.lt
    have lt5 := K5.out.lt
    refine wp_tab [.v 52 (.agg #[.string C1, .string C2, .string C3, .string P0, .string M1, .string M2, .string M3]), .z] [] [⟨g1_0, #[.int .i8 x, .int .i8 y, .int .i8 z, .int .i8 t, .int .i8 s, .int .i8 d, .bool sl, .bool sp], 56, none⟩, ⟨g1_1, #[.string ⟨#[]⟩, .string ⟨#[]⟩, .string ⟨#[]⟩, .string ⟨#[]⟩, .string ⟨#[]⟩, .string ⟨#[]⟩, .string ⟨#[]⟩], 58, some (1, #[.string C1, .string C2, .string C3, .string P0, .string M1, .string M2, .string M3])⟩, ⟨g2_5, #[.string C1, .string C2, .string C3, .string P0, .string M1, .string M2, .string M3], 58, none⟩, ⟨g3_4, #[.string A1, .string A2, .string A3, .string C1, .string C2, .string C3, .string D1, .string D2, .string D3, .string F1, .string F2, .string F3], 24, none⟩, ⟨g4_7, #[.string G1, .string G2, .string G3], 24, none⟩, ⟨g4_8, #[.string H1, .string H2, .string H3], 24, none⟩] [] [] [] [] [] (by kernel_rfl) B.out ⟨K0.out, K1.out, K2.out, K3.out, K4.out, K5.out, trivial⟩ trivial ⟨ld 2 0, ?_, trivial⟩ ?_
    · intro L a U ho J hn d KK k; refine .free rfl ?_; have r2 : a.tmps[(2 : Nat)]?.getD undef = .pointer (some ⟨g1_1, 0, none⟩) := ho.slot 2 rfl; have r52 := J.read 0 rfl (d.get 0 rfl); have kb := (J.eldB 1 rfl hn); have c0 := kb.at_ 0 _ rfl; have z0 := kb.free 0; have c1 := kb.at_ 1 _ rfl; have z1 := kb.free 1; have c2 := kb.at_ 2 _ rfl; have z2 := kb.free 2; have c3 := kb.at_ 3 _ rfl; have z3 := kb.free 3; have c4 := kb.at_ 4 _ rfl; have z4 := kb.free 4; have c5 := kb.at_ 5 _ rfl; have z5 := kb.free 5; have c6 := kb.at_ 6 _ rfl; have z6 := kb.free 6; clear kb; go_simp; exact k.out undef _ (J.stored 1 1 rfl rfl (.inl rfl) rfl rfl 0 [.string C1, .string C2, .string C3, .string P0, .string M1, .string M2, .string M3] rfl L1.out lt1 ⟨.inr D0_1.out, .inl rfl, .inr (Ne.symm D1_2.out), .inr (Ne.symm D1_3.out), .inr (Ne.symm D1_4.out), .inr (Ne.symm D1_5.out), trivial⟩ hn trivial)
    clear K0 K1 K2 K3 K4 K5 B lt0 lt1 lt2 lt3 lt4 lt5
    rintro σ W6 _ ⟨K0, K1, K2, K3, K4, K5, _⟩ _ _ B
    simp only [slotsOf, finX, nval, nvalN, nvalA, Nat.reduceBEq, cond_true, cond_false, putAll, Act.put, List.setIfInBounds_toArray, List.set_cons_succ, List.set_cons_zero]
    go_wp2
    have c1_0 := K1.out.at_ 0 _ rfl
    have c1_1 := K1.out.at_ 1 _ rfl
    have c1_2 := K1.out.at_ 2 _ rfl
    have c1_3 := K1.out.at_ 3 _ rfl
    have c1_4 := K1.out.at_ 4 _ rfl
    have c1_5 := K1.out.at_ 5 _ rfl
    have c1_6 := K1.out.at_ 6 _ rfl
    exact bodyPost_ret (v := .agg #[.string C1, .string C2, .string C3, .string P0, .string M1, .string M2, .string M3]) (by simp [results, Tryz.results27, go_sem, c1_0, c1_1, c1_2, c1_3, c1_4, c1_5, c1_6]) rfl ⟨by first | rfl | (rw [rCm hsp hk hsl] <;> rfl), B.out⟩
  ·
   have H_DID := Lib.hid (h_did ⟨hsp, hk⟩)
   clear h_did
   go_upto_region 3 with (fail)
   have lt0 := K0.out.lt
   have lt1 := K1.out.lt
   have lt2 := K2.out.lt
   refine wp_tab [.v 13 (.agg #[.string A1, .string A2, .string A3]), .v 14 (.agg #[.string C1, .string C2, .string C3]), .v 15 (.agg #[.string D1, .string D2, .string D3]), .v 16 (.agg #[.string F1, .string F2, .string F3]), .n 17, .v 18 (.pointer (some ⟨g1_0, 0, none⟩)), .v 19 (.pointer (some ⟨g1_0, 3, none⟩)), .v 20 (.int .i8 t), .v 21 (.int .i8 2), .n 22, .v 23 (.agg #[.string D1, .string D2, .string D3]), .v 24 (.pointer (some ⟨g2_5, 0, none⟩)), .v 25 (.pointer (some ⟨g2_5, 0, none⟩)), .z] [⟨4, 17, fun g => .slice (some ⟨g, 0, none⟩) 4 4, #[.string A1, .string A2, .string A3, .string C1, .string C2, .string C3, .string D1, .string D2, .string D3, .string F1, .string F2, .string F3], 24, none⟩] [⟨g1_0, #[.int .i8 x, .int .i8 y, .int .i8 z, .int .i8 t, .int .i8 s, .int .i8 d, .bool sl, .bool sp], 56, none⟩, ⟨g1_1, #[.string ⟨#[]⟩, .string ⟨#[]⟩, .string ⟨#[]⟩, .string ⟨#[]⟩, .string ⟨#[]⟩, .string ⟨#[]⟩, .string ⟨#[]⟩], 58, none⟩, ⟨g2_5, #[.string P1, .string P2, .string P3, .string P0, .string Z1, .string Z2, .string Z3], 58, some (13, #[.string D1, .string D2, .string D3, .string P0, .string Z1, .string Z2, .string Z3])⟩] [⟨9, 22, 17, 4, fun g => .pointer (some ⟨g, 6, none⟩)⟩] [] [] [(1, 0), (2, 0)] [] (by kernel_rfl) B.out ⟨K0.out, K1.out, K2.out, trivial⟩ trivial ⟨cl H_S1.out, cl H_S2.out, cl H_S3.out, cl H_S4.out, ml 0, pu, pu, ld 0 3, ?_, wa 0, ldN 0 6, pu, pu, ?_, trivial⟩ ?_
   · intro L a U ho J hn d KK k; refine .free rfl ?_; have r20 := J.read 7 rfl (d.get 7 rfl); go_simp; exact k.out _ _ (J.st 8 rfl rfl)
   · intro L a U ho J hn d KK k; refine .free rfl ?_; have r25 := J.read 12 rfl (d.get 12 rfl); have r23 := J.read 10 rfl (d.get 10 rfl); have kb := (J.eldB 2 rfl hn); have c0 := kb.at_ 0 _ rfl; have z0 := kb.free 0; have c1 := kb.at_ 1 _ rfl; have z1 := kb.free 1; have c2 := kb.at_ 2 _ rfl; have z2 := kb.free 2; clear kb; go_simp; exact k.out undef _ (J.stored 13 2 rfl rfl (.inl rfl) rfl rfl 0 [.string D1, .string D2, .string D3] rfl L2.out lt2 ⟨.inr D0_2.out, .inr D1_2.out, .inl rfl, trivial⟩ hn trivial)
   clear K0 K1 K2 B lt0 lt1 lt2
   rintro σ W3 ⟨⟨L3, K3⟩, _⟩ ⟨K0, K1, K2, _⟩ ⟨x0, x1, _⟩ _ B
   have D1_3 : Hid (g1_1 ≠ blkOf (σ 17)) := x0
   have D2_3 : Hid (g2_5 ≠ blkOf (σ 17)) := x1
   clear x0 x1
   simp only [slotsOf, finX, nval, nvalN, nvalA, Nat.reduceBEq, cond_true, cond_false, putAll, Act.put, List.setIfInBounds_toArray, List.set_cons_succ, List.set_cons_zero]
   generalize blkOf (σ 17) = g3_4 at *
   go_upto_region 4 with (fail)
   by_cases hsl : sl = true
   ·
    have c0_6 := K0.out.at_ 6 _ rfl
    go_upto_region 5 with (fail)
    clear c0_6
    have lt0 := K0.out.lt
    have lt1 := K1.out.lt
    have lt2 := K2.out.lt
    have lt3 := K3.out.lt
    refine wp_tab [.v 28 (.agg #[.string D1, .string D2, .string D3, .string P0, .string Z1, .string Z2, .string Z3]), .z] [] [⟨g1_0, #[.int .i8 x, .int .i8 y, .int .i8 z, .int .i8 t, .int .i8 s, .int .i8 d, .bool sl, .bool sp], 56, none⟩, ⟨g1_1, #[.string ⟨#[]⟩, .string ⟨#[]⟩, .string ⟨#[]⟩, .string ⟨#[]⟩, .string ⟨#[]⟩, .string ⟨#[]⟩, .string ⟨#[]⟩], 58, some (1, #[.string D1, .string D2, .string D3, .string P0, .string Z1, .string Z2, .string Z3])⟩, ⟨g2_5, #[.string D1, .string D2, .string D3, .string P0, .string Z1, .string Z2, .string Z3], 58, none⟩, ⟨g3_4, #[.string A1, .string A2, .string A3, .string C1, .string C2, .string C3, .string D1, .string D2, .string D3, .string F1, .string F2, .string F3], 24, none⟩] [] [] [] [] [] (by kernel_rfl) B.out ⟨K0.out, K1.out, K2.out, K3.out, trivial⟩ trivial ⟨ld 2 0, ?_, trivial⟩ ?_
    · intro L a U ho J hn d KK k; refine .free rfl ?_; have r2 : a.tmps[(2 : Nat)]?.getD undef = .pointer (some ⟨g1_1, 0, none⟩) := ho.slot 2 rfl; have r28 := J.read 0 rfl (d.get 0 rfl); have kb := (J.eldB 1 rfl hn); have c0 := kb.at_ 0 _ rfl; have z0 := kb.free 0; have c1 := kb.at_ 1 _ rfl; have z1 := kb.free 1; have c2 := kb.at_ 2 _ rfl; have z2 := kb.free 2; have c3 := kb.at_ 3 _ rfl; have z3 := kb.free 3; have c4 := kb.at_ 4 _ rfl; have z4 := kb.free 4; have c5 := kb.at_ 5 _ rfl; have z5 := kb.free 5; have c6 := kb.at_ 6 _ rfl; have z6 := kb.free 6; clear kb; go_simp; exact k.out undef _ (J.stored 1 1 rfl rfl (.inl rfl) rfl rfl 0 [.string D1, .string D2, .string D3, .string P0, .string Z1, .string Z2, .string Z3] rfl L1.out lt1 ⟨.inr D0_1.out, .inl rfl, .inr (Ne.symm D1_2.out), .inr (Ne.symm D1_3.out), trivial⟩ hn trivial)
    clear K0 K1 K2 K3 B lt0 lt1 lt2 lt3
    rintro σ W4 _ ⟨K0, K1, K2, K3, _⟩ _ _ B
    simp only [slotsOf, finX, nval, nvalN, nvalA, Nat.reduceBEq, cond_true, cond_false, putAll, Act.put, List.setIfInBounds_toArray, List.set_cons_succ, List.set_cons_zero]
    go_wp2
    have c1_0 := K1.out.at_ 0 _ rfl
    have c1_1 := K1.out.at_ 1 _ rfl
    have c1_2 := K1.out.at_ 2 _ rfl
    have c1_3 := K1.out.at_ 3 _ rfl
    have c1_4 := K1.out.at_ 4 _ rfl
    have c1_5 := K1.out.at_ 5 _ rfl
    have c1_6 := K1.out.at_ 6 _ rfl
    exact bodyPost_ret (v := .agg #[.string D1, .string D2, .string D3, .string P0, .string Z1, .string Z2, .string Z3]) (by simp [results, Tryz.results27, go_sem, c1_0, c1_1, c1_2, c1_3, c1_4, c1_5, c1_6]) rfl ⟨by first | rfl | (rw [rDs hsp hk hsl] <;> rfl), B.out⟩
   ·
    have c0_6 := K0.out.at_ 6 _ rfl
    go_upto_region 6 with (fail)
    clear c0_6
    have lt0 := K0.out.lt
    have lt1 := K1.out.lt
    have lt2 := K2.out.lt
    have lt3 := K3.out.lt
    refine wp_tab [.v 30 (.pointer (some ⟨g2_5, 0, none⟩)), .v 31 (.pointer (some ⟨g2_5, 0, none⟩)), .v 32 (.agg #[.string D1, .string D2, .string D3]), .v 33 (.tuple #[.agg #[.string G1, .string G2, .string G3], .agg #[.string H1, .string H2, .string H3]]), .v 29 (.tuple #[.agg #[.string G1, .string G2, .string G3], .agg #[.string H1, .string H2, .string H3]]), .v 34 (.agg #[.string G1, .string G2, .string G3]), .v 35 (.agg #[.string H1, .string H2, .string H3]), .n 4, .n 5, .z, .z] [⟨7, 4, fun g => .pointer (some ⟨g, 0, none⟩), #[.string ⟨#[]⟩, .string ⟨#[]⟩, .string ⟨#[]⟩], 24, some (9, #[.string G1, .string G2, .string G3])⟩, ⟨8, 5, fun g => .pointer (some ⟨g, 0, none⟩), #[.string ⟨#[]⟩, .string ⟨#[]⟩, .string ⟨#[]⟩], 24, some (10, #[.string H1, .string H2, .string H3])⟩] [⟨g1_0, #[.int .i8 x, .int .i8 y, .int .i8 z, .int .i8 t, .int .i8 s, .int .i8 d, .bool sl, .bool sp], 56, none⟩, ⟨g1_1, #[.string ⟨#[]⟩, .string ⟨#[]⟩, .string ⟨#[]⟩, .string ⟨#[]⟩, .string ⟨#[]⟩, .string ⟨#[]⟩, .string ⟨#[]⟩], 58, none⟩, ⟨g2_5, #[.string D1, .string D2, .string D3, .string P0, .string Z1, .string Z2, .string Z3], 58, none⟩, ⟨g3_4, #[.string A1, .string A2, .string A3, .string C1, .string C2, .string C3, .string D1, .string D2, .string D3, .string F1, .string F2, .string F3], 24, none⟩] [] [(9, 7), (10, 8)] [(0, 1)] [(1, 0), (1, 1), (2, 0), (2, 1)] [] (by kernel_rfl) B.out ⟨K0.out, K1.out, K2.out, K3.out, trivial⟩ trivial ⟨pu, pu, ld 2 0, cl H_DID.out, pu, pu, pu, ml 0, ml 1, ?_, ?_, trivial⟩ ?_
    · intro L a U ho J hn d KK k; refine .free rfl ?_; have r4 : a.tmps[(4 : Nat)]?.getD undef = .pointer (some ⟨(blkOf (slotOf a 4)), 0, none⟩) := J.readN 0 rfl (d.get 7 rfl); have r34 := J.read 5 rfl (d.get 5 rfl); have kb := (J.nwB 0 rfl (d.get 7 rfl) hn).blk; have c0 := kb.at_ 0 _ rfl; have z0 := kb.free 0; have c1 := kb.at_ 1 _ rfl; have z1 := kb.free 1; have c2 := kb.at_ 2 _ rfl; have z2 := kb.free 2; clear kb; go_simp; exact k.out undef _ (J.storedN 9 0 rfl rfl rfl rfl rfl 0 [.string G1, .string G2, .string G3] rfl ⟨lt0, lt1, lt2, lt3, trivial⟩ (d.get 7 rfl) hn ⟨.inr (d.get 7 rfl), .inl (by decide), trivial⟩)
    · intro L a U ho J hn d KK k; refine .free rfl ?_; have r5 : a.tmps[(5 : Nat)]?.getD undef = .pointer (some ⟨(blkOf (slotOf a 5)), 0, none⟩) := J.readN 1 rfl (d.get 8 rfl); have r35 := J.read 6 rfl (d.get 6 rfl); have kb := (J.nwB 1 rfl (d.get 8 rfl) hn).blk; have c0 := kb.at_ 0 _ rfl; have z0 := kb.free 0; have c1 := kb.at_ 1 _ rfl; have z1 := kb.free 1; have c2 := kb.at_ 2 _ rfl; have z2 := kb.free 2; clear kb; go_simp; exact k.out undef _ (J.storedN 10 1 rfl rfl rfl rfl rfl 0 [.string H1, .string H2, .string H3] rfl ⟨lt0, lt1, lt2, lt3, trivial⟩ (d.get 8 rfl) hn ⟨.inl (by decide), .inr (d.get 8 rfl), trivial⟩)
    clear K0 K1 K2 K3 B lt0 lt1 lt2 lt3
    rintro σ W4 ⟨⟨L4, K4⟩, ⟨L5, K5⟩, _⟩ ⟨K0, K1, K2, K3, _⟩ ⟨x0, x1, x2, x3, _⟩ ⟨y0, _⟩ B
    have D1_4 : Hid (g1_1 ≠ blkOf (σ 4)) := x0
    have D1_5 : Hid (g1_1 ≠ blkOf (σ 5)) := x1
    have D2_4 : Hid (g2_5 ≠ blkOf (σ 4)) := x2
    have D2_5 : Hid (g2_5 ≠ blkOf (σ 5)) := x3
    have D4_5 : Hid (blkOf (σ 4) ≠ blkOf (σ 5)) := y0
    clear x0 x1 x2 x3 y0
    simp only [slotsOf, finX, nval, nvalN, nvalA, Nat.reduceBEq, cond_true, cond_false, putAll, Act.put, List.setIfInBounds_toArray, List.set_cons_succ, List.set_cons_zero]
    generalize blkOf (σ 4) = g4_7 at *
    generalize blkOf (σ 5) = g4_8 at *
    go_upto_region 7 with (fail)
    have lt0 := K0.out.lt
    have lt1 := K1.out.lt
    have lt2 := K2.out.lt
    have lt3 := K3.out.lt
    have lt4 := K4.out.lt
    have lt5 := K5.out.lt
    refine wp_tab [.v 36 (.agg #[.string G1, .string G2, .string G3]), .v 37 (.pointer (some ⟨g1_0, 4, none⟩)), .v 38 (.int .i8 s), .v 39 (.int .i64 s), .v 40 (.int .i64 (s.tmod 4)), .v 41 (.string Q), .v 42 (.agg #[.string I1, .string I2, .string I3]), .v 43 (.agg #[.string H1, .string H2, .string H3]), .v 44 (.pointer (some ⟨g1_0, 5, none⟩)), .v 45 (.int .i8 d), .v 46 (.int .i64 d), .v 47 (.int .i64 (d.tmod 4)), .v 48 (.string R), .v 49 (.agg #[.string J1, .string J2, .string J3]), .v 50 (.agg #[.string M1, .string M2, .string M3]), .v 51 (.pointer (some ⟨g2_5, 4, none⟩)), .z] [] [⟨g1_0, #[.int .i8 x, .int .i8 y, .int .i8 z, .int .i8 t, .int .i8 s, .int .i8 d, .bool sl, .bool sp], 56, none⟩, ⟨g1_1, #[.string ⟨#[]⟩, .string ⟨#[]⟩, .string ⟨#[]⟩, .string ⟨#[]⟩, .string ⟨#[]⟩, .string ⟨#[]⟩, .string ⟨#[]⟩], 58, none⟩, ⟨g2_5, #[.string D1, .string D2, .string D3, .string P0, .string Z1, .string Z2, .string Z3], 58, some (16, #[.string D1, .string D2, .string D3, .string P0, .string M1, .string M2, .string M3])⟩, ⟨g3_4, #[.string A1, .string A2, .string A3, .string C1, .string C2, .string C3, .string D1, .string D2, .string D3, .string F1, .string F2, .string F3], 24, none⟩, ⟨g4_7, #[.string G1, .string G2, .string G3], 24, none⟩, ⟨g4_8, #[.string H1, .string H2, .string H3], 24, none⟩] [] [] [] [] [] (by kernel_rfl) B.out ⟨K0.out, K1.out, K2.out, K3.out, K4.out, K5.out, trivial⟩ trivial ⟨ld 4 0, pu, ld 0 4, ?_, ?_, cl H_O1.out, cl H_X1.out, ld 5 0, pu, ld 0 5, ?_, ?_, cl H_O2.out, cl H_X2.out, cl H_X3.out, pu, ?_, trivial⟩ ?_
    · intro L a U ho J hn d KK k; refine .free rfl ?_; have r38 := J.read 2 rfl (d.get 2 rfl); go_simp; exact k.out _ _ (J.st 3 rfl rfl)
    · intro L a U ho J hn d KK k; refine .free rfl ?_; have r39 := J.read 3 rfl (d.get 3 rfl); go_simp; exact k.out _ _ (J.st 4 rfl rfl)
    · intro L a U ho J hn d KK k; refine .free rfl ?_; have r45 := J.read 9 rfl (d.get 9 rfl); go_simp; exact k.out _ _ (J.st 10 rfl rfl)
    · intro L a U ho J hn d KK k; refine .free rfl ?_; have r46 := J.read 10 rfl (d.get 10 rfl); go_simp; exact k.out _ _ (J.st 11 rfl rfl)
    · intro L a U ho J hn d KK k; refine .free rfl ?_; have r51 := J.read 15 rfl (d.get 15 rfl); have r50 := J.read 14 rfl (d.get 14 rfl); have kb := (J.eldB 2 rfl hn); have c4 := kb.at_ 4 _ rfl; have z4 := kb.free 4; have c5 := kb.at_ 5 _ rfl; have z5 := kb.free 5; have c6 := kb.at_ 6 _ rfl; have z6 := kb.free 6; clear kb; go_simp; exact k.out undef _ (J.stored 16 2 rfl rfl (.inl rfl) rfl rfl 4 [.string M1, .string M2, .string M3] rfl L2.out lt2 ⟨.inr D0_2.out, .inr D1_2.out, .inl rfl, .inr (Ne.symm D2_3.out), .inr (Ne.symm D2_4.out), .inr (Ne.symm D2_5.out), trivial⟩ hn trivial)
    clear K0 K1 K2 K3 K4 K5 B lt0 lt1 lt2 lt3 lt4 lt5
    rintro σ W5 _ ⟨K0, K1, K2, K3, K4, K5, _⟩ _ _ B
    simp only [slotsOf, finX, nval, nvalN, nvalA, Nat.reduceBEq, cond_true, cond_false, putAll, Act.put, List.setIfInBounds_toArray, List.set_cons_succ, List.set_cons_zero]
    go_upto_region 8 with (fail)
    have lt0 := K0.out.lt
    have lt1 := K1.out.lt
    have lt2 := K2.out.lt
    have lt3 := K3.out.lt
    have lt4 := K4.out.lt
    have lt5 := K5.out.lt
    refine wp_tab [.v 52 (.agg #[.string D1, .string D2, .string D3, .string P0, .string M1, .string M2, .string M3]), .z] [] [⟨g1_0, #[.int .i8 x, .int .i8 y, .int .i8 z, .int .i8 t, .int .i8 s, .int .i8 d, .bool sl, .bool sp], 56, none⟩, ⟨g1_1, #[.string ⟨#[]⟩, .string ⟨#[]⟩, .string ⟨#[]⟩, .string ⟨#[]⟩, .string ⟨#[]⟩, .string ⟨#[]⟩, .string ⟨#[]⟩], 58, some (1, #[.string D1, .string D2, .string D3, .string P0, .string M1, .string M2, .string M3])⟩, ⟨g2_5, #[.string D1, .string D2, .string D3, .string P0, .string M1, .string M2, .string M3], 58, none⟩, ⟨g3_4, #[.string A1, .string A2, .string A3, .string C1, .string C2, .string C3, .string D1, .string D2, .string D3, .string F1, .string F2, .string F3], 24, none⟩, ⟨g4_7, #[.string G1, .string G2, .string G3], 24, none⟩, ⟨g4_8, #[.string H1, .string H2, .string H3], 24, none⟩] [] [] [] [] [] (by kernel_rfl) B.out ⟨K0.out, K1.out, K2.out, K3.out, K4.out, K5.out, trivial⟩ trivial ⟨ld 2 0, ?_, trivial⟩ ?_
    · intro L a U ho J hn d KK k; refine .free rfl ?_; have r2 : a.tmps[(2 : Nat)]?.getD undef = .pointer (some ⟨g1_1, 0, none⟩) := ho.slot 2 rfl; have r52 := J.read 0 rfl (d.get 0 rfl); have kb := (J.eldB 1 rfl hn); have c0 := kb.at_ 0 _ rfl; have z0 := kb.free 0; have c1 := kb.at_ 1 _ rfl; have z1 := kb.free 1; have c2 := kb.at_ 2 _ rfl; have z2 := kb.free 2; have c3 := kb.at_ 3 _ rfl; have z3 := kb.free 3; have c4 := kb.at_ 4 _ rfl; have z4 := kb.free 4; have c5 := kb.at_ 5 _ rfl; have z5 := kb.free 5; have c6 := kb.at_ 6 _ rfl; have z6 := kb.free 6; clear kb; go_simp; exact k.out undef _ (J.stored 1 1 rfl rfl (.inl rfl) rfl rfl 0 [.string D1, .string D2, .string D3, .string P0, .string M1, .string M2, .string M3] rfl L1.out lt1 ⟨.inr D0_1.out, .inl rfl, .inr (Ne.symm D1_2.out), .inr (Ne.symm D1_3.out), .inr (Ne.symm D1_4.out), .inr (Ne.symm D1_5.out), trivial⟩ hn trivial)
    clear K0 K1 K2 K3 K4 K5 B lt0 lt1 lt2 lt3 lt4 lt5
    rintro σ W6 _ ⟨K0, K1, K2, K3, K4, K5, _⟩ _ _ B
    simp only [slotsOf, finX, nval, nvalN, nvalA, Nat.reduceBEq, cond_true, cond_false, putAll, Act.put, List.setIfInBounds_toArray, List.set_cons_succ, List.set_cons_zero]
    go_wp2
    have c1_0 := K1.out.at_ 0 _ rfl
    have c1_1 := K1.out.at_ 1 _ rfl
    have c1_2 := K1.out.at_ 2 _ rfl
    have c1_3 := K1.out.at_ 3 _ rfl
    have c1_4 := K1.out.at_ 4 _ rfl
    have c1_5 := K1.out.at_ 5 _ rfl
    have c1_6 := K1.out.at_ 6 _ rfl
    exact bodyPost_ret (v := .agg #[.string D1, .string D2, .string D3, .string P0, .string M1, .string M2, .string M3]) (by simp [results, Tryz.results27, go_sem, c1_0, c1_1, c1_2, c1_3, c1_4, c1_5, c1_6]) rfl ⟨by first | rfl | (rw [rDm hsp hk hsl] <;> rfl), B.out⟩
  ·
   have H_DIF := Lib.hid (h_dif ⟨hsp, hk⟩)
   clear h_dif
   go_upto_region 3 with (fail)
   have lt0 := K0.out.lt
   have lt1 := K1.out.lt
   have lt2 := K2.out.lt
   refine wp_tab [.v 13 (.agg #[.string A1, .string A2, .string A3]), .v 14 (.agg #[.string C1, .string C2, .string C3]), .v 15 (.agg #[.string D1, .string D2, .string D3]), .v 16 (.agg #[.string F1, .string F2, .string F3]), .n 17, .v 18 (.pointer (some ⟨g1_0, 0, none⟩)), .v 19 (.pointer (some ⟨g1_0, 3, none⟩)), .v 20 (.int .i8 t), .v 21 (.int .i8 3), .n 22, .v 23 (.agg #[.string F1, .string F2, .string F3]), .v 24 (.pointer (some ⟨g2_5, 0, none⟩)), .v 25 (.pointer (some ⟨g2_5, 0, none⟩)), .z] [⟨4, 17, fun g => .slice (some ⟨g, 0, none⟩) 4 4, #[.string A1, .string A2, .string A3, .string C1, .string C2, .string C3, .string D1, .string D2, .string D3, .string F1, .string F2, .string F3], 24, none⟩] [⟨g1_0, #[.int .i8 x, .int .i8 y, .int .i8 z, .int .i8 t, .int .i8 s, .int .i8 d, .bool sl, .bool sp], 56, none⟩, ⟨g1_1, #[.string ⟨#[]⟩, .string ⟨#[]⟩, .string ⟨#[]⟩, .string ⟨#[]⟩, .string ⟨#[]⟩, .string ⟨#[]⟩, .string ⟨#[]⟩], 58, none⟩, ⟨g2_5, #[.string P1, .string P2, .string P3, .string P0, .string Z1, .string Z2, .string Z3], 58, some (13, #[.string F1, .string F2, .string F3, .string P0, .string Z1, .string Z2, .string Z3])⟩] [⟨9, 22, 17, 4, fun g => .pointer (some ⟨g, 9, none⟩)⟩] [] [] [(1, 0), (2, 0)] [] (by kernel_rfl) B.out ⟨K0.out, K1.out, K2.out, trivial⟩ trivial ⟨cl H_S1.out, cl H_S2.out, cl H_S3.out, cl H_S4.out, ml 0, pu, pu, ld 0 3, ?_, wa 0, ldN 0 9, pu, pu, ?_, trivial⟩ ?_
   · intro L a U ho J hn d KK k; refine .free rfl ?_; have r20 := J.read 7 rfl (d.get 7 rfl); go_simp; exact k.out _ _ (J.st 8 rfl rfl)
   · intro L a U ho J hn d KK k; refine .free rfl ?_; have r25 := J.read 12 rfl (d.get 12 rfl); have r23 := J.read 10 rfl (d.get 10 rfl); have kb := (J.eldB 2 rfl hn); have c0 := kb.at_ 0 _ rfl; have z0 := kb.free 0; have c1 := kb.at_ 1 _ rfl; have z1 := kb.free 1; have c2 := kb.at_ 2 _ rfl; have z2 := kb.free 2; clear kb; go_simp; exact k.out undef _ (J.stored 13 2 rfl rfl (.inl rfl) rfl rfl 0 [.string F1, .string F2, .string F3] rfl L2.out lt2 ⟨.inr D0_2.out, .inr D1_2.out, .inl rfl, trivial⟩ hn trivial)
   clear K0 K1 K2 B lt0 lt1 lt2
   rintro σ W3 ⟨⟨L3, K3⟩, _⟩ ⟨K0, K1, K2, _⟩ ⟨x0, x1, _⟩ _ B
   have D1_3 : Hid (g1_1 ≠ blkOf (σ 17)) := x0
   have D2_3 : Hid (g2_5 ≠ blkOf (σ 17)) := x1
   clear x0 x1
   simp only [slotsOf, finX, nval, nvalN, nvalA, Nat.reduceBEq, cond_true, cond_false, putAll, Act.put, List.setIfInBounds_toArray, List.set_cons_succ, List.set_cons_zero]
   generalize blkOf (σ 17) = g3_4 at *
   go_upto_region 4 with (fail)
   by_cases hsl : sl = true
   ·
    have c0_6 := K0.out.at_ 6 _ rfl
    go_upto_region 5 with (fail)
    clear c0_6
    have lt0 := K0.out.lt
    have lt1 := K1.out.lt
    have lt2 := K2.out.lt
    have lt3 := K3.out.lt
    refine wp_tab [.v 28 (.agg #[.string F1, .string F2, .string F3, .string P0, .string Z1, .string Z2, .string Z3]), .z] [] [⟨g1_0, #[.int .i8 x, .int .i8 y, .int .i8 z, .int .i8 t, .int .i8 s, .int .i8 d, .bool sl, .bool sp], 56, none⟩, ⟨g1_1, #[.string ⟨#[]⟩, .string ⟨#[]⟩, .string ⟨#[]⟩, .string ⟨#[]⟩, .string ⟨#[]⟩, .string ⟨#[]⟩, .string ⟨#[]⟩], 58, some (1, #[.string F1, .string F2, .string F3, .string P0, .string Z1, .string Z2, .string Z3])⟩, ⟨g2_5, #[.string F1, .string F2, .string F3, .string P0, .string Z1, .string Z2, .string Z3], 58, none⟩, ⟨g3_4, #[.string A1, .string A2, .string A3, .string C1, .string C2, .string C3, .string D1, .string D2, .string D3, .string F1, .string F2, .string F3], 24, none⟩] [] [] [] [] [] (by kernel_rfl) B.out ⟨K0.out, K1.out, K2.out, K3.out, trivial⟩ trivial ⟨ld 2 0, ?_, trivial⟩ ?_
    · intro L a U ho J hn d KK k; refine .free rfl ?_; have r2 : a.tmps[(2 : Nat)]?.getD undef = .pointer (some ⟨g1_1, 0, none⟩) := ho.slot 2 rfl; have r28 := J.read 0 rfl (d.get 0 rfl); have kb := (J.eldB 1 rfl hn); have c0 := kb.at_ 0 _ rfl; have z0 := kb.free 0; have c1 := kb.at_ 1 _ rfl; have z1 := kb.free 1; have c2 := kb.at_ 2 _ rfl; have z2 := kb.free 2; have c3 := kb.at_ 3 _ rfl; have z3 := kb.free 3; have c4 := kb.at_ 4 _ rfl; have z4 := kb.free 4; have c5 := kb.at_ 5 _ rfl; have z5 := kb.free 5; have c6 := kb.at_ 6 _ rfl; have z6 := kb.free 6; clear kb; go_simp; exact k.out undef _ (J.stored 1 1 rfl rfl (.inl rfl) rfl rfl 0 [.string F1, .string F2, .string F3, .string P0, .string Z1, .string Z2, .string Z3] rfl L1.out lt1 ⟨.inr D0_1.out, .inl rfl, .inr (Ne.symm D1_2.out), .inr (Ne.symm D1_3.out), trivial⟩ hn trivial)
    clear K0 K1 K2 K3 B lt0 lt1 lt2 lt3
    rintro σ W4 _ ⟨K0, K1, K2, K3, _⟩ _ _ B
    simp only [slotsOf, finX, nval, nvalN, nvalA, Nat.reduceBEq, cond_true, cond_false, putAll, Act.put, List.setIfInBounds_toArray, List.set_cons_succ, List.set_cons_zero]
    go_wp2
    have c1_0 := K1.out.at_ 0 _ rfl
    have c1_1 := K1.out.at_ 1 _ rfl
    have c1_2 := K1.out.at_ 2 _ rfl
    have c1_3 := K1.out.at_ 3 _ rfl
    have c1_4 := K1.out.at_ 4 _ rfl
    have c1_5 := K1.out.at_ 5 _ rfl
    have c1_6 := K1.out.at_ 6 _ rfl
    exact bodyPost_ret (v := .agg #[.string F1, .string F2, .string F3, .string P0, .string Z1, .string Z2, .string Z3]) (by simp [results, Tryz.results27, go_sem, c1_0, c1_1, c1_2, c1_3, c1_4, c1_5, c1_6]) rfl ⟨by first | rfl | (rw [rFs hsp hk hsl] <;> rfl), B.out⟩
   ·
    have c0_6 := K0.out.at_ 6 _ rfl
    go_upto_region 6 with (fail)
    clear c0_6
    have lt0 := K0.out.lt
    have lt1 := K1.out.lt
    have lt2 := K2.out.lt
    have lt3 := K3.out.lt
    refine wp_tab [.v 30 (.pointer (some ⟨g2_5, 0, none⟩)), .v 31 (.pointer (some ⟨g2_5, 0, none⟩)), .v 32 (.agg #[.string F1, .string F2, .string F3]), .v 33 (.tuple #[.agg #[.string G1, .string G2, .string G3], .agg #[.string H1, .string H2, .string H3]]), .v 29 (.tuple #[.agg #[.string G1, .string G2, .string G3], .agg #[.string H1, .string H2, .string H3]]), .v 34 (.agg #[.string G1, .string G2, .string G3]), .v 35 (.agg #[.string H1, .string H2, .string H3]), .n 4, .n 5, .z, .z] [⟨7, 4, fun g => .pointer (some ⟨g, 0, none⟩), #[.string ⟨#[]⟩, .string ⟨#[]⟩, .string ⟨#[]⟩], 24, some (9, #[.string G1, .string G2, .string G3])⟩, ⟨8, 5, fun g => .pointer (some ⟨g, 0, none⟩), #[.string ⟨#[]⟩, .string ⟨#[]⟩, .string ⟨#[]⟩], 24, some (10, #[.string H1, .string H2, .string H3])⟩] [⟨g1_0, #[.int .i8 x, .int .i8 y, .int .i8 z, .int .i8 t, .int .i8 s, .int .i8 d, .bool sl, .bool sp], 56, none⟩, ⟨g1_1, #[.string ⟨#[]⟩, .string ⟨#[]⟩, .string ⟨#[]⟩, .string ⟨#[]⟩, .string ⟨#[]⟩, .string ⟨#[]⟩, .string ⟨#[]⟩], 58, none⟩, ⟨g2_5, #[.string F1, .string F2, .string F3, .string P0, .string Z1, .string Z2, .string Z3], 58, none⟩, ⟨g3_4, #[.string A1, .string A2, .string A3, .string C1, .string C2, .string C3, .string D1, .string D2, .string D3, .string F1, .string F2, .string F3], 24, none⟩] [] [(9, 7), (10, 8)] [(0, 1)] [(1, 0), (1, 1), (2, 0), (2, 1)] [] (by kernel_rfl) B.out ⟨K0.out, K1.out, K2.out, K3.out, trivial⟩ trivial ⟨pu, pu, ld 2 0, cl H_DIF.out, pu, pu, pu, ml 0, ml 1, ?_, ?_, trivial⟩ ?_
    · intro L a U ho J hn d KK k; refine .free rfl ?_; have r4 : a.tmps[(4 : Nat)]?.getD undef = .pointer (some ⟨(blkOf (slotOf a 4)), 0, none⟩) := J.readN 0 rfl (d.get 7 rfl); have r34 := J.read 5 rfl (d.get 5 rfl); have kb := (J.nwB 0 rfl (d.get 7 rfl) hn).blk; have c0 := kb.at_ 0 _ rfl; have z0 := kb.free 0; have c1 := kb.at_ 1 _ rfl; have z1 := kb.free 1; have c2 := kb.at_ 2 _ rfl; have z2 := kb.free 2; clear kb; go_simp; exact k.out undef _ (J.storedN 9 0 rfl rfl rfl rfl rfl 0 [.string G1, .string G2, .string G3] rfl ⟨lt0, lt1, lt2, lt3, trivial⟩ (d.get 7 rfl) hn ⟨.inr (d.get 7 rfl), .inl (by decide), trivial⟩)
    · intro L a U ho J hn d KK k; refine .free rfl ?_; have r5 : a.tmps[(5 : Nat)]?.getD undef = .pointer (some ⟨(blkOf (slotOf a 5)), 0, none⟩) := J.readN 1 rfl (d.get 8 rfl); have r35 := J.read 6 rfl (d.get 6 rfl); have kb := (J.nwB 1 rfl (d.get 8 rfl) hn).blk; have c0 := kb.at_ 0 _ rfl; have z0 := kb.free 0; have c1 := kb.at_ 1 _ rfl; have z1 := kb.free 1; have c2 := kb.at_ 2 _ rfl; have z2 := kb.free 2; clear kb; go_simp; exact k.out undef _ (J.storedN 10 1 rfl rfl rfl rfl rfl 0 [.string H1, .string H2, .string H3] rfl ⟨lt0, lt1, lt2, lt3, trivial⟩ (d.get 8 rfl) hn ⟨.inl (by decide), .inr (d.get 8 rfl), trivial⟩)
    clear K0 K1 K2 K3 B lt0 lt1 lt2 lt3
    rintro σ W4 ⟨⟨L4, K4⟩, ⟨L5, K5⟩, _⟩ ⟨K0, K1, K2, K3, _⟩ ⟨x0, x1, x2, x3, _⟩ ⟨y0, _⟩ B
    have D1_4 : Hid (g1_1 ≠ blkOf (σ 4)) := x0
    have D1_5 : Hid (g1_1 ≠ blkOf (σ 5)) := x1
    have D2_4 : Hid (g2_5 ≠ blkOf (σ 4)) := x2
    have D2_5 : Hid (g2_5 ≠ blkOf (σ 5)) := x3
    have D4_5 : Hid (blkOf (σ 4) ≠ blkOf (σ 5)) := y0
    clear x0 x1 x2 x3 y0
    simp only [slotsOf, finX, nval, nvalN, nvalA, Nat.reduceBEq, cond_true, cond_false, putAll, Act.put, List.setIfInBounds_toArray, List.set_cons_succ, List.set_cons_zero]
    generalize blkOf (σ 4) = g4_7 at *
    generalize blkOf (σ 5) = g4_8 at *
    go_upto_region 7 with (fail)
    have lt0 := K0.out.lt
    have lt1 := K1.out.lt
    have lt2 := K2.out.lt
    have lt3 := K3.out.lt
    have lt4 := K4.out.lt
    have lt5 := K5.out.lt
    refine wp_tab [.v 36 (.agg #[.string G1, .string G2, .string G3]), .v 37 (.pointer (some ⟨g1_0, 4, none⟩)), .v 38 (.int .i8 s), .v 39 (.int .i64 s), .v 40 (.int .i64 (s.tmod 4)), .v 41 (.string Q), .v 42 (.agg #[.string I1, .string I2, .string I3]), .v 43 (.agg #[.string H1, .string H2, .string H3]), .v 44 (.pointer (some ⟨g1_0, 5, none⟩)), .v 45 (.int .i8 d), .v 46 (.int .i64 d), .v 47 (.int .i64 (d.tmod 4)), .v 48 (.string R), .v 49 (.agg #[.string J1, .string J2, .string J3]), .v 50 (.agg #[.string M1, .string M2, .string M3]), .v 51 (.pointer (some ⟨g2_5, 4, none⟩)), .z] [] [⟨g1_0, #[.int .i8 x, .int .i8 y, .int .i8 z, .int .i8 t, .int .i8 s, .int .i8 d, .bool sl, .bool sp], 56, none⟩, ⟨g1_1, #[.string ⟨#[]⟩, .string ⟨#[]⟩, .string ⟨#[]⟩, .string ⟨#[]⟩, .string ⟨#[]⟩, .string ⟨#[]⟩, .string ⟨#[]⟩], 58, none⟩, ⟨g2_5, #[.string F1, .string F2, .string F3, .string P0, .string Z1, .string Z2, .string Z3], 58, some (16, #[.string F1, .string F2, .string F3, .string P0, .string M1, .string M2, .string M3])⟩, ⟨g3_4, #[.string A1, .string A2, .string A3, .string C1, .string C2, .string C3, .string D1, .string D2, .string D3, .string F1, .string F2, .string F3], 24, none⟩, ⟨g4_7, #[.string G1, .string G2, .string G3], 24, none⟩, ⟨g4_8, #[.string H1, .string H2, .string H3], 24, none⟩] [] [] [] [] [] (by kernel_rfl) B.out ⟨K0.out, K1.out, K2.out, K3.out, K4.out, K5.out, trivial⟩ trivial ⟨ld 4 0, pu, ld 0 4, ?_, ?_, cl H_O1.out, cl H_X1.out, ld 5 0, pu, ld 0 5, ?_, ?_, cl H_O2.out, cl H_X2.out, cl H_X3.out, pu, ?_, trivial⟩ ?_
    · intro L a U ho J hn d KK k; refine .free rfl ?_; have r38 := J.read 2 rfl (d.get 2 rfl); go_simp; exact k.out _ _ (J.st 3 rfl rfl)
    · intro L a U ho J hn d KK k; refine .free rfl ?_; have r39 := J.read 3 rfl (d.get 3 rfl); go_simp; exact k.out _ _ (J.st 4 rfl rfl)
    · intro L a U ho J hn d KK k; refine .free rfl ?_; have r45 := J.read 9 rfl (d.get 9 rfl); go_simp; exact k.out _ _ (J.st 10 rfl rfl)
    · intro L a U ho J hn d KK k; refine .free rfl ?_; have r46 := J.read 10 rfl (d.get 10 rfl); go_simp; exact k.out _ _ (J.st 11 rfl rfl)
    · intro L a U ho J hn d KK k; refine .free rfl ?_; have r51 := J.read 15 rfl (d.get 15 rfl); have r50 := J.read 14 rfl (d.get 14 rfl); have kb := (J.eldB 2 rfl hn); have c4 := kb.at_ 4 _ rfl; have z4 := kb.free 4; have c5 := kb.at_ 5 _ rfl; have z5 := kb.free 5; have c6 := kb.at_ 6 _ rfl; have z6 := kb.free 6; clear kb; go_simp; exact k.out undef _ (J.stored 16 2 rfl rfl (.inl rfl) rfl rfl 4 [.string M1, .string M2, .string M3] rfl L2.out lt2 ⟨.inr D0_2.out, .inr D1_2.out, .inl rfl, .inr (Ne.symm D2_3.out), .inr (Ne.symm D2_4.out), .inr (Ne.symm D2_5.out), trivial⟩ hn trivial)
    clear K0 K1 K2 K3 K4 K5 B lt0 lt1 lt2 lt3 lt4 lt5
    rintro σ W5 _ ⟨K0, K1, K2, K3, K4, K5, _⟩ _ _ B
    simp only [slotsOf, finX, nval, nvalN, nvalA, Nat.reduceBEq, cond_true, cond_false, putAll, Act.put, List.setIfInBounds_toArray, List.set_cons_succ, List.set_cons_zero]
    go_upto_region 8 with (fail)
    have lt0 := K0.out.lt
    have lt1 := K1.out.lt
    have lt2 := K2.out.lt
    have lt3 := K3.out.lt
    have lt4 := K4.out.lt
    have lt5 := K5.out.lt
    refine wp_tab [.v 52 (.agg #[.string F1, .string F2, .string F3, .string P0, .string M1, .string M2, .string M3]), .z] [] [⟨g1_0, #[.int .i8 x, .int .i8 y, .int .i8 z, .int .i8 t, .int .i8 s, .int .i8 d, .bool sl, .bool sp], 56, none⟩, ⟨g1_1, #[.string ⟨#[]⟩, .string ⟨#[]⟩, .string ⟨#[]⟩, .string ⟨#[]⟩, .string ⟨#[]⟩, .string ⟨#[]⟩, .string ⟨#[]⟩], 58, some (1, #[.string F1, .string F2, .string F3, .string P0, .string M1, .string M2, .string M3])⟩, ⟨g2_5, #[.string F1, .string F2, .string F3, .string P0, .string M1, .string M2, .string M3], 58, none⟩, ⟨g3_4, #[.string A1, .string A2, .string A3, .string C1, .string C2, .string C3, .string D1, .string D2, .string D3, .string F1, .string F2, .string F3], 24, none⟩, ⟨g4_7, #[.string G1, .string G2, .string G3], 24, none⟩, ⟨g4_8, #[.string H1, .string H2, .string H3], 24, none⟩] [] [] [] [] [] (by kernel_rfl) B.out ⟨K0.out, K1.out, K2.out, K3.out, K4.out, K5.out, trivial⟩ trivial ⟨ld 2 0, ?_, trivial⟩ ?_
    · intro L a U ho J hn d KK k; refine .free rfl ?_; have r2 : a.tmps[(2 : Nat)]?.getD undef = .pointer (some ⟨g1_1, 0, none⟩) := ho.slot 2 rfl; have r52 := J.read 0 rfl (d.get 0 rfl); have kb := (J.eldB 1 rfl hn); have c0 := kb.at_ 0 _ rfl; have z0 := kb.free 0; have c1 := kb.at_ 1 _ rfl; have z1 := kb.free 1; have c2 := kb.at_ 2 _ rfl; have z2 := kb.free 2; have c3 := kb.at_ 3 _ rfl; have z3 := kb.free 3; have c4 := kb.at_ 4 _ rfl; have z4 := kb.free 4; have c5 := kb.at_ 5 _ rfl; have z5 := kb.free 5; have c6 := kb.at_ 6 _ rfl; have z6 := kb.free 6; clear kb; go_simp; exact k.out undef _ (J.stored 1 1 rfl rfl (.inl rfl) rfl rfl 0 [.string F1, .string F2, .string F3, .string P0, .string M1, .string M2, .string M3] rfl L1.out lt1 ⟨.inr D0_1.out, .inl rfl, .inr (Ne.symm D1_2.out), .inr (Ne.symm D1_3.out), .inr (Ne.symm D1_4.out), .inr (Ne.symm D1_5.out), trivial⟩ hn trivial)
    clear K0 K1 K2 K3 K4 K5 B lt0 lt1 lt2 lt3 lt4 lt5
    rintro σ W6 _ ⟨K0, K1, K2, K3, K4, K5, _⟩ _ _ B
    simp only [slotsOf, finX, nval, nvalN, nvalA, Nat.reduceBEq, cond_true, cond_false, putAll, Act.put, List.setIfInBounds_toArray, List.set_cons_succ, List.set_cons_zero]
    go_wp2
    have c1_0 := K1.out.at_ 0 _ rfl
    have c1_1 := K1.out.at_ 1 _ rfl
    have c1_2 := K1.out.at_ 2 _ rfl
    have c1_3 := K1.out.at_ 3 _ rfl
    have c1_4 := K1.out.at_ 4 _ rfl
    have c1_5 := K1.out.at_ 5 _ rfl
    have c1_6 := K1.out.at_ 6 _ rfl
    exact bodyPost_ret (v := .agg #[.string F1, .string F2, .string F3, .string P0, .string M1, .string M2, .string M3]) (by simp [results, Tryz.results27, go_sem, c1_0, c1_1, c1_2, c1_3, c1_4, c1_5, c1_6]) rfl ⟨by first | rfl | (rw [rFm hsp hk hsl] <;> rfl), B.out⟩
 ·
  have H_DIP := Lib.hid (h_dip hsp)
  clear h_dip
  have c0_7 := K0.out.at_ 7 _ rfl
  go_upto_region 4 with (fail)
  clear c0_7
  by_cases hsl : sl = true
  ·
   have c0_6 := K0.out.at_ 6 _ rfl
   go_upto_region 5 with (fail)
   clear c0_6
   have lt0 := K0.out.lt
   have lt1 := K1.out.lt
   have lt2 := K2.out.lt
   refine wp_tab [.v 28 (.agg #[.string P1, .string P2, .string P3, .string P0, .string Z1, .string Z2, .string Z3]), .z] [] [⟨g1_0, #[.int .i8 x, .int .i8 y, .int .i8 z, .int .i8 t, .int .i8 s, .int .i8 d, .bool sl, .bool sp], 56, none⟩, ⟨g1_1, #[.string ⟨#[]⟩, .string ⟨#[]⟩, .string ⟨#[]⟩, .string ⟨#[]⟩, .string ⟨#[]⟩, .string ⟨#[]⟩, .string ⟨#[]⟩], 58, some (1, #[.string P1, .string P2, .string P3, .string P0, .string Z1, .string Z2, .string Z3])⟩, ⟨g2_5, #[.string P1, .string P2, .string P3, .string P0, .string Z1, .string Z2, .string Z3], 58, none⟩] [] [] [] [] [] (by kernel_rfl) B.out ⟨K0.out, K1.out, K2.out, trivial⟩ trivial ⟨ld 2 0, ?_, trivial⟩ ?_
   · intro L a U ho J hn d KK k; refine .free rfl ?_; have r2 : a.tmps[(2 : Nat)]?.getD undef = .pointer (some ⟨g1_1, 0, none⟩) := ho.slot 2 rfl; have r28 := J.read 0 rfl (d.get 0 rfl); have kb := (J.eldB 1 rfl hn); have c0 := kb.at_ 0 _ rfl; have z0 := kb.free 0; have c1 := kb.at_ 1 _ rfl; have z1 := kb.free 1; have c2 := kb.at_ 2 _ rfl; have z2 := kb.free 2; have c3 := kb.at_ 3 _ rfl; have z3 := kb.free 3; have c4 := kb.at_ 4 _ rfl; have z4 := kb.free 4; have c5 := kb.at_ 5 _ rfl; have z5 := kb.free 5; have c6 := kb.at_ 6 _ rfl; have z6 := kb.free 6; clear kb; go_simp; exact k.out undef _ (J.stored 1 1 rfl rfl (.inl rfl) rfl rfl 0 [.string P1, .string P2, .string P3, .string P0, .string Z1, .string Z2, .string Z3] rfl L1.out lt1 ⟨.inr D0_1.out, .inl rfl, .inr (Ne.symm D1_2.out), trivial⟩ hn trivial)
   clear K0 K1 K2 B lt0 lt1 lt2
   rintro σ W3 _ ⟨K0, K1, K2, _⟩ _ _ B
   simp only [slotsOf, finX, nval, nvalN, nvalA, Nat.reduceBEq, cond_true, cond_false, putAll, Act.put, List.setIfInBounds_toArray, List.set_cons_succ, List.set_cons_zero]
   go_wp2
   have c1_0 := K1.out.at_ 0 _ rfl
   have c1_1 := K1.out.at_ 1 _ rfl
   have c1_2 := K1.out.at_ 2 _ rfl
   have c1_3 := K1.out.at_ 3 _ rfl
   have c1_4 := K1.out.at_ 4 _ rfl
   have c1_5 := K1.out.at_ 5 _ rfl
   have c1_6 := K1.out.at_ 6 _ rfl
   exact bodyPost_ret (v := .agg #[.string P1, .string P2, .string P3, .string P0, .string Z1, .string Z2, .string Z3]) (by simp [results, Tryz.results27, go_sem, c1_0, c1_1, c1_2, c1_3, c1_4, c1_5, c1_6]) rfl ⟨by first | rfl | (rw [rPs hsp hsl] <;> rfl), B.out⟩
  ·
   have c0_6 := K0.out.at_ 6 _ rfl
   go_upto_region 6 with (fail)
   clear c0_6
   have lt0 := K0.out.lt
   have lt1 := K1.out.lt
   have lt2 := K2.out.lt
   refine wp_tab [.v 30 (.pointer (some ⟨g2_5, 0, none⟩)), .v 31 (.pointer (some ⟨g2_5, 0, none⟩)), .v 32 (.agg #[.string P1, .string P2, .string P3]), .v 33 (.tuple #[.agg #[.string G1, .string G2, .string G3], .agg #[.string H1, .string H2, .string H3]]), .v 29 (.tuple #[.agg #[.string G1, .string G2, .string G3], .agg #[.string H1, .string H2, .string H3]]), .v 34 (.agg #[.string G1, .string G2, .string G3]), .v 35 (.agg #[.string H1, .string H2, .string H3]), .n 4, .n 5, .z, .z] [⟨7, 4, fun g => .pointer (some ⟨g, 0, none⟩), #[.string ⟨#[]⟩, .string ⟨#[]⟩, .string ⟨#[]⟩], 24, some (9, #[.string G1, .string G2, .string G3])⟩, ⟨8, 5, fun g => .pointer (some ⟨g, 0, none⟩), #[.string ⟨#[]⟩, .string ⟨#[]⟩, .string ⟨#[]⟩], 24, some (10, #[.string H1, .string H2, .string H3])⟩] [⟨g1_0, #[.int .i8 x, .int .i8 y, .int .i8 z, .int .i8 t, .int .i8 s, .int .i8 d, .bool sl, .bool sp], 56, none⟩, ⟨g1_1, #[.string ⟨#[]⟩, .string ⟨#[]⟩, .string ⟨#[]⟩, .string ⟨#[]⟩, .string ⟨#[]⟩, .string ⟨#[]⟩, .string ⟨#[]⟩], 58, none⟩, ⟨g2_5, #[.string P1, .string P2, .string P3, .string P0, .string Z1, .string Z2, .string Z3], 58, none⟩] [] [(9, 7), (10, 8)] [(0, 1)] [(1, 0), (1, 1), (2, 0), (2, 1)] [] (by kernel_rfl) B.out ⟨K0.out, K1.out, K2.out, trivial⟩ trivial ⟨pu, pu, ld 2 0, cl H_DIP.out, pu, pu, pu, ml 0, ml 1, ?_, ?_, trivial⟩ ?_
   · intro L a U ho J hn d KK k; refine .free rfl ?_; have r4 : a.tmps[(4 : Nat)]?.getD undef = .pointer (some ⟨(blkOf (slotOf a 4)), 0, none⟩) := J.readN 0 rfl (d.get 7 rfl); have r34 := J.read 5 rfl (d.get 5 rfl); have kb := (J.nwB 0 rfl (d.get 7 rfl) hn).blk; have c0 := kb.at_ 0 _ rfl; have z0 := kb.free 0; have c1 := kb.at_ 1 _ rfl; have z1 := kb.free 1; have c2 := kb.at_ 2 _ rfl; have z2 := kb.free 2; clear kb; go_simp; exact k.out undef _ (J.storedN 9 0 rfl rfl rfl rfl rfl 0 [.string G1, .string G2, .string G3] rfl ⟨lt0, lt1, lt2, trivial⟩ (d.get 7 rfl) hn ⟨.inr (d.get 7 rfl), .inl (by decide), trivial⟩)
   · intro L a U ho J hn d KK k; refine .free rfl ?_; have r5 : a.tmps[(5 : Nat)]?.getD undef = .pointer (some ⟨(blkOf (slotOf a 5)), 0, none⟩) := J.readN 1 rfl (d.get 8 rfl); have r35 := J.read 6 rfl (d.get 6 rfl); have kb := (J.nwB 1 rfl (d.get 8 rfl) hn).blk; have c0 := kb.at_ 0 _ rfl; have z0 := kb.free 0; have c1 := kb.at_ 1 _ rfl; have z1 := kb.free 1; have c2 := kb.at_ 2 _ rfl; have z2 := kb.free 2; clear kb; go_simp; exact k.out undef _ (J.storedN 10 1 rfl rfl rfl rfl rfl 0 [.string H1, .string H2, .string H3] rfl ⟨lt0, lt1, lt2, trivial⟩ (d.get 8 rfl) hn ⟨.inl (by decide), .inr (d.get 8 rfl), trivial⟩)
   clear K0 K1 K2 B lt0 lt1 lt2
   rintro σ W3 ⟨⟨L3, K3⟩, ⟨L4, K4⟩, _⟩ ⟨K0, K1, K2, _⟩ ⟨x0, x1, x2, x3, _⟩ ⟨y0, _⟩ B
   have D1_3 : Hid (g1_1 ≠ blkOf (σ 4)) := x0
   have D1_4 : Hid (g1_1 ≠ blkOf (σ 5)) := x1
   have D2_3 : Hid (g2_5 ≠ blkOf (σ 4)) := x2
   have D2_4 : Hid (g2_5 ≠ blkOf (σ 5)) := x3
   have D3_4 : Hid (blkOf (σ 4) ≠ blkOf (σ 5)) := y0
   clear x0 x1 x2 x3 y0
   simp only [slotsOf, finX, nval, nvalN, nvalA, Nat.reduceBEq, cond_true, cond_false, putAll, Act.put, List.setIfInBounds_toArray, List.set_cons_succ, List.set_cons_zero]
   generalize blkOf (σ 4) = g3_7 at *
   generalize blkOf (σ 5) = g3_8 at *
   go_upto_region 7 with (fail)
   have lt0 := K0.out.lt
   have lt1 := K1.out.lt
   have lt2 := K2.out.lt
   have lt3 := K3.out.lt
   have lt4 := K4.out.lt
   refine wp_tab [.v 36 (.agg #[.string G1, .string G2, .string G3]), .v 37 (.pointer (some ⟨g1_0, 4, none⟩)), .v 38 (.int .i8 s), .v 39 (.int .i64 s), .v 40 (.int .i64 (s.tmod 4)), .v 41 (.string Q), .v 42 (.agg #[.string I1, .string I2, .string I3]), .v 43 (.agg #[.string H1, .string H2, .string H3]), .v 44 (.pointer (some ⟨g1_0, 5, none⟩)), .v 45 (.int .i8 d), .v 46 (.int .i64 d), .v 47 (.int .i64 (d.tmod 4)), .v 48 (.string R), .v 49 (.agg #[.string J1, .string J2, .string J3]), .v 50 (.agg #[.string M1, .string M2, .string M3]), .v 51 (.pointer (some ⟨g2_5, 4, none⟩)), .z] [] [⟨g1_0, #[.int .i8 x, .int .i8 y, .int .i8 z, .int .i8 t, .int .i8 s, .int .i8 d, .bool sl, .bool sp], 56, none⟩, ⟨g1_1, #[.string ⟨#[]⟩, .string ⟨#[]⟩, .string ⟨#[]⟩, .string ⟨#[]⟩, .string ⟨#[]⟩, .string ⟨#[]⟩, .string ⟨#[]⟩], 58, none⟩, ⟨g2_5, #[.string P1, .string P2, .string P3, .string P0, .string Z1, .string Z2, .string Z3], 58, some (16, #[.string P1, .string P2, .string P3, .string P0, .string M1, .string M2, .string M3])⟩, ⟨g3_7, #[.string G1, .string G2, .string G3], 24, none⟩, ⟨g3_8, #[.string H1, .string H2, .string H3], 24, none⟩] [] [] [] [] [] (by kernel_rfl) B.out ⟨K0.out, K1.out, K2.out, K3.out, K4.out, trivial⟩ trivial ⟨ld 3 0, pu, ld 0 4, ?_, ?_, cl H_O1.out, cl H_X1.out, ld 4 0, pu, ld 0 5, ?_, ?_, cl H_O2.out, cl H_X2.out, cl H_X3.out, pu, ?_, trivial⟩ ?_
   · intro L a U ho J hn d KK k; refine .free rfl ?_; have r38 := J.read 2 rfl (d.get 2 rfl); go_simp; exact k.out _ _ (J.st 3 rfl rfl)
   · intro L a U ho J hn d KK k; refine .free rfl ?_; have r39 := J.read 3 rfl (d.get 3 rfl); go_simp; exact k.out _ _ (J.st 4 rfl rfl)
   · intro L a U ho J hn d KK k; refine .free rfl ?_; have r45 := J.read 9 rfl (d.get 9 rfl); go_simp; exact k.out _ _ (J.st 10 rfl rfl)
   · intro L a U ho J hn d KK k; refine .free rfl ?_; have r46 := J.read 10 rfl (d.get 10 rfl); go_simp; exact k.out _ _ (J.st 11 rfl rfl)
   · intro L a U ho J hn d KK k; refine .free rfl ?_; have r51 := J.read 15 rfl (d.get 15 rfl); have r50 := J.read 14 rfl (d.get 14 rfl); have kb := (J.eldB 2 rfl hn); have c4 := kb.at_ 4 _ rfl; have z4 := kb.free 4; have c5 := kb.at_ 5 _ rfl; have z5 := kb.free 5; have c6 := kb.at_ 6 _ rfl; have z6 := kb.free 6; clear kb; go_simp; exact k.out undef _ (J.stored 16 2 rfl rfl (.inl rfl) rfl rfl 4 [.string M1, .string M2, .string M3] rfl L2.out lt2 ⟨.inr D0_2.out, .inr D1_2.out, .inl rfl, .inr (Ne.symm D2_3.out), .inr (Ne.symm D2_4.out), trivial⟩ hn trivial)
   clear K0 K1 K2 K3 K4 B lt0 lt1 lt2 lt3 lt4
   rintro σ W4 _ ⟨K0, K1, K2, K3, K4, _⟩ _ _ B
   simp only [slotsOf, finX, nval, nvalN, nvalA, Nat.reduceBEq, cond_true, cond_false, putAll, Act.put, List.setIfInBounds_toArray, List.set_cons_succ, List.set_cons_zero]
   go_upto_region 8 with (fail)
   have lt0 := K0.out.lt
   have lt1 := K1.out.lt
   have lt2 := K2.out.lt
   have lt3 := K3.out.lt
   have lt4 := K4.out.lt
   refine wp_tab [.v 52 (.agg #[.string P1, .string P2, .string P3, .string P0, .string M1, .string M2, .string M3]), .z] [] [⟨g1_0, #[.int .i8 x, .int .i8 y, .int .i8 z, .int .i8 t, .int .i8 s, .int .i8 d, .bool sl, .bool sp], 56, none⟩, ⟨g1_1, #[.string ⟨#[]⟩, .string ⟨#[]⟩, .string ⟨#[]⟩, .string ⟨#[]⟩, .string ⟨#[]⟩, .string ⟨#[]⟩, .string ⟨#[]⟩], 58, some (1, #[.string P1, .string P2, .string P3, .string P0, .string M1, .string M2, .string M3])⟩, ⟨g2_5, #[.string P1, .string P2, .string P3, .string P0, .string M1, .string M2, .string M3], 58, none⟩, ⟨g3_7, #[.string G1, .string G2, .string G3], 24, none⟩, ⟨g3_8, #[.string H1, .string H2, .string H3], 24, none⟩] [] [] [] [] [] (by kernel_rfl) B.out ⟨K0.out, K1.out, K2.out, K3.out, K4.out, trivial⟩ trivial ⟨ld 2 0, ?_, trivial⟩ ?_
   · intro L a U ho J hn d KK k; refine .free rfl ?_; have r2 : a.tmps[(2 : Nat)]?.getD undef = .pointer (some ⟨g1_1, 0, none⟩) := ho.slot 2 rfl; have r52 := J.read 0 rfl (d.get 0 rfl); have kb := (J.eldB 1 rfl hn); have c0 := kb.at_ 0 _ rfl; have z0 := kb.free 0; have c1 := kb.at_ 1 _ rfl; have z1 := kb.free 1; have c2 := kb.at_ 2 _ rfl; have z2 := kb.free 2; have c3 := kb.at_ 3 _ rfl; have z3 := kb.free 3; have c4 := kb.at_ 4 _ rfl; have z4 := kb.free 4; have c5 := kb.at_ 5 _ rfl; have z5 := kb.free 5; have c6 := kb.at_ 6 _ rfl; have z6 := kb.free 6; clear kb; go_simp; exact k.out undef _ (J.stored 1 1 rfl rfl (.inl rfl) rfl rfl 0 [.string P1, .string P2, .string P3, .string P0, .string M1, .string M2, .string M3] rfl L1.out lt1 ⟨.inr D0_1.out, .inl rfl, .inr (Ne.symm D1_2.out), .inr (Ne.symm D1_3.out), .inr (Ne.symm D1_4.out), trivial⟩ hn trivial)
   clear K0 K1 K2 K3 K4 B lt0 lt1 lt2 lt3 lt4
   rintro σ W5 _ ⟨K0, K1, K2, K3, K4, _⟩ _ _ B
   simp only [slotsOf, finX, nval, nvalN, nvalA, Nat.reduceBEq, cond_true, cond_false, putAll, Act.put, List.setIfInBounds_toArray, List.set_cons_succ, List.set_cons_zero]
   go_wp2
   have c1_0 := K1.out.at_ 0 _ rfl
   have c1_1 := K1.out.at_ 1 _ rfl
   have c1_2 := K1.out.at_ 2 _ rfl
   have c1_3 := K1.out.at_ 3 _ rfl
   have c1_4 := K1.out.at_ 4 _ rfl
   have c1_5 := K1.out.at_ 5 _ rfl
   have c1_6 := K1.out.at_ 6 _ rfl
   exact bodyPost_ret (v := .agg #[.string P1, .string P2, .string P3, .string P0, .string M1, .string M2, .string M3]) (by simp [results, Tryz.results27, go_sem, c1_0, c1_1, c1_2, c1_3, c1_4, c1_5, c1_6]) rfl ⟨by first | rfl | (rw [rPm hsp hsl] <;> rfl), B.out⟩

end Go.Proofs.YtopilnlniidejaaGreatDoor
