/- The walks of the laws of klippelaw42, over texts: SlipParts. -/
import Derived.Test.YtopilnlniidejaaGreatDoorShelf
import Derived.Test.YtopilnlniidejaaGreatDoorGPar
import Derived.Deep.RegionHeld3
import Derived.Laws.ResultCell
import Derived.Deep.Cut
import Derived.Deep.CutRange
import Derived.Deep.DeepCutAuto
import Derived.Outline
namespace Go.Proofs.YtopilnlniidejaaGreatDoor
set_option linter.all false
open Go.RowKit

set_option maxRecDepth 100000 in
set_option maxHeartbeats 20000000 in
theorem parts_of {A1 A2 A3 A0 S1 S2 S3 Q R T T1 T2 G1 G2 G3 H1 H2 H3 I1 I2 I3 J1 J2 J3 : ByteArray} {x y z t s d : Int} {sl sp : Bool} {k : Int} {fl ax : Bool} (w : World)
  (h1 : fl = true → (A1.toList == [48]) = true := by intros; contradiction)
  (h2 : fl = true → (A2.toList == [48]) = true := by intros; contradiction)
  (h3 : fl = false → ax = false → (A1.toList == [48]) = false := by intros; contradiction)
  (h4 : fl = false → ax = true → (A1.toList == [48]) = true := by intros; contradiction)
  (h5 : fl = false → ax = true → (A2.toList == [48]) = false := by intros; contradiction)
  (h_kn : Ret Tryz.prog w 11 #[] (.bool true))
  (h_mk : Ret Tryz.prog w 27 #[.agg #[.int .i8 x, .int .i8 y, .int .i8 z, .int .i8 t, .int .i8 s, .int .i8 d, .bool sl, .bool sp]] (.agg #[.string A1, .string A2, .string A3, .string A0, .string S1, .string S2, .string S3]))
  (h_pa : fl = true → Ret Tryz.prog w 33 #[.agg #[.string A1, .string A2, .string A3, .string A0, .string S1, .string S2, .string S3]] (.tuple #[.string ⟨#[]⟩, .string ⟨#[]⟩, .int .i64 18]) := by intros; contradiction)
  (h_pb : fl = false → Ret Tryz.prog w 33 #[.agg #[.string A1, .string A2, .string A3, .string A0, .string S1, .string S2, .string S3]] (.tuple #[.string Q, .string R, .int .i64 0]) := by intros; contradiction)
  (h_ki : Ret Tryz.prog w 34 #[.agg #[.string A1, .string A2, .string A3, .string A0, .string S1, .string S2, .string S3]] (.tuple #[.int .i64 k, .int .i64 0]))
  (h_th : Ret Tryz.prog w 35 #[.agg #[.string A1, .string A2, .string A3, .string A0, .string S1, .string S2, .string S3]] (.tuple #[.string S3, .int .i64 0]))
  (h_he : Ret Tryz.prog w 36 #[.agg #[.string A1, .string A2, .string A3, .string A0, .string S1, .string S2, .string S3]] (.tuple #[.string T, .int .i64 0]))
  (h_m1 : Ret Tryz.prog w 37 #[.string S1, .string S1] (.string T1))
  (h_m2 : Ret Tryz.prog w 37 #[.string S2, .string S2] (.string T2))
  (h_a1 : Ret Tryz.prog w 29 #[.string T1, .string T2] (.string T))
  (h_lk : Ret Tryz.prog w 38 #[.agg #[.string A1, .string A2, .string A3, .string A0, .string S1, .string S2, .string S3]] (.int .i64 k))
  (h_nu : fl = false → ∀ (W : World) (b0 : Nat), Blk W b0 #[.string Q, .string R] 22 → Below w.heap.size w W → Calls Tryz.prog 39 #[.slice (some ⟨b0, 0, none⟩) 2 2] W fun e w' => e = .returned (.bool true) ∧ Below W.heap.size W w' := by intros; contradiction)
  (h_di : fl = false → Ret Tryz.prog w 40 #[.agg #[.string A1, .string A2, .string A3]] (.tuple #[.agg #[.string G1, .string G2, .string G3], .agg #[.string H1, .string H2, .string H3]]) := by intros; contradiction)
  (h_s1 : fl = false → Ret Tryz.prog w 24 #[.agg #[.string G1, .string G2, .string G3], .string Q] (.agg #[.string I1, .string I2, .string I3]) := by intros; contradiction)
  (h_s2 : fl = false → Ret Tryz.prog w 24 #[.agg #[.string H1, .string H2, .string H3], .string R] (.agg #[.string J1, .string J2, .string J3]) := by intros; contradiction)
  (h_ad : fl = false → Ret Tryz.prog w 23 #[.agg #[.string I1, .string I2, .string I3], .agg #[.string J1, .string J2, .string J3]] (.agg #[.string S1, .string S2, .string S3]) := by intros; contradiction) :
  Calls Tryz.prog 7 #[.agg #[.int .i8 x, .int .i8 y, .int .i8 z, .int .i8 t, .int .i8 s, .int .i8 d, .bool sl, .bool sp]] w fun e w' => e = .returned (.bool true) ∧ Below w.heap.size w w' := by
 have H_KN := Lib.hid h_kn
 have H_MK := Lib.hid h_mk
 have H_KI := Lib.hid h_ki
 have H_TH := Lib.hid h_th
 have H_HE := Lib.hid h_he
 have H_M1 := Lib.hid h_m1
 have H_M2 := Lib.hid h_m2
 have H_A1 := Lib.hid h_a1
 have H_LK := Lib.hid h_lk
 clear h_kn h_mk h_ki h_th h_he h_m1 h_m2 h_a1 h_lk
 have B := Lib.hid (Below.refl w.heap.size w)
 go_enter Tryz.func7, Tryz.ntmps7
 go_upto_region 0 with (fail)
 refine wp_tab [.n 1, .v 2 (.bool false)] [⟨0, 1, fun g => .pointer (some ⟨g, 0, none⟩), #[.int .i8 x, .int .i8 y, .int .i8 z, .int .i8 t, .int .i8 s, .int .i8 d, .bool sl, .bool sp], 56, none⟩] [] [] [] [] [] [] (by kernel_rfl) B.out trivial trivial ⟨ml 0, pu, trivial⟩ ?_
 clear B
 rintro σ W1 ⟨⟨L0, K0⟩, _⟩ _ _ _ B
 simp only [slotsOf, finX, nval, nvalN, nvalA, Nat.reduceBEq, cond_true, cond_false, putAll, Act.put, List.setIfInBounds_toArray, List.set_cons_succ, List.set_cons_zero]
 generalize blkOf (σ 1) = g1_0 at *
 go_upto_region 3 with (
  (first
  | (go_at_call 11; with_reducible refine (H_KN.out _ (baseI B.out)).mono ?_)
  | fail "arm"); rintro e wx ⟨rfl, q⟩; replace K0 := Lib.hid (K0.out.nearI q); replace B := Lib.hid (goI B.out q); clear q)
 have lt0 := K0.out.lt
 refine wp_tab [.v 18 (.agg #[.int .i8 x, .int .i8 y, .int .i8 z, .int .i8 t, .int .i8 s, .int .i8 d, .bool sl, .bool sp]), .v 19 (.agg #[.string A1, .string A2, .string A3, .string A0, .string S1, .string S2, .string S3]), .n 3, .z] [⟨2, 3, fun g => .pointer (some ⟨g, 0, none⟩), #[.string ⟨#[]⟩, .string ⟨#[]⟩, .string ⟨#[]⟩, .string ⟨#[]⟩, .string ⟨#[]⟩, .string ⟨#[]⟩, .string ⟨#[]⟩], 58, some (3, #[.string A1, .string A2, .string A3, .string A0, .string S1, .string S2, .string S3])⟩] [⟨g1_0, #[.int .i8 x, .int .i8 y, .int .i8 z, .int .i8 t, .int .i8 s, .int .i8 d, .bool sl, .bool sp], 56, none⟩] [] [(3, 2)] [] [] [] (by kernel_rfl) B.out ⟨K0.out, trivial⟩ trivial ⟨ld 0 0, cl H_MK.out, ml 0, ?_, trivial⟩ ?_
 · intro L a U ho J hn d KK k; refine .free rfl ?_; have r3 : a.tmps[(3 : Nat)]?.getD undef = .pointer (some ⟨(blkOf (slotOf a 3)), 0, none⟩) := J.readN 0 rfl (d.get 2 rfl); have r19 := J.read 1 rfl (d.get 1 rfl); have kb := (J.nwB 0 rfl (d.get 2 rfl) hn).blk; have c0 := kb.at_ 0 _ rfl; have z0 := kb.free 0; have c1 := kb.at_ 1 _ rfl; have z1 := kb.free 1; have c2 := kb.at_ 2 _ rfl; have z2 := kb.free 2; have c3 := kb.at_ 3 _ rfl; have z3 := kb.free 3; have c4 := kb.at_ 4 _ rfl; have z4 := kb.free 4; have c5 := kb.at_ 5 _ rfl; have z5 := kb.free 5; have c6 := kb.at_ 6 _ rfl; have z6 := kb.free 6; clear kb; go_simp; exact k.out undef _ (J.storedN 3 0 rfl rfl rfl rfl rfl 0 [.string A1, .string A2, .string A3, .string A0, .string S1, .string S2, .string S3] rfl ⟨lt0, trivial⟩ (d.get 2 rfl) hn ⟨.inr (d.get 2 rfl), trivial⟩)
 clear K0 B lt0
 rintro σ W2 ⟨⟨L1, K1⟩, _⟩ ⟨K0, _⟩ _ _ B
 simp only [slotsOf, finX, nval, nvalN, nvalA, Nat.reduceBEq, cond_true, cond_false, putAll, Act.put, List.setIfInBounds_toArray, List.set_cons_succ, List.set_cons_zero]
 generalize blkOf (σ 3) = g2_2 at *
 go_upto_region 4 with (fail)
 cases fl
 ·
  clear h_pa
  have H_PB := Lib.hid (h_pb rfl)
  clear h_pb
  have H_NU := Lib.hid (h_nu rfl)
  clear h_nu
  have H_DI := Lib.hid (h_di rfl)
  clear h_di
  have H_S1 := Lib.hid (h_s1 rfl)
  clear h_s1
  have H_S2 := Lib.hid (h_s2 rfl)
  clear h_s2
  have H_AD := Lib.hid (h_ad rfl)
  clear h_ad
  clear h1
  clear h2
  replace h3 := h3 rfl
  replace h4 := h4 rfl
  replace h5 := h5 rfl
  have c1_0 := K1.out.at_ 0 _ rfl
  have c1_1 := K1.out.at_ 1 _ rfl
  have c1_2 := K1.out.at_ 2 _ rfl
  have c1_3 := K1.out.at_ 3 _ rfl
  have c1_4 := K1.out.at_ 4 _ rfl
  have c1_5 := K1.out.at_ 5 _ rfl
  have c1_6 := K1.out.at_ 6 _ rfl
  go_upto_region 8 with (
   (first
   | (go_at_call 33; with_reducible refine (H_PB.out _ (baseI B.out)).mono ?_)
   | (go_at_call 34; with_reducible refine (H_KI.out _ (baseI B.out)).mono ?_)
   | (go_at_call 35; with_reducible refine (H_TH.out _ (baseI B.out)).mono ?_)
   | (go_at_call 36; with_reducible refine (H_HE.out _ (baseI B.out)).mono ?_)
   | fail "arm"); rintro e wx ⟨rfl, q⟩; replace K0 := Lib.hid (K0.out.nearI q); replace K1 := Lib.hid (K1.out.nearI q); replace B := Lib.hid (goI B.out q); clear q; replace c1_0 := K1.out.at_ 0 _ rfl; replace c1_1 := K1.out.at_ 1 _ rfl; replace c1_2 := K1.out.at_ 2 _ rfl; replace c1_3 := K1.out.at_ 3 _ rfl; replace c1_4 := K1.out.at_ 4 _ rfl; replace c1_5 := K1.out.at_ 5 _ rfl; replace c1_6 := K1.out.at_ 6 _ rfl)
  clear c1_0 c1_1 c1_2 c1_3 c1_4 c1_5 c1_6
  refine wp_tab [.v 41 (.pointer (some ⟨g2_2, 4, none⟩)), .v 42 (.pointer (some ⟨g2_2, 4, none⟩)), .v 43 (.string S1), .v 44 (.pointer (some ⟨g2_2, 4, none⟩)), .v 45 (.pointer (some ⟨g2_2, 4, none⟩)), .v 46 (.string S1), .v 47 (.string T1), .v 48 (.pointer (some ⟨g2_2, 4, none⟩)), .v 49 (.pointer (some ⟨g2_2, 5, none⟩)), .v 50 (.string S2), .v 51 (.pointer (some ⟨g2_2, 4, none⟩)), .v 52 (.pointer (some ⟨g2_2, 5, none⟩)), .v 53 (.string S2), .v 54 (.string T2), .v 55 (.string T), .v 13 (.string T)] [] [⟨g1_0, #[.int .i8 x, .int .i8 y, .int .i8 z, .int .i8 t, .int .i8 s, .int .i8 d, .bool sl, .bool sp], 56, none⟩, ⟨g2_2, #[.string A1, .string A2, .string A3, .string A0, .string S1, .string S2, .string S3], 58, none⟩] [] [] [] [] [] (by kernel_rfl) B.out ⟨K0.out, K1.out, trivial⟩ trivial ⟨pu, pu, ld 1 4, pu, pu, ld 1 4, cl H_M1.out, pu, pu, ld 1 5, pu, pu, ld 1 5, cl H_M2.out, cl H_A1.out, pu, trivial⟩ ?_
  clear K0 K1 B
  rintro σ W3 _ ⟨K0, K1, _⟩ _ _ B
  simp only [slotsOf, finX, nval, nvalN, nvalA, Nat.reduceBEq, cond_true, cond_false, putAll, Act.put, List.setIfInBounds_toArray, List.set_cons_succ, List.set_cons_zero]
  have c1_0 := K1.out.at_ 0 _ rfl
  have c1_1 := K1.out.at_ 1 _ rfl
  have c1_2 := K1.out.at_ 2 _ rfl
  have c1_3 := K1.out.at_ 3 _ rfl
  have c1_4 := K1.out.at_ 4 _ rfl
  have c1_5 := K1.out.at_ 5 _ rfl
  have c1_6 := K1.out.at_ 6 _ rfl
  go_upto_region 11 with (
   (first
   | (go_at_call 38; with_reducible refine (H_LK.out _ (baseI B.out)).mono ?_)
   | fail "arm"); rintro e wx ⟨rfl, q⟩; replace K0 := Lib.hid (K0.out.nearI q); replace K1 := Lib.hid (K1.out.nearI q); replace B := Lib.hid (goI B.out q); clear q; replace c1_0 := K1.out.at_ 0 _ rfl; replace c1_1 := K1.out.at_ 1 _ rfl; replace c1_2 := K1.out.at_ 2 _ rfl; replace c1_3 := K1.out.at_ 3 _ rfl; replace c1_4 := K1.out.at_ 4 _ rfl; replace c1_5 := K1.out.at_ 5 _ rfl; replace c1_6 := K1.out.at_ 6 _ rfl)
  clear c1_0 c1_1 c1_2 c1_3 c1_4 c1_5 c1_6
  cases ax
  ·
   have q_h3 := h3 rfl
   clear h3
   clear h4
   clear h5
   have c1_0 := K1.out.at_ 0 _ rfl
   go_upto_region 13 with (fail)
   clear c1_0
   refine wp_tab [.v 106 (.int .i64 0), .v 107 (.bool false), .v 108 (.bool false), .v 109 (.string Q), .v 110 (.string R), .n 111, .v 112 (.bool true), .v 113 (.bool false), .v 114 (.bool false)] [⟨5, 111, fun g => .slice (some ⟨g, 0, none⟩) 2 2, #[.string Q, .string R], 22, none⟩] [⟨g1_0, #[.int .i8 x, .int .i8 y, .int .i8 z, .int .i8 t, .int .i8 s, .int .i8 d, .bool sl, .bool sp], 56, none⟩, ⟨g2_2, #[.string A1, .string A2, .string A3, .string A0, .string S1, .string S2, .string S3], 58, none⟩] [] [] [] [] [] (by kernel_rfl) B.out ⟨K0.out, K1.out, trivial⟩ trivial ⟨pu, pu, pu, pu, pu, ml 0, c1 0 H_NU.out, pu, pu, trivial⟩ ?_
   clear K0 K1 B
   rintro σ W4 ⟨⟨L2, K2⟩, _⟩ ⟨K0, K1, _⟩ _ _ B
   simp only [slotsOf, finX, nval, nvalN, nvalA, Nat.reduceBEq, cond_true, cond_false, putAll, Act.put, List.setIfInBounds_toArray, List.set_cons_succ, List.set_cons_zero]
   generalize blkOf (σ 111) = g4_5 at *
   go_upto_region 15 with (fail)
   have lt0 := K0.out.lt
   have lt1 := K1.out.lt
   have lt2 := K2.out.lt
   refine wp_tab [.v 116 (.pointer (some ⟨g2_2, 0, none⟩)), .v 117 (.pointer (some ⟨g2_2, 0, none⟩)), .v 118 (.agg #[.string A1, .string A2, .string A3]), .v 119 (.tuple #[.agg #[.string G1, .string G2, .string G3], .agg #[.string H1, .string H2, .string H3]]), .v 115 (.tuple #[.agg #[.string G1, .string G2, .string G3], .agg #[.string H1, .string H2, .string H3]]), .v 120 (.agg #[.string G1, .string G2, .string G3]), .v 121 (.agg #[.string H1, .string H2, .string H3]), .n 14, .n 15, .z, .z] [⟨7, 14, fun g => .pointer (some ⟨g, 0, none⟩), #[.string ⟨#[]⟩, .string ⟨#[]⟩, .string ⟨#[]⟩], 24, some (9, #[.string G1, .string G2, .string G3])⟩, ⟨8, 15, fun g => .pointer (some ⟨g, 0, none⟩), #[.string ⟨#[]⟩, .string ⟨#[]⟩, .string ⟨#[]⟩], 24, some (10, #[.string H1, .string H2, .string H3])⟩] [⟨g1_0, #[.int .i8 x, .int .i8 y, .int .i8 z, .int .i8 t, .int .i8 s, .int .i8 d, .bool sl, .bool sp], 56, none⟩, ⟨g2_2, #[.string A1, .string A2, .string A3, .string A0, .string S1, .string S2, .string S3], 58, none⟩, ⟨g4_5, #[.string Q, .string R], 22, none⟩] [] [(9, 7), (10, 8)] [(0, 1)] [] [] (by kernel_rfl) B.out ⟨K0.out, K1.out, K2.out, trivial⟩ trivial ⟨pu, pu, ld 1 0, cl H_DI.out, pu, pu, pu, ml 0, ml 1, ?_, ?_, trivial⟩ ?_
   · intro L a U ho J hn d KK k; refine .free rfl ?_; have r14 : a.tmps[(14 : Nat)]?.getD undef = .pointer (some ⟨(blkOf (slotOf a 14)), 0, none⟩) := J.readN 0 rfl (d.get 7 rfl); have r120 := J.read 5 rfl (d.get 5 rfl); have kb := (J.nwB 0 rfl (d.get 7 rfl) hn).blk; have c0 := kb.at_ 0 _ rfl; have z0 := kb.free 0; have c1 := kb.at_ 1 _ rfl; have z1 := kb.free 1; have c2 := kb.at_ 2 _ rfl; have z2 := kb.free 2; clear kb; go_simp; exact k.out undef _ (J.storedN 9 0 rfl rfl rfl rfl rfl 0 [.string G1, .string G2, .string G3] rfl ⟨lt0, lt1, lt2, trivial⟩ (d.get 7 rfl) hn ⟨.inr (d.get 7 rfl), .inl (by decide), trivial⟩)
   · intro L a U ho J hn d KK k; refine .free rfl ?_; have r15 : a.tmps[(15 : Nat)]?.getD undef = .pointer (some ⟨(blkOf (slotOf a 15)), 0, none⟩) := J.readN 1 rfl (d.get 8 rfl); have r121 := J.read 6 rfl (d.get 6 rfl); have kb := (J.nwB 1 rfl (d.get 8 rfl) hn).blk; have c0 := kb.at_ 0 _ rfl; have z0 := kb.free 0; have c1 := kb.at_ 1 _ rfl; have z1 := kb.free 1; have c2 := kb.at_ 2 _ rfl; have z2 := kb.free 2; clear kb; go_simp; exact k.out undef _ (J.storedN 10 1 rfl rfl rfl rfl rfl 0 [.string H1, .string H2, .string H3] rfl ⟨lt0, lt1, lt2, trivial⟩ (d.get 8 rfl) hn ⟨.inl (by decide), .inr (d.get 8 rfl), trivial⟩)
   clear K0 K1 K2 B lt0 lt1 lt2
   rintro σ W5 ⟨⟨L3, K3⟩, ⟨L4, K4⟩, _⟩ ⟨K0, K1, K2, _⟩ _ ⟨y0, _⟩ B
   have D3_4 : Hid (blkOf (σ 14) ≠ blkOf (σ 15)) := y0
   clear y0
   simp only [slotsOf, finX, nval, nvalN, nvalA, Nat.reduceBEq, cond_true, cond_false, putAll, Act.put, List.setIfInBounds_toArray, List.set_cons_succ, List.set_cons_zero]
   generalize blkOf (σ 14) = g5_7 at *
   generalize blkOf (σ 15) = g5_8 at *
   go_upto_region 16 with (fail)
   refine wp_tab [.v 122 (.agg #[.string G1, .string G2, .string G3]), .v 123 (.string Q), .v 124 (.agg #[.string I1, .string I2, .string I3]), .v 125 (.agg #[.string H1, .string H2, .string H3]), .v 126 (.string R), .v 127 (.agg #[.string J1, .string J2, .string J3]), .v 128 (.agg #[.string S1, .string S2, .string S3]), .v 129 (.pointer (some ⟨g2_2, 4, none⟩)), .v 130 (.agg #[.string S1, .string S2, .string S3]), .v 131 (.bool true), .v 2 (.bool true)] [] [⟨g1_0, #[.int .i8 x, .int .i8 y, .int .i8 z, .int .i8 t, .int .i8 s, .int .i8 d, .bool sl, .bool sp], 56, none⟩, ⟨g2_2, #[.string A1, .string A2, .string A3, .string A0, .string S1, .string S2, .string S3], 58, none⟩, ⟨g4_5, #[.string Q, .string R], 22, none⟩, ⟨g5_7, #[.string G1, .string G2, .string G3], 24, none⟩, ⟨g5_8, #[.string H1, .string H2, .string H3], 24, none⟩] [] [] [] [] [] (by kernel_rfl) B.out ⟨K0.out, K1.out, K2.out, K3.out, K4.out, trivial⟩ trivial ⟨ld 3 0, pu, cl H_S1.out, ld 4 0, pu, cl H_S2.out, cl H_AD.out, pu, ld 1 4, ?_, pu, trivial⟩ ?_
   · intro L a U ho J hn d KK k; refine .free rfl ?_; have r128 := J.read 6 rfl (d.get 6 rfl); have r130 := J.read 8 rfl (d.get 8 rfl); go_simp; exact k.out _ _ (J.st 9 rfl rfl)
   clear K0 K1 K2 K3 K4 B
   rintro σ W6 _ ⟨K0, K1, K2, K3, K4, _⟩ _ _ B
   simp only [slotsOf, finX, nval, nvalN, nvalA, Nat.reduceBEq, cond_true, cond_false, putAll, Act.put, List.setIfInBounds_toArray, List.set_cons_succ, List.set_cons_zero]
   go_wp2
   go_ret
   exact ⟨rfl, B.out⟩
  ·
   clear h3
   have q_h4 := h4 rfl
   clear h4
   have q_h5 := h5 rfl
   clear h5
   have c1_0 := K1.out.at_ 0 _ rfl
   have c1_1 := K1.out.at_ 1 _ rfl
   go_upto_region 13 with (fail)
   clear c1_0 c1_1
   refine wp_tab [.v 106 (.int .i64 0), .v 107 (.bool false), .v 108 (.bool false), .v 109 (.string Q), .v 110 (.string R), .n 111, .v 112 (.bool true), .v 113 (.bool false), .v 114 (.bool false)] [⟨5, 111, fun g => .slice (some ⟨g, 0, none⟩) 2 2, #[.string Q, .string R], 22, none⟩] [⟨g1_0, #[.int .i8 x, .int .i8 y, .int .i8 z, .int .i8 t, .int .i8 s, .int .i8 d, .bool sl, .bool sp], 56, none⟩, ⟨g2_2, #[.string A1, .string A2, .string A3, .string A0, .string S1, .string S2, .string S3], 58, none⟩] [] [] [] [] [] (by kernel_rfl) B.out ⟨K0.out, K1.out, trivial⟩ trivial ⟨pu, pu, pu, pu, pu, ml 0, c1 0 H_NU.out, pu, pu, trivial⟩ ?_
   clear K0 K1 B
   rintro σ W4 ⟨⟨L2, K2⟩, _⟩ ⟨K0, K1, _⟩ _ _ B
   simp only [slotsOf, finX, nval, nvalN, nvalA, Nat.reduceBEq, cond_true, cond_false, putAll, Act.put, List.setIfInBounds_toArray, List.set_cons_succ, List.set_cons_zero]
   generalize blkOf (σ 111) = g4_5 at *
   go_upto_region 15 with (fail)
   have lt0 := K0.out.lt
   have lt1 := K1.out.lt
   have lt2 := K2.out.lt
   refine wp_tab [.v 116 (.pointer (some ⟨g2_2, 0, none⟩)), .v 117 (.pointer (some ⟨g2_2, 0, none⟩)), .v 118 (.agg #[.string A1, .string A2, .string A3]), .v 119 (.tuple #[.agg #[.string G1, .string G2, .string G3], .agg #[.string H1, .string H2, .string H3]]), .v 115 (.tuple #[.agg #[.string G1, .string G2, .string G3], .agg #[.string H1, .string H2, .string H3]]), .v 120 (.agg #[.string G1, .string G2, .string G3]), .v 121 (.agg #[.string H1, .string H2, .string H3]), .n 14, .n 15, .z, .z] [⟨7, 14, fun g => .pointer (some ⟨g, 0, none⟩), #[.string ⟨#[]⟩, .string ⟨#[]⟩, .string ⟨#[]⟩], 24, some (9, #[.string G1, .string G2, .string G3])⟩, ⟨8, 15, fun g => .pointer (some ⟨g, 0, none⟩), #[.string ⟨#[]⟩, .string ⟨#[]⟩, .string ⟨#[]⟩], 24, some (10, #[.string H1, .string H2, .string H3])⟩] [⟨g1_0, #[.int .i8 x, .int .i8 y, .int .i8 z, .int .i8 t, .int .i8 s, .int .i8 d, .bool sl, .bool sp], 56, none⟩, ⟨g2_2, #[.string A1, .string A2, .string A3, .string A0, .string S1, .string S2, .string S3], 58, none⟩, ⟨g4_5, #[.string Q, .string R], 22, none⟩] [] [(9, 7), (10, 8)] [(0, 1)] [] [] (by kernel_rfl) B.out ⟨K0.out, K1.out, K2.out, trivial⟩ trivial ⟨pu, pu, ld 1 0, cl H_DI.out, pu, pu, pu, ml 0, ml 1, ?_, ?_, trivial⟩ ?_
   · intro L a U ho J hn d KK k; refine .free rfl ?_; have r14 : a.tmps[(14 : Nat)]?.getD undef = .pointer (some ⟨(blkOf (slotOf a 14)), 0, none⟩) := J.readN 0 rfl (d.get 7 rfl); have r120 := J.read 5 rfl (d.get 5 rfl); have kb := (J.nwB 0 rfl (d.get 7 rfl) hn).blk; have c0 := kb.at_ 0 _ rfl; have z0 := kb.free 0; have c1 := kb.at_ 1 _ rfl; have z1 := kb.free 1; have c2 := kb.at_ 2 _ rfl; have z2 := kb.free 2; clear kb; go_simp; exact k.out undef _ (J.storedN 9 0 rfl rfl rfl rfl rfl 0 [.string G1, .string G2, .string G3] rfl ⟨lt0, lt1, lt2, trivial⟩ (d.get 7 rfl) hn ⟨.inr (d.get 7 rfl), .inl (by decide), trivial⟩)
   · intro L a U ho J hn d KK k; refine .free rfl ?_; have r15 : a.tmps[(15 : Nat)]?.getD undef = .pointer (some ⟨(blkOf (slotOf a 15)), 0, none⟩) := J.readN 1 rfl (d.get 8 rfl); have r121 := J.read 6 rfl (d.get 6 rfl); have kb := (J.nwB 1 rfl (d.get 8 rfl) hn).blk; have c0 := kb.at_ 0 _ rfl; have z0 := kb.free 0; have c1 := kb.at_ 1 _ rfl; have z1 := kb.free 1; have c2 := kb.at_ 2 _ rfl; have z2 := kb.free 2; clear kb; go_simp; exact k.out undef _ (J.storedN 10 1 rfl rfl rfl rfl rfl 0 [.string H1, .string H2, .string H3] rfl ⟨lt0, lt1, lt2, trivial⟩ (d.get 8 rfl) hn ⟨.inl (by decide), .inr (d.get 8 rfl), trivial⟩)
   clear K0 K1 K2 B lt0 lt1 lt2
   rintro σ W5 ⟨⟨L3, K3⟩, ⟨L4, K4⟩, _⟩ ⟨K0, K1, K2, _⟩ _ ⟨y0, _⟩ B
   have D3_4 : Hid (blkOf (σ 14) ≠ blkOf (σ 15)) := y0
   clear y0
   simp only [slotsOf, finX, nval, nvalN, nvalA, Nat.reduceBEq, cond_true, cond_false, putAll, Act.put, List.setIfInBounds_toArray, List.set_cons_succ, List.set_cons_zero]
   generalize blkOf (σ 14) = g5_7 at *
   generalize blkOf (σ 15) = g5_8 at *
   go_upto_region 16 with (fail)
   refine wp_tab [.v 122 (.agg #[.string G1, .string G2, .string G3]), .v 123 (.string Q), .v 124 (.agg #[.string I1, .string I2, .string I3]), .v 125 (.agg #[.string H1, .string H2, .string H3]), .v 126 (.string R), .v 127 (.agg #[.string J1, .string J2, .string J3]), .v 128 (.agg #[.string S1, .string S2, .string S3]), .v 129 (.pointer (some ⟨g2_2, 4, none⟩)), .v 130 (.agg #[.string S1, .string S2, .string S3]), .v 131 (.bool true), .v 2 (.bool true)] [] [⟨g1_0, #[.int .i8 x, .int .i8 y, .int .i8 z, .int .i8 t, .int .i8 s, .int .i8 d, .bool sl, .bool sp], 56, none⟩, ⟨g2_2, #[.string A1, .string A2, .string A3, .string A0, .string S1, .string S2, .string S3], 58, none⟩, ⟨g4_5, #[.string Q, .string R], 22, none⟩, ⟨g5_7, #[.string G1, .string G2, .string G3], 24, none⟩, ⟨g5_8, #[.string H1, .string H2, .string H3], 24, none⟩] [] [] [] [] [] (by kernel_rfl) B.out ⟨K0.out, K1.out, K2.out, K3.out, K4.out, trivial⟩ trivial ⟨ld 3 0, pu, cl H_S1.out, ld 4 0, pu, cl H_S2.out, cl H_AD.out, pu, ld 1 4, ?_, pu, trivial⟩ ?_
   · intro L a U ho J hn d KK k; refine .free rfl ?_; have r128 := J.read 6 rfl (d.get 6 rfl); have r130 := J.read 8 rfl (d.get 8 rfl); go_simp; exact k.out _ _ (J.st 9 rfl rfl)
   clear K0 K1 K2 K3 K4 B
   rintro σ W6 _ ⟨K0, K1, K2, K3, K4, _⟩ _ _ B
   simp only [slotsOf, finX, nval, nvalN, nvalA, Nat.reduceBEq, cond_true, cond_false, putAll, Act.put, List.setIfInBounds_toArray, List.set_cons_succ, List.set_cons_zero]
   go_wp2
   go_ret
   exact ⟨rfl, B.out⟩
 ·
  have H_PA := Lib.hid (h_pa rfl)
  clear h_pa
  clear h_pb
  clear h_nu
  clear h_di
  clear h_s1
  clear h_s2
  clear h_ad
  have q_h1 := h1 rfl
  clear h1
  have q_h2 := h2 rfl
  clear h2
  clear h3
  clear h4
  clear h5
  have c1_0 := K1.out.at_ 0 _ rfl
  have c1_1 := K1.out.at_ 1 _ rfl
  have c1_2 := K1.out.at_ 2 _ rfl
  have c1_3 := K1.out.at_ 3 _ rfl
  have c1_4 := K1.out.at_ 4 _ rfl
  have c1_5 := K1.out.at_ 5 _ rfl
  have c1_6 := K1.out.at_ 6 _ rfl
  go_upto_region 8 with (
   (first
   | (go_at_call 33; with_reducible refine (H_PA.out _ (baseI B.out)).mono ?_)
   | (go_at_call 34; with_reducible refine (H_KI.out _ (baseI B.out)).mono ?_)
   | (go_at_call 35; with_reducible refine (H_TH.out _ (baseI B.out)).mono ?_)
   | (go_at_call 36; with_reducible refine (H_HE.out _ (baseI B.out)).mono ?_)
   | fail "arm"); rintro e wx ⟨rfl, q⟩; replace K0 := Lib.hid (K0.out.nearI q); replace K1 := Lib.hid (K1.out.nearI q); replace B := Lib.hid (goI B.out q); clear q; replace c1_0 := K1.out.at_ 0 _ rfl; replace c1_1 := K1.out.at_ 1 _ rfl; replace c1_2 := K1.out.at_ 2 _ rfl; replace c1_3 := K1.out.at_ 3 _ rfl; replace c1_4 := K1.out.at_ 4 _ rfl; replace c1_5 := K1.out.at_ 5 _ rfl; replace c1_6 := K1.out.at_ 6 _ rfl)
  clear c1_0 c1_1 c1_2 c1_3 c1_4 c1_5 c1_6
  refine wp_tab [.v 41 (.pointer (some ⟨g2_2, 4, none⟩)), .v 42 (.pointer (some ⟨g2_2, 4, none⟩)), .v 43 (.string S1), .v 44 (.pointer (some ⟨g2_2, 4, none⟩)), .v 45 (.pointer (some ⟨g2_2, 4, none⟩)), .v 46 (.string S1), .v 47 (.string T1), .v 48 (.pointer (some ⟨g2_2, 4, none⟩)), .v 49 (.pointer (some ⟨g2_2, 5, none⟩)), .v 50 (.string S2), .v 51 (.pointer (some ⟨g2_2, 4, none⟩)), .v 52 (.pointer (some ⟨g2_2, 5, none⟩)), .v 53 (.string S2), .v 54 (.string T2), .v 55 (.string T), .v 13 (.string T)] [] [⟨g1_0, #[.int .i8 x, .int .i8 y, .int .i8 z, .int .i8 t, .int .i8 s, .int .i8 d, .bool sl, .bool sp], 56, none⟩, ⟨g2_2, #[.string A1, .string A2, .string A3, .string A0, .string S1, .string S2, .string S3], 58, none⟩] [] [] [] [] [] (by kernel_rfl) B.out ⟨K0.out, K1.out, trivial⟩ trivial ⟨pu, pu, ld 1 4, pu, pu, ld 1 4, cl H_M1.out, pu, pu, ld 1 5, pu, pu, ld 1 5, cl H_M2.out, cl H_A1.out, pu, trivial⟩ ?_
  clear K0 K1 B
  rintro σ W3 _ ⟨K0, K1, _⟩ _ _ B
  simp only [slotsOf, finX, nval, nvalN, nvalA, Nat.reduceBEq, cond_true, cond_false, putAll, Act.put, List.setIfInBounds_toArray, List.set_cons_succ, List.set_cons_zero]
  have c1_0 := K1.out.at_ 0 _ rfl
  have c1_1 := K1.out.at_ 1 _ rfl
  have c1_2 := K1.out.at_ 2 _ rfl
  have c1_3 := K1.out.at_ 3 _ rfl
  have c1_4 := K1.out.at_ 4 _ rfl
  have c1_5 := K1.out.at_ 5 _ rfl
  have c1_6 := K1.out.at_ 6 _ rfl
  go_wp2_with (
   (first
   | (go_at_call 38; with_reducible refine (H_LK.out _ (baseI B.out)).mono ?_)
   | fail "arm"); rintro e wx ⟨rfl, q⟩; replace K0 := Lib.hid (K0.out.nearI q); replace K1 := Lib.hid (K1.out.nearI q); replace B := Lib.hid (goI B.out q); clear q; replace c1_0 := K1.out.at_ 0 _ rfl; replace c1_1 := K1.out.at_ 1 _ rfl; replace c1_2 := K1.out.at_ 2 _ rfl; replace c1_3 := K1.out.at_ 3 _ rfl; replace c1_4 := K1.out.at_ 4 _ rfl; replace c1_5 := K1.out.at_ 5 _ rfl; replace c1_6 := K1.out.at_ 6 _ rfl)
  clear c1_0 c1_1 c1_2 c1_3 c1_4 c1_5 c1_6
  go_ret
  exact ⟨rfl, B.out⟩

end Go.Proofs.YtopilnlniidejaaGreatDoor
