/- The walks of package slip, over texts: Parts. -/
import Derived.Test.YtnallacamijkeaaGreatDoorShelf
import Derived.Test.YtnallacamijkeaaGreatDoorGPar
import Derived.Deep.RegionHeld3
import Derived.Laws.ResultCell
import Derived.Deep.Cut
import Derived.Deep.CutRange
import Derived.Deep.DeepCutAuto
import Derived.Outline
namespace Go.Proofs.YtnallacamijkeaaGreatDoor
set_option linter.all false
open Go.RowKit

set_option maxRecDepth 100000 in
set_option maxHeartbeats 8000000 in
theorem sparts_of (A1 A2 A3 A0 S1 S2 S3 N X1 X2 X3 Q1 Q2 Q3 R1 R2 R3 : ByteArray) (ec : Int) (res : Value) (w : World)
  (r1 : ¬ ec = 0 → res = .tuple #[.string ⟨#[]⟩, .string ⟨#[]⟩, .int .i64 ec])
  (r2 : ec = 0 → (A1.toList == [48]) = true → (A2.toList == [48]) = true → res = .tuple #[.string ⟨#[]⟩, .string ⟨#[]⟩, .int .i64 18])
  (r3 : ec = 0 → ((A1.toList == [48]) = false ∨ (A2.toList == [48]) = false) → res = .tuple #[.string Q3, .string R3, .int .i64 0])
  (h_ck : Ret Tryz.prog w 37 #[.agg #[.string A1, .string A2, .string A3, .string A0, .string S1, .string S2, .string S3]] (.int .i64 ec))
  (h_ng : ec = 0 ∧ ((A1.toList == [48]) = false ∨ (A2.toList == [48]) = false) → Ret Tryz.prog w 38 #[.string A2] (.string N))
  (h_cr : ec = 0 ∧ ((A1.toList == [48]) = false ∨ (A2.toList == [48]) = false) → Ret Tryz.prog w 39 #[.agg #[.string A1, .string A2, .string A3], .agg #[.string N, .string A1, .string ⟨#[48]⟩]] (.agg #[.string X1, .string X2, .string X3]))
  (h_d1 : ec = 0 ∧ ((A1.toList == [48]) = false ∨ (A2.toList == [48]) = false) → Ret Tryz.prog w 40 #[.agg #[.string S1, .string S2, .string S3], .agg #[.string N, .string A1, .string ⟨#[48]⟩]] (.string Q1))
  (h_d2 : ec = 0 ∧ ((A1.toList == [48]) = false ∨ (A2.toList == [48]) = false) → Ret Tryz.prog w 40 #[.agg #[.string N, .string A1, .string ⟨#[48]⟩], .agg #[.string N, .string A1, .string ⟨#[48]⟩]] (.string Q2))
  (h_v1 : ec = 0 ∧ ((A1.toList == [48]) = false ∨ (A2.toList == [48]) = false) → Ret Tryz.prog w 27 #[.string Q1, .string Q2] (.tuple #[.string Q3, .int .i64 0]))
  (h_d3 : ec = 0 ∧ ((A1.toList == [48]) = false ∨ (A2.toList == [48]) = false) → Ret Tryz.prog w 40 #[.agg #[.string S1, .string S2, .string S3], .agg #[.string X1, .string X2, .string X3]] (.string R1))
  (h_d4 : ec = 0 ∧ ((A1.toList == [48]) = false ∨ (A2.toList == [48]) = false) → Ret Tryz.prog w 40 #[.agg #[.string X1, .string X2, .string X3], .agg #[.string X1, .string X2, .string X3]] (.string R2))
  (h_v2 : ec = 0 ∧ ((A1.toList == [48]) = false ∨ (A2.toList == [48]) = false) → Ret Tryz.prog w 27 #[.string R1, .string R2] (.tuple #[.string R3, .int .i64 0]))
  (h_n1 : ec = 0 ∧ ((A1.toList == [48]) = false ∨ (A2.toList == [48]) = false) → ∀ (W : World) (b0 : Nat), Blk W b0 #[.string Q3, .string R3] 27 → Below w.heap.size w W → Calls Tryz.prog 21 #[.slice (some ⟨b0, 0, none⟩) 2 2] W fun e w' => e = .returned (.int .i64 0) ∧ Below W.heap.size W w') :
  Calls Tryz.prog 13 #[.agg #[.string A1, .string A2, .string A3, .string A0, .string S1, .string S2, .string S3]] w fun e w' => e = .returned (res) ∧ Below w.heap.size w w' := by
 have H_CK := Lib.hid h_ck
 clear h_ck
 have B := Lib.hid (Below.refl w.heap.size w)
 go_enter Tryz.func13, Tryz.ntmps13
 go_upto_region 0 with (fail)
 refine wp_tab [.n 1, .v 2 (.string ⟨#[]⟩), .v 3 (.string ⟨#[]⟩), .v 4 (.int .i64 0)] [⟨0, 1, fun g => .pointer (some ⟨g, 0, none⟩), #[.string A1, .string A2, .string A3, .string A0, .string S1, .string S2, .string S3], 46, none⟩] [] [] [] [] [] [] (by kernel_rfl) B.out trivial trivial ⟨ml 0, pu, pu, pu, trivial⟩ ?_
 clear B
 rintro σ W1 ⟨⟨L0, K0⟩, _⟩ _ _ _ B
 simp only [slotsOf, finX, nval, nvalN, nvalA, Nat.reduceBEq, cond_true, cond_false, putAll, Act.put, List.setIfInBounds_toArray, List.set_cons_succ, List.set_cons_zero]
 generalize blkOf (σ 1) = g1_0 at *
 have c0_0 := K0.out.at_ 0 _ rfl
 have c0_1 := K0.out.at_ 1 _ rfl
 have c0_2 := K0.out.at_ 2 _ rfl
 have c0_3 := K0.out.at_ 3 _ rfl
 have c0_4 := K0.out.at_ 4 _ rfl
 have c0_5 := K0.out.at_ 5 _ rfl
 have c0_6 := K0.out.at_ 6 _ rfl
 go_upto_region 2 with (
  (first
  | (go_at_call 37; with_reducible refine (H_CK.out _ (baseI B.out)).mono ?_)
  | fail "arm"); rintro e wx ⟨rfl, q⟩; replace K0 := Lib.hid (K0.out.nearI q); replace B := Lib.hid (goI B.out q); clear q; replace c0_0 := K0.out.at_ 0 _ rfl; replace c0_1 := K0.out.at_ 1 _ rfl; replace c0_2 := K0.out.at_ 2 _ rfl; replace c0_3 := K0.out.at_ 3 _ rfl; replace c0_4 := K0.out.at_ 4 _ rfl; replace c0_5 := K0.out.at_ 5 _ rfl; replace c0_6 := K0.out.at_ 6 _ rfl)
 clear c0_0 c0_1 c0_2 c0_3 c0_4 c0_5 c0_6
 by_cases hec : ec = 0
 ·
  have qec : (ec != 0) = false := by simp [hec]
  go_upto_region 4 with (fail)
  have lt0 := K0.out.lt
  refine wp_tab [.v 14 (.pointer (some ⟨g1_0, 0, none⟩)), .v 15 (.pointer (some ⟨g1_0, 0, none⟩)), .v 16 (.agg #[.string A1, .string A2, .string A3]), .n 6, .z] [⟨3, 6, fun g => .pointer (some ⟨g, 0, none⟩), #[.string ⟨#[]⟩, .string ⟨#[]⟩, .string ⟨#[]⟩], 29, some (4, #[.string A1, .string A2, .string A3])⟩] [⟨g1_0, #[.string A1, .string A2, .string A3, .string A0, .string S1, .string S2, .string S3], 46, none⟩] [] [(4, 3)] [] [] [] (by kernel_rfl) B.out ⟨K0.out, trivial⟩ trivial ⟨pu, pu, ld 0 0, ml 0, ?_, trivial⟩ ?_
  · intro L a U ho J hn d KK k; refine .free rfl ?_; have r6 : a.tmps[(6 : Nat)]?.getD undef = .pointer (some ⟨(blkOf (slotOf a 6)), 0, none⟩) := J.readN 0 rfl (d.get 3 rfl); have r16 := J.read 2 rfl (d.get 2 rfl); have kb := (J.nwB 0 rfl (d.get 3 rfl) hn).blk; have c0 := kb.at_ 0 _ rfl; have z0 := kb.free 0; have c1 := kb.at_ 1 _ rfl; have z1 := kb.free 1; have c2 := kb.at_ 2 _ rfl; have z2 := kb.free 2; clear kb; go_simp; exact k.out undef _ (J.storedN 4 0 rfl rfl rfl rfl rfl 0 [.string A1, .string A2, .string A3] rfl ⟨lt0, trivial⟩ (d.get 3 rfl) hn ⟨.inr (d.get 3 rfl), trivial⟩)
  clear K0 B lt0
  rintro σ W2 ⟨⟨L1, K1⟩, _⟩ ⟨K0, _⟩ _ _ B
  simp only [slotsOf, finX, nval, nvalN, nvalA, Nat.reduceBEq, cond_true, cond_false, putAll, Act.put, List.setIfInBounds_toArray, List.set_cons_succ, List.set_cons_zero]
  generalize blkOf (σ 6) = g2_3 at *
  go_upto_region 5 with (fail)
  cases tA1 : (A1.toList == [48])
  ·
   skip
   ·
    have H_NG := Lib.hid (h_ng ⟨hec, .inl tA1⟩)
    have H_CR := Lib.hid (h_cr ⟨hec, .inl tA1⟩)
    have H_D1 := Lib.hid (h_d1 ⟨hec, .inl tA1⟩)
    have H_D2 := Lib.hid (h_d2 ⟨hec, .inl tA1⟩)
    have H_V1 := Lib.hid (h_v1 ⟨hec, .inl tA1⟩)
    have H_D3 := Lib.hid (h_d3 ⟨hec, .inl tA1⟩)
    have H_D4 := Lib.hid (h_d4 ⟨hec, .inl tA1⟩)
    have H_V2 := Lib.hid (h_v2 ⟨hec, .inl tA1⟩)
    have H_N1 := Lib.hid (h_n1 ⟨hec, .inl tA1⟩)
    clear h_ng h_cr h_d1 h_d2 h_v1 h_d3 h_d4 h_v2 h_n1
    have c1_0 := K1.out.at_ 0 _ rfl
    go_upto_region 7 with (fail)
    clear c1_0
    have lt0 := K0.out.lt
    have lt1 := K1.out.lt
    refine wp_tab [.v 25 (.pointer (some ⟨g2_3, 1, none⟩)), .v 26 (.string A2), .v 27 (.string N), .v 28 (.pointer (some ⟨g2_3, 0, none⟩)), .v 29 (.string A1), .v 30 (.agg #[.string N, .string A1, .string ⟨#[48]⟩]), .n 7, .z] [⟨6, 7, fun g => .pointer (some ⟨g, 0, none⟩), #[.string ⟨#[]⟩, .string ⟨#[]⟩, .string ⟨#[]⟩], 29, some (7, #[.string N, .string A1, .string ⟨#[48]⟩])⟩] [⟨g1_0, #[.string A1, .string A2, .string A3, .string A0, .string S1, .string S2, .string S3], 46, none⟩, ⟨g2_3, #[.string A1, .string A2, .string A3], 29, none⟩] [] [(7, 6)] [] [] [] (by kernel_rfl) B.out ⟨K0.out, K1.out, trivial⟩ trivial ⟨pu, ld 1 1, cl H_NG.out, pu, ld 1 0, pu, ml 0, ?_, trivial⟩ ?_
    · intro L a U ho J hn d KK k; refine .free rfl ?_; have r7 : a.tmps[(7 : Nat)]?.getD undef = .pointer (some ⟨(blkOf (slotOf a 7)), 0, none⟩) := J.readN 0 rfl (d.get 6 rfl); have r30 := J.read 5 rfl (d.get 5 rfl); have kb := (J.nwB 0 rfl (d.get 6 rfl) hn).blk; have c0 := kb.at_ 0 _ rfl; have z0 := kb.free 0; have c1 := kb.at_ 1 _ rfl; have z1 := kb.free 1; have c2 := kb.at_ 2 _ rfl; have z2 := kb.free 2; clear kb; go_simp; exact k.out undef _ (J.storedN 7 0 rfl rfl rfl rfl rfl 0 [.string N, .string A1, .string ⟨#[48]⟩] rfl ⟨lt0, lt1, trivial⟩ (d.get 6 rfl) hn ⟨.inr (d.get 6 rfl), trivial⟩)
    clear K0 K1 B lt0 lt1
    rintro σ W3 ⟨⟨L2, K2⟩, _⟩ ⟨K0, K1, _⟩ _ _ B
    simp only [slotsOf, finX, nval, nvalN, nvalA, Nat.reduceBEq, cond_true, cond_false, putAll, Act.put, List.setIfInBounds_toArray, List.set_cons_succ, List.set_cons_zero]
    generalize blkOf (σ 7) = g3_6 at *
    go_upto_region 8 with (fail)
    have lt0 := K0.out.lt
    have lt1 := K1.out.lt
    have lt2 := K2.out.lt
    refine wp_tab [.v 31 (.agg #[.string A1, .string A2, .string A3]), .v 32 (.agg #[.string N, .string A1, .string ⟨#[48]⟩]), .v 33 (.agg #[.string X1, .string X2, .string X3]), .n 8, .z] [⟨3, 8, fun g => .pointer (some ⟨g, 0, none⟩), #[.string ⟨#[]⟩, .string ⟨#[]⟩, .string ⟨#[]⟩], 29, some (4, #[.string X1, .string X2, .string X3])⟩] [⟨g1_0, #[.string A1, .string A2, .string A3, .string A0, .string S1, .string S2, .string S3], 46, none⟩, ⟨g2_3, #[.string A1, .string A2, .string A3], 29, none⟩, ⟨g3_6, #[.string N, .string A1, .string ⟨#[48]⟩], 29, none⟩] [] [(4, 3)] [] [] [] (by kernel_rfl) B.out ⟨K0.out, K1.out, K2.out, trivial⟩ trivial ⟨ld 1 0, ld 2 0, cl H_CR.out, ml 0, ?_, trivial⟩ ?_
    · intro L a U ho J hn d KK k; refine .free rfl ?_; have r8 : a.tmps[(8 : Nat)]?.getD undef = .pointer (some ⟨(blkOf (slotOf a 8)), 0, none⟩) := J.readN 0 rfl (d.get 3 rfl); have r33 := J.read 2 rfl (d.get 2 rfl); have kb := (J.nwB 0 rfl (d.get 3 rfl) hn).blk; have c0 := kb.at_ 0 _ rfl; have z0 := kb.free 0; have c1 := kb.at_ 1 _ rfl; have z1 := kb.free 1; have c2 := kb.at_ 2 _ rfl; have z2 := kb.free 2; clear kb; go_simp; exact k.out undef _ (J.storedN 4 0 rfl rfl rfl rfl rfl 0 [.string X1, .string X2, .string X3] rfl ⟨lt0, lt1, lt2, trivial⟩ (d.get 3 rfl) hn ⟨.inr (d.get 3 rfl), trivial⟩)
    clear K0 K1 K2 B lt0 lt1 lt2
    rintro σ W4 ⟨⟨L3, K3⟩, _⟩ ⟨K0, K1, K2, _⟩ _ _ B
    simp only [slotsOf, finX, nval, nvalN, nvalA, Nat.reduceBEq, cond_true, cond_false, putAll, Act.put, List.setIfInBounds_toArray, List.set_cons_succ, List.set_cons_zero]
    generalize blkOf (σ 8) = g4_3 at *
    go_upto_region 9 with (fail)
    refine wp_tab [.v 35 (.pointer (some ⟨g1_0, 4, none⟩)), .v 36 (.agg #[.string S1, .string S2, .string S3]), .v 37 (.agg #[.string N, .string A1, .string ⟨#[48]⟩]), .v 38 (.string Q1), .v 39 (.agg #[.string N, .string A1, .string ⟨#[48]⟩]), .v 40 (.agg #[.string N, .string A1, .string ⟨#[48]⟩]), .v 41 (.string Q2), .v 42 (.tuple #[.string Q3, .int .i64 0]), .v 34 (.tuple #[.string Q3, .int .i64 0]), .v 43 (.string Q3), .v 44 (.int .i64 0), .v 2 (.string Q3)] [] [⟨g1_0, #[.string A1, .string A2, .string A3, .string A0, .string S1, .string S2, .string S3], 46, none⟩, ⟨g2_3, #[.string A1, .string A2, .string A3], 29, none⟩, ⟨g3_6, #[.string N, .string A1, .string ⟨#[48]⟩], 29, none⟩, ⟨g4_3, #[.string X1, .string X2, .string X3], 29, none⟩] [] [] [] [] [] (by kernel_rfl) B.out ⟨K0.out, K1.out, K2.out, K3.out, trivial⟩ trivial ⟨pu, ld 0 4, ld 2 0, cl H_D1.out, ld 2 0, ld 2 0, cl H_D2.out, cl H_V1.out, pu, pu, pu, pu, trivial⟩ ?_
    clear K0 K1 K2 K3 B
    rintro σ W5 _ ⟨K0, K1, K2, K3, _⟩ _ _ B
    simp only [slotsOf, finX, nval, nvalN, nvalA, Nat.reduceBEq, cond_true, cond_false, putAll, Act.put, List.setIfInBounds_toArray, List.set_cons_succ, List.set_cons_zero]
    go_upto_region 10 with (fail)
    refine wp_tab [.v 46 (.pointer (some ⟨g1_0, 4, none⟩)), .v 47 (.agg #[.string S1, .string S2, .string S3]), .v 48 (.agg #[.string X1, .string X2, .string X3]), .v 49 (.string R1), .v 50 (.agg #[.string X1, .string X2, .string X3]), .v 51 (.agg #[.string X1, .string X2, .string X3]), .v 52 (.string R2), .v 53 (.tuple #[.string R3, .int .i64 0]), .v 45 (.tuple #[.string R3, .int .i64 0]), .v 54 (.string R3), .v 55 (.int .i64 0), .v 3 (.string R3)] [] [⟨g1_0, #[.string A1, .string A2, .string A3, .string A0, .string S1, .string S2, .string S3], 46, none⟩, ⟨g2_3, #[.string A1, .string A2, .string A3], 29, none⟩, ⟨g3_6, #[.string N, .string A1, .string ⟨#[48]⟩], 29, none⟩, ⟨g4_3, #[.string X1, .string X2, .string X3], 29, none⟩] [] [] [] [] [] (by kernel_rfl) B.out ⟨K0.out, K1.out, K2.out, K3.out, trivial⟩ trivial ⟨pu, ld 0 4, ld 3 0, cl H_D3.out, ld 3 0, ld 3 0, cl H_D4.out, cl H_V2.out, pu, pu, pu, pu, trivial⟩ ?_
    clear K0 K1 K2 K3 B
    rintro σ W6 _ ⟨K0, K1, K2, K3, _⟩ _ _ B
    simp only [slotsOf, finX, nval, nvalN, nvalA, Nat.reduceBEq, cond_true, cond_false, putAll, Act.put, List.setIfInBounds_toArray, List.set_cons_succ, List.set_cons_zero]
    go_upto_region 11 with (fail)
    refine wp_tab [.v 56 (.string Q3), .v 57 (.string R3), .n 58, .v 59 (.int .i64 0), .v 60 (.bool false)] [⟨2, 58, fun g => .slice (some ⟨g, 0, none⟩) 2 2, #[.string Q3, .string R3], 27, none⟩] [⟨g1_0, #[.string A1, .string A2, .string A3, .string A0, .string S1, .string S2, .string S3], 46, none⟩, ⟨g2_3, #[.string A1, .string A2, .string A3], 29, none⟩, ⟨g3_6, #[.string N, .string A1, .string ⟨#[48]⟩], 29, none⟩, ⟨g4_3, #[.string X1, .string X2, .string X3], 29, none⟩] [] [] [] [] [] (by kernel_rfl) B.out ⟨K0.out, K1.out, K2.out, K3.out, trivial⟩ trivial ⟨pu, pu, ml 0, c1 0 H_N1.out, pu, trivial⟩ ?_
    clear K0 K1 K2 K3 B
    rintro σ W7 ⟨⟨L4, K4⟩, _⟩ ⟨K0, K1, K2, K3, _⟩ _ _ B
    simp only [slotsOf, finX, nval, nvalN, nvalA, Nat.reduceBEq, cond_true, cond_false, putAll, Act.put, List.setIfInBounds_toArray, List.set_cons_succ, List.set_cons_zero]
    generalize blkOf (σ 58) = g7_2 at *
    go_wp2
    go_ret3
    exact ⟨by first | rfl | (rw [r3 hec (.inl tA1)] <;> rfl), B.out⟩
  ·
   cases tA2 : (A2.toList == [48])
   ·
    skip
    ·
     have H_NG := Lib.hid (h_ng ⟨hec, .inr tA2⟩)
     have H_CR := Lib.hid (h_cr ⟨hec, .inr tA2⟩)
     have H_D1 := Lib.hid (h_d1 ⟨hec, .inr tA2⟩)
     have H_D2 := Lib.hid (h_d2 ⟨hec, .inr tA2⟩)
     have H_V1 := Lib.hid (h_v1 ⟨hec, .inr tA2⟩)
     have H_D3 := Lib.hid (h_d3 ⟨hec, .inr tA2⟩)
     have H_D4 := Lib.hid (h_d4 ⟨hec, .inr tA2⟩)
     have H_V2 := Lib.hid (h_v2 ⟨hec, .inr tA2⟩)
     have H_N1 := Lib.hid (h_n1 ⟨hec, .inr tA2⟩)
     clear h_ng h_cr h_d1 h_d2 h_v1 h_d3 h_d4 h_v2 h_n1
     have c1_0 := K1.out.at_ 0 _ rfl
     have c1_1 := K1.out.at_ 1 _ rfl
     go_upto_region 7 with (fail)
     clear c1_0 c1_1
     have lt0 := K0.out.lt
     have lt1 := K1.out.lt
     refine wp_tab [.v 25 (.pointer (some ⟨g2_3, 1, none⟩)), .v 26 (.string A2), .v 27 (.string N), .v 28 (.pointer (some ⟨g2_3, 0, none⟩)), .v 29 (.string A1), .v 30 (.agg #[.string N, .string A1, .string ⟨#[48]⟩]), .n 7, .z] [⟨6, 7, fun g => .pointer (some ⟨g, 0, none⟩), #[.string ⟨#[]⟩, .string ⟨#[]⟩, .string ⟨#[]⟩], 29, some (7, #[.string N, .string A1, .string ⟨#[48]⟩])⟩] [⟨g1_0, #[.string A1, .string A2, .string A3, .string A0, .string S1, .string S2, .string S3], 46, none⟩, ⟨g2_3, #[.string A1, .string A2, .string A3], 29, none⟩] [] [(7, 6)] [] [] [] (by kernel_rfl) B.out ⟨K0.out, K1.out, trivial⟩ trivial ⟨pu, ld 1 1, cl H_NG.out, pu, ld 1 0, pu, ml 0, ?_, trivial⟩ ?_
     · intro L a U ho J hn d KK k; refine .free rfl ?_; have r7 : a.tmps[(7 : Nat)]?.getD undef = .pointer (some ⟨(blkOf (slotOf a 7)), 0, none⟩) := J.readN 0 rfl (d.get 6 rfl); have r30 := J.read 5 rfl (d.get 5 rfl); have kb := (J.nwB 0 rfl (d.get 6 rfl) hn).blk; have c0 := kb.at_ 0 _ rfl; have z0 := kb.free 0; have c1 := kb.at_ 1 _ rfl; have z1 := kb.free 1; have c2 := kb.at_ 2 _ rfl; have z2 := kb.free 2; clear kb; go_simp; exact k.out undef _ (J.storedN 7 0 rfl rfl rfl rfl rfl 0 [.string N, .string A1, .string ⟨#[48]⟩] rfl ⟨lt0, lt1, trivial⟩ (d.get 6 rfl) hn ⟨.inr (d.get 6 rfl), trivial⟩)
     clear K0 K1 B lt0 lt1
     rintro σ W3 ⟨⟨L2, K2⟩, _⟩ ⟨K0, K1, _⟩ _ _ B
     simp only [slotsOf, finX, nval, nvalN, nvalA, Nat.reduceBEq, cond_true, cond_false, putAll, Act.put, List.setIfInBounds_toArray, List.set_cons_succ, List.set_cons_zero]
     generalize blkOf (σ 7) = g3_6 at *
     go_upto_region 8 with (fail)
     have lt0 := K0.out.lt
     have lt1 := K1.out.lt
     have lt2 := K2.out.lt
     refine wp_tab [.v 31 (.agg #[.string A1, .string A2, .string A3]), .v 32 (.agg #[.string N, .string A1, .string ⟨#[48]⟩]), .v 33 (.agg #[.string X1, .string X2, .string X3]), .n 8, .z] [⟨3, 8, fun g => .pointer (some ⟨g, 0, none⟩), #[.string ⟨#[]⟩, .string ⟨#[]⟩, .string ⟨#[]⟩], 29, some (4, #[.string X1, .string X2, .string X3])⟩] [⟨g1_0, #[.string A1, .string A2, .string A3, .string A0, .string S1, .string S2, .string S3], 46, none⟩, ⟨g2_3, #[.string A1, .string A2, .string A3], 29, none⟩, ⟨g3_6, #[.string N, .string A1, .string ⟨#[48]⟩], 29, none⟩] [] [(4, 3)] [] [] [] (by kernel_rfl) B.out ⟨K0.out, K1.out, K2.out, trivial⟩ trivial ⟨ld 1 0, ld 2 0, cl H_CR.out, ml 0, ?_, trivial⟩ ?_
     · intro L a U ho J hn d KK k; refine .free rfl ?_; have r8 : a.tmps[(8 : Nat)]?.getD undef = .pointer (some ⟨(blkOf (slotOf a 8)), 0, none⟩) := J.readN 0 rfl (d.get 3 rfl); have r33 := J.read 2 rfl (d.get 2 rfl); have kb := (J.nwB 0 rfl (d.get 3 rfl) hn).blk; have c0 := kb.at_ 0 _ rfl; have z0 := kb.free 0; have c1 := kb.at_ 1 _ rfl; have z1 := kb.free 1; have c2 := kb.at_ 2 _ rfl; have z2 := kb.free 2; clear kb; go_simp; exact k.out undef _ (J.storedN 4 0 rfl rfl rfl rfl rfl 0 [.string X1, .string X2, .string X3] rfl ⟨lt0, lt1, lt2, trivial⟩ (d.get 3 rfl) hn ⟨.inr (d.get 3 rfl), trivial⟩)
     clear K0 K1 K2 B lt0 lt1 lt2
     rintro σ W4 ⟨⟨L3, K3⟩, _⟩ ⟨K0, K1, K2, _⟩ _ _ B
     simp only [slotsOf, finX, nval, nvalN, nvalA, Nat.reduceBEq, cond_true, cond_false, putAll, Act.put, List.setIfInBounds_toArray, List.set_cons_succ, List.set_cons_zero]
     generalize blkOf (σ 8) = g4_3 at *
     go_upto_region 9 with (fail)
     refine wp_tab [.v 35 (.pointer (some ⟨g1_0, 4, none⟩)), .v 36 (.agg #[.string S1, .string S2, .string S3]), .v 37 (.agg #[.string N, .string A1, .string ⟨#[48]⟩]), .v 38 (.string Q1), .v 39 (.agg #[.string N, .string A1, .string ⟨#[48]⟩]), .v 40 (.agg #[.string N, .string A1, .string ⟨#[48]⟩]), .v 41 (.string Q2), .v 42 (.tuple #[.string Q3, .int .i64 0]), .v 34 (.tuple #[.string Q3, .int .i64 0]), .v 43 (.string Q3), .v 44 (.int .i64 0), .v 2 (.string Q3)] [] [⟨g1_0, #[.string A1, .string A2, .string A3, .string A0, .string S1, .string S2, .string S3], 46, none⟩, ⟨g2_3, #[.string A1, .string A2, .string A3], 29, none⟩, ⟨g3_6, #[.string N, .string A1, .string ⟨#[48]⟩], 29, none⟩, ⟨g4_3, #[.string X1, .string X2, .string X3], 29, none⟩] [] [] [] [] [] (by kernel_rfl) B.out ⟨K0.out, K1.out, K2.out, K3.out, trivial⟩ trivial ⟨pu, ld 0 4, ld 2 0, cl H_D1.out, ld 2 0, ld 2 0, cl H_D2.out, cl H_V1.out, pu, pu, pu, pu, trivial⟩ ?_
     clear K0 K1 K2 K3 B
     rintro σ W5 _ ⟨K0, K1, K2, K3, _⟩ _ _ B
     simp only [slotsOf, finX, nval, nvalN, nvalA, Nat.reduceBEq, cond_true, cond_false, putAll, Act.put, List.setIfInBounds_toArray, List.set_cons_succ, List.set_cons_zero]
     go_upto_region 10 with (fail)
     refine wp_tab [.v 46 (.pointer (some ⟨g1_0, 4, none⟩)), .v 47 (.agg #[.string S1, .string S2, .string S3]), .v 48 (.agg #[.string X1, .string X2, .string X3]), .v 49 (.string R1), .v 50 (.agg #[.string X1, .string X2, .string X3]), .v 51 (.agg #[.string X1, .string X2, .string X3]), .v 52 (.string R2), .v 53 (.tuple #[.string R3, .int .i64 0]), .v 45 (.tuple #[.string R3, .int .i64 0]), .v 54 (.string R3), .v 55 (.int .i64 0), .v 3 (.string R3)] [] [⟨g1_0, #[.string A1, .string A2, .string A3, .string A0, .string S1, .string S2, .string S3], 46, none⟩, ⟨g2_3, #[.string A1, .string A2, .string A3], 29, none⟩, ⟨g3_6, #[.string N, .string A1, .string ⟨#[48]⟩], 29, none⟩, ⟨g4_3, #[.string X1, .string X2, .string X3], 29, none⟩] [] [] [] [] [] (by kernel_rfl) B.out ⟨K0.out, K1.out, K2.out, K3.out, trivial⟩ trivial ⟨pu, ld 0 4, ld 3 0, cl H_D3.out, ld 3 0, ld 3 0, cl H_D4.out, cl H_V2.out, pu, pu, pu, pu, trivial⟩ ?_
     clear K0 K1 K2 K3 B
     rintro σ W6 _ ⟨K0, K1, K2, K3, _⟩ _ _ B
     simp only [slotsOf, finX, nval, nvalN, nvalA, Nat.reduceBEq, cond_true, cond_false, putAll, Act.put, List.setIfInBounds_toArray, List.set_cons_succ, List.set_cons_zero]
     go_upto_region 11 with (fail)
     refine wp_tab [.v 56 (.string Q3), .v 57 (.string R3), .n 58, .v 59 (.int .i64 0), .v 60 (.bool false)] [⟨2, 58, fun g => .slice (some ⟨g, 0, none⟩) 2 2, #[.string Q3, .string R3], 27, none⟩] [⟨g1_0, #[.string A1, .string A2, .string A3, .string A0, .string S1, .string S2, .string S3], 46, none⟩, ⟨g2_3, #[.string A1, .string A2, .string A3], 29, none⟩, ⟨g3_6, #[.string N, .string A1, .string ⟨#[48]⟩], 29, none⟩, ⟨g4_3, #[.string X1, .string X2, .string X3], 29, none⟩] [] [] [] [] [] (by kernel_rfl) B.out ⟨K0.out, K1.out, K2.out, K3.out, trivial⟩ trivial ⟨pu, pu, ml 0, c1 0 H_N1.out, pu, trivial⟩ ?_
     clear K0 K1 K2 K3 B
     rintro σ W7 ⟨⟨L4, K4⟩, _⟩ ⟨K0, K1, K2, K3, _⟩ _ _ B
     simp only [slotsOf, finX, nval, nvalN, nvalA, Nat.reduceBEq, cond_true, cond_false, putAll, Act.put, List.setIfInBounds_toArray, List.set_cons_succ, List.set_cons_zero]
     generalize blkOf (σ 58) = g7_2 at *
     go_wp2
     go_ret3
     exact ⟨by first | rfl | (rw [r3 hec (.inr tA2)] <;> rfl), B.out⟩
   ·
    have c1_0 := K1.out.at_ 0 _ rfl
    have c1_1 := K1.out.at_ 1 _ rfl
    go_wp2
    clear c1_0 c1_1
    go_ret3
    exact ⟨by first | rfl | (rw [r2 hec tA1 tA2] <;> rfl), B.out⟩
 ·
  have qec : (ec != 0) = true := by simp [hec]
  go_wp2
  go_ret3
  exact ⟨by first | rfl | (rw [r1 hec] <;> rfl), B.out⟩

end Go.Proofs.YtnallacamijkeaaGreatDoor
