/- The walks of package slip, over texts: Parts. -/
import Derived.Test.YtopilnlniidejaaGreatDoorShelf
import Derived.Test.YtopilnlniidejaaGreatDoorGPar
import Derived.Deep.RegionHeld3
import Derived.Laws.ResultCell
import Derived.Deep.Cut
import Derived.Deep.CutRange
import Derived.Deep.DeepCutAuto
import Derived.Outline
namespace Go.Proofs.YtopilnlniidejaaGreatDoor
set_option linter.all false
open Go.RowKit

set_option maxRecDepth 100000 in
set_option maxHeartbeats 8000000 in
theorem sparts_of (A1 A2 A3 A0 S1 S2 S3 N X1 X2 X3 Q1 Q2 Q3 R1 R2 R3 : ByteArray) (ec : Int) (res : Value) (w : World)
    (r1 : ¬ ec = 0 → res = .tuple #[.string ⟨#[]⟩, .string ⟨#[]⟩, .int .i64 ec])
    (r2 : ec = 0 → (A1.toList == [48]) = true → (A2.toList == [48]) = true → res = .tuple #[.string ⟨#[]⟩, .string ⟨#[]⟩, .int .i64 18])
    (r3 : ec = 0 → ((A1.toList == [48]) = false ∨ (A2.toList == [48]) = false) → res = .tuple #[.string Q3, .string R3, .int .i64 0])
    (h_ck : ∀ (W : World), Below w.heap.size w W → Calls Tryz.prog 32 #[.agg #[.string A1, .string A2, .string A3, .string A0, .string S1, .string S2, .string S3]] W fun e w' => e = .returned (.int .i64 ec) ∧ Below W.heap.size W w')
    (h_ng : ec = 0 ∧ ((A1.toList == [48]) = false ∨ (A2.toList == [48]) = false) → ∀ (W : World), Below w.heap.size w W → Calls Tryz.prog 76 #[.string A2] W fun e w' => e = .returned (.string N) ∧ Below W.heap.size W w')
    (h_cr : ec = 0 ∧ ((A1.toList == [48]) = false ∨ (A2.toList == [48]) = false) → ∀ (W : World), Below w.heap.size w W → Calls Tryz.prog 77 #[.agg #[.string A1, .string A2, .string A3], .agg #[.string N, .string A1, .string ⟨#[48]⟩]] W fun e w' => e = .returned (.agg #[.string X1, .string X2, .string X3]) ∧ Below W.heap.size W w')
    (h_d1 : ec = 0 ∧ ((A1.toList == [48]) = false ∨ (A2.toList == [48]) = false) → ∀ (W : World), Below w.heap.size w W → Calls Tryz.prog 64 #[.agg #[.string S1, .string S2, .string S3], .agg #[.string N, .string A1, .string ⟨#[48]⟩]] W fun e w' => e = .returned (.string Q1) ∧ Below W.heap.size W w')
    (h_d2 : ec = 0 ∧ ((A1.toList == [48]) = false ∨ (A2.toList == [48]) = false) → ∀ (W : World), Below w.heap.size w W → Calls Tryz.prog 64 #[.agg #[.string N, .string A1, .string ⟨#[48]⟩], .agg #[.string N, .string A1, .string ⟨#[48]⟩]] W fun e w' => e = .returned (.string Q2) ∧ Below W.heap.size W w')
    (h_v1 : ec = 0 ∧ ((A1.toList == [48]) = false ∨ (A2.toList == [48]) = false) → ∀ (W : World), Below w.heap.size w W → Calls Tryz.prog 63 #[.string Q1, .string Q2] W fun e w' => e = .returned (.tuple #[.string Q3, .int .i64 0]) ∧ Below W.heap.size W w')
    (h_d3 : ec = 0 ∧ ((A1.toList == [48]) = false ∨ (A2.toList == [48]) = false) → ∀ (W : World), Below w.heap.size w W → Calls Tryz.prog 64 #[.agg #[.string S1, .string S2, .string S3], .agg #[.string X1, .string X2, .string X3]] W fun e w' => e = .returned (.string R1) ∧ Below W.heap.size W w')
    (h_d4 : ec = 0 ∧ ((A1.toList == [48]) = false ∨ (A2.toList == [48]) = false) → ∀ (W : World), Below w.heap.size w W → Calls Tryz.prog 64 #[.agg #[.string X1, .string X2, .string X3], .agg #[.string X1, .string X2, .string X3]] W fun e w' => e = .returned (.string R2) ∧ Below W.heap.size W w')
    (h_v2 : ec = 0 ∧ ((A1.toList == [48]) = false ∨ (A2.toList == [48]) = false) → ∀ (W : World), Below w.heap.size w W → Calls Tryz.prog 63 #[.string R1, .string R2] W fun e w' => e = .returned (.tuple #[.string R3, .int .i64 0]) ∧ Below W.heap.size W w')
    (h_n1 : ec = 0 ∧ ((A1.toList == [48]) = false ∨ (A2.toList == [48]) = false) → ∀ (W : World) (b0 : Nat), Blk W b0 #[.string Q3, .string R3] 22 → Below w.heap.size w W → Calls Tryz.prog 51 #[.slice (some ⟨b0, 0, none⟩) 2 2] W fun e w' => e = .returned (.int .i64 0) ∧ Below W.heap.size W w') :
    Calls Tryz.prog 33 #[.agg #[.string A1, .string A2, .string A3, .string A0, .string S1, .string S2, .string S3]] w fun e w' => e = .returned (res) ∧ Below w.heap.size w w' := by
  have H_CK := Lib.hid h_ck
  clear h_ck
  have B := Lib.hid (Below.refl w.heap.size w)
  go_enter Tryz.func33, Tryz.ntmps33
  go_upto_region 0 with (fail)
  refine wp_region_seq2 [1, 2, 3, 4] (RJ w w.heap.size [.n 1, .v 2 (.string ⟨#[]⟩), .v 3 (.string ⟨#[]⟩), .v 4 (.int .i64 0)] [⟨0, 1, fun g => .pointer (some ⟨g, 0, none⟩), #[.string A1, .string A2, .string A3, .string A0, .string S1, .string S2, .string S3], 58, none⟩] [] [] [] [] []) (by kernel_rfl) (by kernel_rfl) ?_ ?_ ?_
  · exact RJ.start rfl B.out (by exact trivial)
  · refine ⟨?_, ?_, ?_, ?_, trivial⟩
    · rintro L a U ho J hn hd KK hK; refine Wants.free rfl ?_; have r0 : a.tmps[(0 : Nat)]?.getD undef = .agg #[.string A1, .string A2, .string A3, .string A0, .string S1, .string S2, .string S3] := ho.slot 0 rfl; go_simp; exact hK.out _ _ (J.mf 0 0 rfl rfl rfl rfl rfl hn)
    · rintro L a U ho J hn hd KK hK; refine Wants.free rfl ?_; go_simp; exact hK.out _ _ (J.st 1 rfl rfl)
    · rintro L a U ho J hn hd KK hK; refine Wants.free rfl ?_; go_simp; exact hK.out _ _ (J.st 2 rfl rfl)
    · rintro L a U ho J hn hd KK hK; refine Wants.free rfl ?_; go_simp; exact hK.out _ _ (J.st 3 rfl rfl)
  rintro L σ W1 J hL
  have hf := J.fin rfl hL
  simp only [finR] at hf
  obtain ⟨e0, l0, k0⟩ := J.nw 0 rfl (hL 0 (by decide))
  have low := J.low
  replace B := Lib.hid J.bb
  clear J hL
  try dsimp only at e0
  generalize blkOf (σ 1) = g1_0 at *
  have K0 := Lib.hid k0
  have L0 := Lib.hid (Nat.le_trans low l0)
  clear l0 k0 low
  rw [show List.map σ [1, 2, 3, 4] = _ from hf, e0]
  clear hf e0
  simp only [putAll, List.map, Act.put, List.setIfInBounds_toArray, List.set_cons_succ, List.set_cons_zero]
  have c0_0 := K0.out.at_ 0 _ rfl
  have c0_1 := K0.out.at_ 1 _ rfl
  have c0_2 := K0.out.at_ 2 _ rfl
  have c0_3 := K0.out.at_ 3 _ rfl
  have c0_4 := K0.out.at_ 4 _ rfl
  have c0_5 := K0.out.at_ 5 _ rfl
  have c0_6 := K0.out.at_ 6 _ rfl
  go_upto_region 2 with (
   (first
    | (go_at_call 32; with_reducible refine (H_CK.out _ (baseI B.out)).mono ?_)
    | fail "arm"); rintro e wx ⟨rfl, q⟩; replace K0 := Lib.hid (K0.out.nearI q); replace B := Lib.hid (goI B.out q); clear q; replace c0_0 := K0.out.at_ 0 _ rfl; replace c0_1 := K0.out.at_ 1 _ rfl; replace c0_2 := K0.out.at_ 2 _ rfl; replace c0_3 := K0.out.at_ 3 _ rfl; replace c0_4 := K0.out.at_ 4 _ rfl; replace c0_5 := K0.out.at_ 5 _ rfl; replace c0_6 := K0.out.at_ 6 _ rfl)
  clear c0_0 c0_1 c0_2 c0_3 c0_4 c0_5 c0_6
  by_cases hec : ec = 0
  · skip
    have qec : (ec != 0) = false := by simp [hec]
    go_upto_region 4 with (fail)
    have lt0 := K0.out.lt
    refine wp_region_seq2 [14, 15, 16, 6] (RJ w wx.heap.size [.v 14 (.pointer (some ⟨g1_0, 0, none⟩)), .v 15 (.pointer (some ⟨g1_0, 0, none⟩)), .v 16 (.agg #[.string A1, .string A2, .string A3]), .n 6, .z] [⟨3, 6, fun g => .pointer (some ⟨g, 0, none⟩), #[.string ⟨#[]⟩, .string ⟨#[]⟩, .string ⟨#[]⟩], 24, some (4, #[.string A1, .string A2, .string A3])⟩] [⟨g1_0, #[.string A1, .string A2, .string A3, .string A0, .string S1, .string S2, .string S3], 58, none⟩] [] [(4, 3)] [] []) (by kernel_rfl) (by kernel_rfl) ?_ ?_ ?_
    · exact RJ.start rfl B.out (by exact ⟨K0.out, trivial⟩)
    · refine ⟨?_, ?_, ?_, ?_, ?_, trivial⟩
      · rintro L a U ho J hn hd KK hK; refine Wants.free rfl ?_; have r1 : a.tmps[(1 : Nat)]?.getD undef = .pointer (some ⟨g1_0, 0, none⟩) := ho.slot 1 rfl; go_simp; exact hK.out _ _ (J.st 0 rfl rfl)
      · rintro L a U ho J hn hd KK hK; refine Wants.free rfl ?_; have r14 := J.read 0 rfl (hd 0 (by decide)); go_simp; exact hK.out _ _ (J.st 1 rfl rfl)
      · rintro L a U ho J hn hd KK hK; refine Wants.free rfl ?_; have r15 := J.read 1 rfl (hd 1 (by decide)); have kb := (J.eld 0 rfl); have c0 := kb.at_ 0 _ rfl; have c1 := kb.at_ 1 _ rfl; have c2 := kb.at_ 2 _ rfl; clear kb; go_simp; exact hK.out _ _ (J.st 2 rfl rfl)
      · rintro L a U ho J hn hd KK hK; refine Wants.free rfl ?_; go_simp; exact hK.out _ _ (J.mf 3 0 rfl rfl rfl rfl rfl hn)
      · rintro L a U ho J hn hd KK hK; refine Wants.free rfl ?_; have r6 : a.tmps[(6 : Nat)]?.getD undef = .pointer (some ⟨(blkOf (slotOf a 6)), 0, none⟩) := J.readN 0 rfl (hd 3 (by decide)); have r16 := J.read 2 rfl (hd 2 (by decide)); have kb := (J.nwB 0 rfl (hd 3 (by decide)) hn).blk; have c0 := kb.at_ 0 _ rfl; have z0 := kb.free 0; have c1 := kb.at_ 1 _ rfl; have z1 := kb.free 1; have c2 := kb.at_ 2 _ rfl; have z2 := kb.free 2; clear kb; go_simp; exact hK.out undef _ (J.storedN 4 0 rfl rfl rfl rfl rfl 0 [.string A1, .string A2, .string A3] rfl ⟨lt0, trivial⟩ (hd 3 (by decide)) hn ⟨.inr (hd 3 (by decide)), trivial⟩)
    rintro L σ W2 J hL
    have hf := J.fin rfl hL
    simp only [finR] at hf
    obtain ⟨e1, l1, k1⟩ := J.nwW 0 rfl (hL 3 (by decide)) (hL 4 (by decide))
    replace K0 := Lib.hid (J.eld 0 rfl)
    have low := J.low
    replace B := Lib.hid J.bb
    clear J hL
    try dsimp only at e1
    generalize blkOf (σ 6) = g2_3 at *
    have K1 := Lib.hid k1
    have L1 := Lib.hid (Nat.le_trans low l1)
    clear lt0 l1 k1 low
    rw [show List.map σ [14, 15, 16, 6] = _ from hf, e1]
    clear hf e1
    simp only [putAll, List.map, Act.put, List.setIfInBounds_toArray, List.set_cons_succ, List.set_cons_zero]
    go_upto_region 5 with (fail)
    cases tA1 : (A1.toList == [48])
    · skip
      skip
      · skip
        have H_NG := Lib.hid (h_ng ⟨hec, .inl tA1⟩)
        have H_CR := Lib.hid (h_cr ⟨hec, .inl tA1⟩)
        have H_D1 := Lib.hid (h_d1 ⟨hec, .inl tA1⟩)
        have H_D2 := Lib.hid (h_d2 ⟨hec, .inl tA1⟩)
        have H_V1 := Lib.hid (h_v1 ⟨hec, .inl tA1⟩)
        have H_D3 := Lib.hid (h_d3 ⟨hec, .inl tA1⟩)
        have H_D4 := Lib.hid (h_d4 ⟨hec, .inl tA1⟩)
        have H_V2 := Lib.hid (h_v2 ⟨hec, .inl tA1⟩)
        have H_N1 := Lib.hid (h_n1 ⟨hec, .inl tA1⟩)
        clear h_ng h_cr h_d1 h_d2 h_v1 h_d3 h_d4 h_v2 h_n1
        have c1_0 := K1.out.at_ 0 _ rfl
        go_upto_region 7 with (fail)
        clear c1_0
        have lt0 := K0.out.lt
        have lt1 := K1.out.lt
        refine wp_region_par2 (by kernel_rfl) [25, 26, 27, 28, 29, 30, 7] (RJ w W2.heap.size [.v 25 (.pointer (some ⟨g2_3, 1, none⟩)), .v 26 (.string A2), .v 27 (.string N), .v 28 (.pointer (some ⟨g2_3, 0, none⟩)), .v 29 (.string A1), .v 30 (.agg #[.string N, .string A1, .string ⟨#[48]⟩]), .n 7, .z] [⟨6, 7, fun g => .pointer (some ⟨g, 0, none⟩), #[.string ⟨#[]⟩, .string ⟨#[]⟩, .string ⟨#[]⟩], 24, some (7, #[.string N, .string A1, .string ⟨#[48]⟩])⟩] [⟨g1_0, #[.string A1, .string A2, .string A3, .string A0, .string S1, .string S2, .string S3], 58, none⟩, ⟨g2_3, #[.string A1, .string A2, .string A3], 24, none⟩] [] [(7, 6)] [] []) (by kernel_rfl) (by kernel_rfl) (by kernel_rfl) ?_ ?_ ?_
        · exact RJ.drew (RJ.start rfl B.out (by exact ⟨K0.out, K1.out, trivial⟩))
        · refine ⟨?_, ?_, ?_, ?_, ?_, ?_, ?_, ?_, trivial⟩
          · rintro L a U ho J hn hd KK hK; refine Wants.free rfl ?_; have r6 : a.tmps[(6 : Nat)]?.getD undef = .pointer (some ⟨g2_3, 0, none⟩) := ho.slot 6 rfl; go_simp; exact hK.out _ _ (J.st 0 rfl rfl)
          · rintro L a U ho J hn hd KK hK; refine Wants.free rfl ?_; have r25 := J.read 0 rfl (hd.get 0 rfl); have kb := (J.eld 1 rfl); have c1 := kb.at_ 1 _ rfl; clear kb; go_simp; exact hK.out _ _ (J.st 1 rfl rfl)
          · rintro L a U ho J hn hd KK hK; refine Wants.free rfl ?_; have r26 := J.read 1 rfl (hd.get 1 rfl); go_simp; go_at_call 76; (with_reducible refine (H_NG.out _ J.bb).mono ?_); rintro e wy ⟨rfl, q⟩; go_simp; exact hK.out _ _ (J.sq 2 rfl rfl q)
          · rintro L a U ho J hn hd KK hK; refine Wants.free rfl ?_; have r6 : a.tmps[(6 : Nat)]?.getD undef = .pointer (some ⟨g2_3, 0, none⟩) := ho.slot 6 rfl; go_simp; exact hK.out _ _ (J.st 3 rfl rfl)
          · rintro L a U ho J hn hd KK hK; refine Wants.free rfl ?_; have r28 := J.read 3 rfl (hd.get 3 rfl); have kb := (J.eld 1 rfl); have c0 := kb.at_ 0 _ rfl; clear kb; go_simp; exact hK.out _ _ (J.st 4 rfl rfl)
          · rintro L a U ho J hn hd KK hK; refine Wants.free rfl ?_; have r27 := J.read 2 rfl (hd.get 2 rfl); have r29 := J.read 4 rfl (hd.get 4 rfl); go_simp; exact hK.out _ _ (J.st 5 rfl rfl)
          · rintro L a U ho J hn hd KK hK; refine Wants.free rfl ?_; go_simp; exact hK.out _ _ (J.mf 6 0 rfl rfl rfl rfl rfl hn)
          · rintro L a U ho J hn hd KK hK; refine Wants.free rfl ?_; have r7 : a.tmps[(7 : Nat)]?.getD undef = .pointer (some ⟨(blkOf (slotOf a 7)), 0, none⟩) := J.readN 0 rfl (hd.get 6 rfl); have r30 := J.read 5 rfl (hd.get 5 rfl); have kb := (J.nwB 0 rfl (hd.get 6 rfl) hn).blk; have c0 := kb.at_ 0 _ rfl; have z0 := kb.free 0; have c1 := kb.at_ 1 _ rfl; have z1 := kb.free 1; have c2 := kb.at_ 2 _ rfl; have z2 := kb.free 2; clear kb; go_simp; exact hK.out undef _ (J.storedN 7 0 rfl rfl rfl rfl rfl 0 [.string N, .string A1, .string ⟨#[48]⟩] rfl ⟨lt0, lt1, trivial⟩ (hd.get 6 rfl) hn ⟨.inr (hd.get 6 rfl), trivial⟩)
        rintro L σ W3 J hL
        have hf := J.fin rfl hL
        simp only [finR] at hf
        obtain ⟨e2, l2, k2⟩ := J.nwW 0 rfl (hL 6 (by decide)) (hL 7 (by decide))
        replace K0 := Lib.hid (J.eld 0 rfl)
        replace K1 := Lib.hid (J.eld 1 rfl)
        have low := J.low
        replace B := Lib.hid J.bb
        clear J hL
        try dsimp only at e2
        generalize blkOf (σ 7) = g3_6 at *
        have K2 := Lib.hid k2
        have L2 := Lib.hid (Nat.le_trans low l2)
        clear lt0 lt1 l2 k2 low
        rw [show List.map σ [25, 26, 27, 28, 29, 30, 7] = _ from hf, e2]
        clear hf e2
        simp only [putAll, List.map, Act.put, List.setIfInBounds_toArray, List.set_cons_succ, List.set_cons_zero]
        go_upto_region 8 with (fail)
        have lt0 := K0.out.lt
        have lt1 := K1.out.lt
        have lt2 := K2.out.lt
        refine wp_region_seq2 [31, 32, 33, 8] (RJ w W3.heap.size [.v 31 (.agg #[.string A1, .string A2, .string A3]), .v 32 (.agg #[.string N, .string A1, .string ⟨#[48]⟩]), .v 33 (.agg #[.string X1, .string X2, .string X3]), .n 8, .z] [⟨3, 8, fun g => .pointer (some ⟨g, 0, none⟩), #[.string ⟨#[]⟩, .string ⟨#[]⟩, .string ⟨#[]⟩], 24, some (4, #[.string X1, .string X2, .string X3])⟩] [⟨g1_0, #[.string A1, .string A2, .string A3, .string A0, .string S1, .string S2, .string S3], 58, none⟩, ⟨g2_3, #[.string A1, .string A2, .string A3], 24, none⟩, ⟨g3_6, #[.string N, .string A1, .string ⟨#[48]⟩], 24, none⟩] [] [(4, 3)] [] []) (by kernel_rfl) (by kernel_rfl) ?_ ?_ ?_
        · exact RJ.start rfl B.out (by exact ⟨K0.out, K1.out, K2.out, trivial⟩)
        · refine ⟨?_, ?_, ?_, ?_, ?_, trivial⟩
          · rintro L a U ho J hn hd KK hK; refine Wants.free rfl ?_; have r6 : a.tmps[(6 : Nat)]?.getD undef = .pointer (some ⟨g2_3, 0, none⟩) := ho.slot 6 rfl; have kb := (J.eld 1 rfl); have c0 := kb.at_ 0 _ rfl; have c1 := kb.at_ 1 _ rfl; have c2 := kb.at_ 2 _ rfl; clear kb; go_simp; exact hK.out _ _ (J.st 0 rfl rfl)
          · rintro L a U ho J hn hd KK hK; refine Wants.free rfl ?_; have r7 : a.tmps[(7 : Nat)]?.getD undef = .pointer (some ⟨g3_6, 0, none⟩) := ho.slot 7 rfl; have kb := (J.eld 2 rfl); have c0 := kb.at_ 0 _ rfl; have c1 := kb.at_ 1 _ rfl; have c2 := kb.at_ 2 _ rfl; clear kb; go_simp; exact hK.out _ _ (J.st 1 rfl rfl)
          · rintro L a U ho J hn hd KK hK; refine Wants.free rfl ?_; have r31 := J.read 0 rfl (hd 0 (by decide)); have r32 := J.read 1 rfl (hd 1 (by decide)); go_simp; go_at_call 77; (with_reducible refine (H_CR.out _ J.bb).mono ?_); rintro e wy ⟨rfl, q⟩; go_simp; exact hK.out _ _ (J.sq 2 rfl rfl q)
          · rintro L a U ho J hn hd KK hK; refine Wants.free rfl ?_; go_simp; exact hK.out _ _ (J.mf 3 0 rfl rfl rfl rfl rfl hn)
          · rintro L a U ho J hn hd KK hK; refine Wants.free rfl ?_; have r8 : a.tmps[(8 : Nat)]?.getD undef = .pointer (some ⟨(blkOf (slotOf a 8)), 0, none⟩) := J.readN 0 rfl (hd 3 (by decide)); have r33 := J.read 2 rfl (hd 2 (by decide)); have kb := (J.nwB 0 rfl (hd 3 (by decide)) hn).blk; have c0 := kb.at_ 0 _ rfl; have z0 := kb.free 0; have c1 := kb.at_ 1 _ rfl; have z1 := kb.free 1; have c2 := kb.at_ 2 _ rfl; have z2 := kb.free 2; clear kb; go_simp; exact hK.out undef _ (J.storedN 4 0 rfl rfl rfl rfl rfl 0 [.string X1, .string X2, .string X3] rfl ⟨lt0, lt1, lt2, trivial⟩ (hd 3 (by decide)) hn ⟨.inr (hd 3 (by decide)), trivial⟩)
        rintro L σ W4 J hL
        have hf := J.fin rfl hL
        simp only [finR] at hf
        obtain ⟨e3, l3, k3⟩ := J.nwW 0 rfl (hL 3 (by decide)) (hL 4 (by decide))
        replace K0 := Lib.hid (J.eld 0 rfl)
        replace K1 := Lib.hid (J.eld 1 rfl)
        replace K2 := Lib.hid (J.eld 2 rfl)
        have low := J.low
        replace B := Lib.hid J.bb
        clear J hL
        try dsimp only at e3
        generalize blkOf (σ 8) = g4_3 at *
        have K3 := Lib.hid k3
        have L3 := Lib.hid (Nat.le_trans low l3)
        clear lt0 lt1 lt2 l3 k3 low
        rw [show List.map σ [31, 32, 33, 8] = _ from hf, e3]
        clear hf e3
        simp only [putAll, List.map, Act.put, List.setIfInBounds_toArray, List.set_cons_succ, List.set_cons_zero]
        go_upto_region 9 with (fail)
        have lt0 := K0.out.lt
        have lt1 := K1.out.lt
        have lt2 := K2.out.lt
        have lt3 := K3.out.lt
        refine wp_region_par2 (by kernel_rfl) [35, 36, 37, 38, 39, 40, 41, 42, 34, 43, 44, 2] (RJ w W4.heap.size [.v 35 (.pointer (some ⟨g1_0, 4, none⟩)), .v 36 (.agg #[.string S1, .string S2, .string S3]), .v 37 (.agg #[.string N, .string A1, .string ⟨#[48]⟩]), .v 38 (.string Q1), .v 39 (.agg #[.string N, .string A1, .string ⟨#[48]⟩]), .v 40 (.agg #[.string N, .string A1, .string ⟨#[48]⟩]), .v 41 (.string Q2), .v 42 (.tuple #[.string Q3, .int .i64 0]), .v 34 (.tuple #[.string Q3, .int .i64 0]), .v 43 (.string Q3), .v 44 (.int .i64 0), .v 2 (.string Q3)] [] [⟨g1_0, #[.string A1, .string A2, .string A3, .string A0, .string S1, .string S2, .string S3], 58, none⟩, ⟨g2_3, #[.string A1, .string A2, .string A3], 24, none⟩, ⟨g3_6, #[.string N, .string A1, .string ⟨#[48]⟩], 24, none⟩, ⟨g4_3, #[.string X1, .string X2, .string X3], 24, none⟩] [] [] [] []) (by kernel_rfl) (by kernel_rfl) (by kernel_rfl) ?_ ?_ ?_
        · exact RJ.drew (RJ.start rfl B.out (by exact ⟨K0.out, K1.out, K2.out, K3.out, trivial⟩))
        · refine ⟨?_, ?_, ?_, ?_, ?_, ?_, ?_, ?_, ?_, ?_, ?_, ?_, trivial⟩
          · rintro L a U ho J hn hd KK hK; refine Wants.free rfl ?_; have r1 : a.tmps[(1 : Nat)]?.getD undef = .pointer (some ⟨g1_0, 0, none⟩) := ho.slot 1 rfl; go_simp; exact hK.out _ _ (J.st 0 rfl rfl)
          · rintro L a U ho J hn hd KK hK; refine Wants.free rfl ?_; have r35 := J.read 0 rfl (hd.get 0 rfl); have kb := (J.eld 0 rfl); have c4 := kb.at_ 4 _ rfl; have c5 := kb.at_ 5 _ rfl; have c6 := kb.at_ 6 _ rfl; clear kb; go_simp; exact hK.out _ _ (J.st 1 rfl rfl)
          · rintro L a U ho J hn hd KK hK; refine Wants.free rfl ?_; have r7 : a.tmps[(7 : Nat)]?.getD undef = .pointer (some ⟨g3_6, 0, none⟩) := ho.slot 7 rfl; have kb := (J.eld 2 rfl); have c0 := kb.at_ 0 _ rfl; have c1 := kb.at_ 1 _ rfl; have c2 := kb.at_ 2 _ rfl; clear kb; go_simp; exact hK.out _ _ (J.st 2 rfl rfl)
          · rintro L a U ho J hn hd KK hK; refine Wants.free rfl ?_; have r36 := J.read 1 rfl (hd.get 1 rfl); have r37 := J.read 2 rfl (hd.get 2 rfl); go_simp; go_at_call 64; (with_reducible refine (H_D1.out _ J.bb).mono ?_); rintro e wy ⟨rfl, q⟩; go_simp; exact hK.out _ _ (J.sq 3 rfl rfl q)
          · rintro L a U ho J hn hd KK hK; refine Wants.free rfl ?_; have r7 : a.tmps[(7 : Nat)]?.getD undef = .pointer (some ⟨g3_6, 0, none⟩) := ho.slot 7 rfl; have kb := (J.eld 2 rfl); have c0 := kb.at_ 0 _ rfl; have c1 := kb.at_ 1 _ rfl; have c2 := kb.at_ 2 _ rfl; clear kb; go_simp; exact hK.out _ _ (J.st 4 rfl rfl)
          · rintro L a U ho J hn hd KK hK; refine Wants.free rfl ?_; have r7 : a.tmps[(7 : Nat)]?.getD undef = .pointer (some ⟨g3_6, 0, none⟩) := ho.slot 7 rfl; have kb := (J.eld 2 rfl); have c0 := kb.at_ 0 _ rfl; have c1 := kb.at_ 1 _ rfl; have c2 := kb.at_ 2 _ rfl; clear kb; go_simp; exact hK.out _ _ (J.st 5 rfl rfl)
          · rintro L a U ho J hn hd KK hK; refine Wants.free rfl ?_; have r39 := J.read 4 rfl (hd.get 4 rfl); have r40 := J.read 5 rfl (hd.get 5 rfl); go_simp; go_at_call 64; (with_reducible refine (H_D2.out _ J.bb).mono ?_); rintro e wy ⟨rfl, q⟩; go_simp; exact hK.out _ _ (J.sq 6 rfl rfl q)
          · rintro L a U ho J hn hd KK hK; refine Wants.free rfl ?_; have r38 := J.read 3 rfl (hd.get 3 rfl); have r41 := J.read 6 rfl (hd.get 6 rfl); go_simp; go_at_call 63; (with_reducible refine (H_V1.out _ J.bb).mono ?_); rintro e wy ⟨rfl, q⟩; go_simp; exact hK.out _ _ (J.sq 7 rfl rfl q)
          · rintro L a U ho J hn hd KK hK; refine Wants.free rfl ?_; have r42 := J.read 7 rfl (hd.get 7 rfl); go_simp; exact hK.out _ _ (J.st 8 rfl rfl)
          · rintro L a U ho J hn hd KK hK; refine Wants.free rfl ?_; have r34 := J.read 8 rfl (hd.get 8 rfl); go_simp; exact hK.out _ _ (J.st 9 rfl rfl)
          · rintro L a U ho J hn hd KK hK; refine Wants.free rfl ?_; have r34 := J.read 8 rfl (hd.get 8 rfl); go_simp; exact hK.out _ _ (J.st 10 rfl rfl)
          · rintro L a U ho J hn hd KK hK; refine Wants.free rfl ?_; have r43 := J.read 9 rfl (hd.get 9 rfl); go_simp; exact hK.out _ _ (J.st 11 rfl rfl)
        rintro L σ W5 J hL
        have hf := J.fin rfl hL
        simp only [finR] at hf
        replace K0 := Lib.hid (J.eld 0 rfl)
        replace K1 := Lib.hid (J.eld 1 rfl)
        replace K2 := Lib.hid (J.eld 2 rfl)
        replace K3 := Lib.hid (J.eld 3 rfl)
        replace B := Lib.hid J.bb
        clear J hL
        clear lt0 lt1 lt2 lt3
        rw [show List.map σ [35, 36, 37, 38, 39, 40, 41, 42, 34, 43, 44, 2] = _ from hf]
        clear hf
        simp only [putAll, List.map, Act.put, List.setIfInBounds_toArray, List.set_cons_succ, List.set_cons_zero]
        go_upto_region 10 with (fail)
        have lt0 := K0.out.lt
        have lt1 := K1.out.lt
        have lt2 := K2.out.lt
        have lt3 := K3.out.lt
        refine wp_region_par2 (by kernel_rfl) [46, 47, 48, 49, 50, 51, 52, 53, 45, 54, 55, 3] (RJ w W5.heap.size [.v 46 (.pointer (some ⟨g1_0, 4, none⟩)), .v 47 (.agg #[.string S1, .string S2, .string S3]), .v 48 (.agg #[.string X1, .string X2, .string X3]), .v 49 (.string R1), .v 50 (.agg #[.string X1, .string X2, .string X3]), .v 51 (.agg #[.string X1, .string X2, .string X3]), .v 52 (.string R2), .v 53 (.tuple #[.string R3, .int .i64 0]), .v 45 (.tuple #[.string R3, .int .i64 0]), .v 54 (.string R3), .v 55 (.int .i64 0), .v 3 (.string R3)] [] [⟨g1_0, #[.string A1, .string A2, .string A3, .string A0, .string S1, .string S2, .string S3], 58, none⟩, ⟨g2_3, #[.string A1, .string A2, .string A3], 24, none⟩, ⟨g3_6, #[.string N, .string A1, .string ⟨#[48]⟩], 24, none⟩, ⟨g4_3, #[.string X1, .string X2, .string X3], 24, none⟩] [] [] [] []) (by kernel_rfl) (by kernel_rfl) (by kernel_rfl) ?_ ?_ ?_
        · exact RJ.drew (RJ.start rfl B.out (by exact ⟨K0.out, K1.out, K2.out, K3.out, trivial⟩))
        · refine ⟨?_, ?_, ?_, ?_, ?_, ?_, ?_, ?_, ?_, ?_, ?_, ?_, trivial⟩
          · rintro L a U ho J hn hd KK hK; refine Wants.free rfl ?_; have r1 : a.tmps[(1 : Nat)]?.getD undef = .pointer (some ⟨g1_0, 0, none⟩) := ho.slot 1 rfl; go_simp; exact hK.out _ _ (J.st 0 rfl rfl)
          · rintro L a U ho J hn hd KK hK; refine Wants.free rfl ?_; have r46 := J.read 0 rfl (hd.get 0 rfl); have kb := (J.eld 0 rfl); have c4 := kb.at_ 4 _ rfl; have c5 := kb.at_ 5 _ rfl; have c6 := kb.at_ 6 _ rfl; clear kb; go_simp; exact hK.out _ _ (J.st 1 rfl rfl)
          · rintro L a U ho J hn hd KK hK; refine Wants.free rfl ?_; have r8 : a.tmps[(8 : Nat)]?.getD undef = .pointer (some ⟨g4_3, 0, none⟩) := ho.slot 8 rfl; have kb := (J.eld 3 rfl); have c0 := kb.at_ 0 _ rfl; have c1 := kb.at_ 1 _ rfl; have c2 := kb.at_ 2 _ rfl; clear kb; go_simp; exact hK.out _ _ (J.st 2 rfl rfl)
          · rintro L a U ho J hn hd KK hK; refine Wants.free rfl ?_; have r47 := J.read 1 rfl (hd.get 1 rfl); have r48 := J.read 2 rfl (hd.get 2 rfl); go_simp; go_at_call 64; (with_reducible refine (H_D3.out _ J.bb).mono ?_); rintro e wy ⟨rfl, q⟩; go_simp; exact hK.out _ _ (J.sq 3 rfl rfl q)
          · rintro L a U ho J hn hd KK hK; refine Wants.free rfl ?_; have r8 : a.tmps[(8 : Nat)]?.getD undef = .pointer (some ⟨g4_3, 0, none⟩) := ho.slot 8 rfl; have kb := (J.eld 3 rfl); have c0 := kb.at_ 0 _ rfl; have c1 := kb.at_ 1 _ rfl; have c2 := kb.at_ 2 _ rfl; clear kb; go_simp; exact hK.out _ _ (J.st 4 rfl rfl)
          · rintro L a U ho J hn hd KK hK; refine Wants.free rfl ?_; have r8 : a.tmps[(8 : Nat)]?.getD undef = .pointer (some ⟨g4_3, 0, none⟩) := ho.slot 8 rfl; have kb := (J.eld 3 rfl); have c0 := kb.at_ 0 _ rfl; have c1 := kb.at_ 1 _ rfl; have c2 := kb.at_ 2 _ rfl; clear kb; go_simp; exact hK.out _ _ (J.st 5 rfl rfl)
          · rintro L a U ho J hn hd KK hK; refine Wants.free rfl ?_; have r50 := J.read 4 rfl (hd.get 4 rfl); have r51 := J.read 5 rfl (hd.get 5 rfl); go_simp; go_at_call 64; (with_reducible refine (H_D4.out _ J.bb).mono ?_); rintro e wy ⟨rfl, q⟩; go_simp; exact hK.out _ _ (J.sq 6 rfl rfl q)
          · rintro L a U ho J hn hd KK hK; refine Wants.free rfl ?_; have r49 := J.read 3 rfl (hd.get 3 rfl); have r52 := J.read 6 rfl (hd.get 6 rfl); go_simp; go_at_call 63; (with_reducible refine (H_V2.out _ J.bb).mono ?_); rintro e wy ⟨rfl, q⟩; go_simp; exact hK.out _ _ (J.sq 7 rfl rfl q)
          · rintro L a U ho J hn hd KK hK; refine Wants.free rfl ?_; have r53 := J.read 7 rfl (hd.get 7 rfl); go_simp; exact hK.out _ _ (J.st 8 rfl rfl)
          · rintro L a U ho J hn hd KK hK; refine Wants.free rfl ?_; have r45 := J.read 8 rfl (hd.get 8 rfl); go_simp; exact hK.out _ _ (J.st 9 rfl rfl)
          · rintro L a U ho J hn hd KK hK; refine Wants.free rfl ?_; have r45 := J.read 8 rfl (hd.get 8 rfl); go_simp; exact hK.out _ _ (J.st 10 rfl rfl)
          · rintro L a U ho J hn hd KK hK; refine Wants.free rfl ?_; have r54 := J.read 9 rfl (hd.get 9 rfl); go_simp; exact hK.out _ _ (J.st 11 rfl rfl)
        rintro L σ W6 J hL
        have hf := J.fin rfl hL
        simp only [finR] at hf
        replace K0 := Lib.hid (J.eld 0 rfl)
        replace K1 := Lib.hid (J.eld 1 rfl)
        replace K2 := Lib.hid (J.eld 2 rfl)
        replace K3 := Lib.hid (J.eld 3 rfl)
        replace B := Lib.hid J.bb
        clear J hL
        clear lt0 lt1 lt2 lt3
        rw [show List.map σ [46, 47, 48, 49, 50, 51, 52, 53, 45, 54, 55, 3] = _ from hf]
        clear hf
        simp only [putAll, List.map, Act.put, List.setIfInBounds_toArray, List.set_cons_succ, List.set_cons_zero]
        go_upto_region 11 with (fail)
        have lt0 := K0.out.lt
        have lt1 := K1.out.lt
        have lt2 := K2.out.lt
        have lt3 := K3.out.lt
        refine wp_region_seq2 [56, 57, 58, 59, 60] (RJ w W6.heap.size [.v 56 (.string Q3), .v 57 (.string R3), .n 58, .v 59 (.int .i64 0), .v 60 (.bool false)] [⟨2, 58, fun g => .slice (some ⟨g, 0, none⟩) 2 2, #[.string Q3, .string R3], 22, none⟩] [⟨g1_0, #[.string A1, .string A2, .string A3, .string A0, .string S1, .string S2, .string S3], 58, none⟩, ⟨g2_3, #[.string A1, .string A2, .string A3], 24, none⟩, ⟨g3_6, #[.string N, .string A1, .string ⟨#[48]⟩], 24, none⟩, ⟨g4_3, #[.string X1, .string X2, .string X3], 24, none⟩] [] [] [] []) (by kernel_rfl) (by kernel_rfl) ?_ ?_ ?_
        · exact RJ.start rfl B.out (by exact ⟨K0.out, K1.out, K2.out, K3.out, trivial⟩)
        · refine ⟨?_, ?_, ?_, ?_, ?_, trivial⟩
          · rintro L a U ho J hn hd KK hK; refine Wants.free rfl ?_; have r2 : a.tmps[(2 : Nat)]?.getD undef = .string Q3 := ho.slot 2 rfl; go_simp; exact hK.out _ _ (J.st 0 rfl rfl)
          · rintro L a U ho J hn hd KK hK; refine Wants.free rfl ?_; have r3 : a.tmps[(3 : Nat)]?.getD undef = .string R3 := ho.slot 3 rfl; go_simp; exact hK.out _ _ (J.st 1 rfl rfl)
          · rintro L a U ho J hn hd KK hK; refine Wants.free rfl ?_; have r56 := J.read 0 rfl (hd 0 (by decide)); have r57 := J.read 1 rfl (hd 1 (by decide)); go_simp; exact hK.out _ _ (J.mf 2 0 rfl rfl rfl rfl rfl hn)
          · rintro L a U ho J hn hd KK hK; refine Wants.free rfl ?_; have r58 : a.tmps[(58 : Nat)]?.getD undef = .slice (some ⟨(blkOf (slotOf a 58)), 0, none⟩) 2 2 := J.readN 0 rfl (hd 2 (by decide)); go_simp; go_at_call 51; (with_reducible refine (H_N1.out _ _ (J.nw 0 rfl (hd 2 (by decide))).blk J.bb).mono ?_); rintro e wy ⟨rfl, q⟩; go_simp; exact hK.out _ _ (J.sq 3 rfl rfl q)
          · rintro L a U ho J hn hd KK hK; refine Wants.free rfl ?_; have r59 := J.read 3 rfl (hd 3 (by decide)); go_simp; exact hK.out _ _ (J.st 4 rfl rfl)
        rintro L σ W7 J hL
        have hf := J.fin rfl hL
        simp only [finR] at hf
        obtain ⟨e4, l4, k4⟩ := J.nw 0 rfl (hL 2 (by decide))
        replace K0 := Lib.hid (J.eld 0 rfl)
        replace K1 := Lib.hid (J.eld 1 rfl)
        replace K2 := Lib.hid (J.eld 2 rfl)
        replace K3 := Lib.hid (J.eld 3 rfl)
        have low := J.low
        replace B := Lib.hid J.bb
        clear J hL
        try dsimp only at e4
        generalize blkOf (σ 58) = g7_2 at *
        have K4 := Lib.hid k4
        have L4 := Lib.hid (Nat.le_trans low l4)
        clear lt0 lt1 lt2 lt3 l4 k4 low
        rw [show List.map σ [56, 57, 58, 59, 60] = _ from hf, e4]
        clear hf e4
        simp only [putAll, List.map, Act.put, List.setIfInBounds_toArray, List.set_cons_succ, List.set_cons_zero]
        go_wp2
        go_ret3
        exact ⟨by rw [r3 hec (.inl tA1)] <;> rfl, B.out⟩
    · skip
      cases tA2 : (A2.toList == [48])
      · skip
        skip
        · skip
          have H_NG := Lib.hid (h_ng ⟨hec, .inr tA2⟩)
          have H_CR := Lib.hid (h_cr ⟨hec, .inr tA2⟩)
          have H_D1 := Lib.hid (h_d1 ⟨hec, .inr tA2⟩)
          have H_D2 := Lib.hid (h_d2 ⟨hec, .inr tA2⟩)
          have H_V1 := Lib.hid (h_v1 ⟨hec, .inr tA2⟩)
          have H_D3 := Lib.hid (h_d3 ⟨hec, .inr tA2⟩)
          have H_D4 := Lib.hid (h_d4 ⟨hec, .inr tA2⟩)
          have H_V2 := Lib.hid (h_v2 ⟨hec, .inr tA2⟩)
          have H_N1 := Lib.hid (h_n1 ⟨hec, .inr tA2⟩)
          clear h_ng h_cr h_d1 h_d2 h_v1 h_d3 h_d4 h_v2 h_n1
          have c1_0 := K1.out.at_ 0 _ rfl
          have c1_1 := K1.out.at_ 1 _ rfl
          go_upto_region 7 with (fail)
          clear c1_0 c1_1
          have lt0 := K0.out.lt
          have lt1 := K1.out.lt
          refine wp_region_par2 (by kernel_rfl) [25, 26, 27, 28, 29, 30, 7] (RJ w W2.heap.size [.v 25 (.pointer (some ⟨g2_3, 1, none⟩)), .v 26 (.string A2), .v 27 (.string N), .v 28 (.pointer (some ⟨g2_3, 0, none⟩)), .v 29 (.string A1), .v 30 (.agg #[.string N, .string A1, .string ⟨#[48]⟩]), .n 7, .z] [⟨6, 7, fun g => .pointer (some ⟨g, 0, none⟩), #[.string ⟨#[]⟩, .string ⟨#[]⟩, .string ⟨#[]⟩], 24, some (7, #[.string N, .string A1, .string ⟨#[48]⟩])⟩] [⟨g1_0, #[.string A1, .string A2, .string A3, .string A0, .string S1, .string S2, .string S3], 58, none⟩, ⟨g2_3, #[.string A1, .string A2, .string A3], 24, none⟩] [] [(7, 6)] [] []) (by kernel_rfl) (by kernel_rfl) (by kernel_rfl) ?_ ?_ ?_
          · exact RJ.drew (RJ.start rfl B.out (by exact ⟨K0.out, K1.out, trivial⟩))
          · refine ⟨?_, ?_, ?_, ?_, ?_, ?_, ?_, ?_, trivial⟩
            · rintro L a U ho J hn hd KK hK; refine Wants.free rfl ?_; have r6 : a.tmps[(6 : Nat)]?.getD undef = .pointer (some ⟨g2_3, 0, none⟩) := ho.slot 6 rfl; go_simp; exact hK.out _ _ (J.st 0 rfl rfl)
            · rintro L a U ho J hn hd KK hK; refine Wants.free rfl ?_; have r25 := J.read 0 rfl (hd.get 0 rfl); have kb := (J.eld 1 rfl); have c1 := kb.at_ 1 _ rfl; clear kb; go_simp; exact hK.out _ _ (J.st 1 rfl rfl)
            · rintro L a U ho J hn hd KK hK; refine Wants.free rfl ?_; have r26 := J.read 1 rfl (hd.get 1 rfl); go_simp; go_at_call 76; (with_reducible refine (H_NG.out _ J.bb).mono ?_); rintro e wy ⟨rfl, q⟩; go_simp; exact hK.out _ _ (J.sq 2 rfl rfl q)
            · rintro L a U ho J hn hd KK hK; refine Wants.free rfl ?_; have r6 : a.tmps[(6 : Nat)]?.getD undef = .pointer (some ⟨g2_3, 0, none⟩) := ho.slot 6 rfl; go_simp; exact hK.out _ _ (J.st 3 rfl rfl)
            · rintro L a U ho J hn hd KK hK; refine Wants.free rfl ?_; have r28 := J.read 3 rfl (hd.get 3 rfl); have kb := (J.eld 1 rfl); have c0 := kb.at_ 0 _ rfl; clear kb; go_simp; exact hK.out _ _ (J.st 4 rfl rfl)
            · rintro L a U ho J hn hd KK hK; refine Wants.free rfl ?_; have r27 := J.read 2 rfl (hd.get 2 rfl); have r29 := J.read 4 rfl (hd.get 4 rfl); go_simp; exact hK.out _ _ (J.st 5 rfl rfl)
            · rintro L a U ho J hn hd KK hK; refine Wants.free rfl ?_; go_simp; exact hK.out _ _ (J.mf 6 0 rfl rfl rfl rfl rfl hn)
            · rintro L a U ho J hn hd KK hK; refine Wants.free rfl ?_; have r7 : a.tmps[(7 : Nat)]?.getD undef = .pointer (some ⟨(blkOf (slotOf a 7)), 0, none⟩) := J.readN 0 rfl (hd.get 6 rfl); have r30 := J.read 5 rfl (hd.get 5 rfl); have kb := (J.nwB 0 rfl (hd.get 6 rfl) hn).blk; have c0 := kb.at_ 0 _ rfl; have z0 := kb.free 0; have c1 := kb.at_ 1 _ rfl; have z1 := kb.free 1; have c2 := kb.at_ 2 _ rfl; have z2 := kb.free 2; clear kb; go_simp; exact hK.out undef _ (J.storedN 7 0 rfl rfl rfl rfl rfl 0 [.string N, .string A1, .string ⟨#[48]⟩] rfl ⟨lt0, lt1, trivial⟩ (hd.get 6 rfl) hn ⟨.inr (hd.get 6 rfl), trivial⟩)
          rintro L σ W3 J hL
          have hf := J.fin rfl hL
          simp only [finR] at hf
          obtain ⟨e2, l2, k2⟩ := J.nwW 0 rfl (hL 6 (by decide)) (hL 7 (by decide))
          replace K0 := Lib.hid (J.eld 0 rfl)
          replace K1 := Lib.hid (J.eld 1 rfl)
          have low := J.low
          replace B := Lib.hid J.bb
          clear J hL
          try dsimp only at e2
          generalize blkOf (σ 7) = g3_6 at *
          have K2 := Lib.hid k2
          have L2 := Lib.hid (Nat.le_trans low l2)
          clear lt0 lt1 l2 k2 low
          rw [show List.map σ [25, 26, 27, 28, 29, 30, 7] = _ from hf, e2]
          clear hf e2
          simp only [putAll, List.map, Act.put, List.setIfInBounds_toArray, List.set_cons_succ, List.set_cons_zero]
          go_upto_region 8 with (fail)
          have lt0 := K0.out.lt
          have lt1 := K1.out.lt
          have lt2 := K2.out.lt
          refine wp_region_seq2 [31, 32, 33, 8] (RJ w W3.heap.size [.v 31 (.agg #[.string A1, .string A2, .string A3]), .v 32 (.agg #[.string N, .string A1, .string ⟨#[48]⟩]), .v 33 (.agg #[.string X1, .string X2, .string X3]), .n 8, .z] [⟨3, 8, fun g => .pointer (some ⟨g, 0, none⟩), #[.string ⟨#[]⟩, .string ⟨#[]⟩, .string ⟨#[]⟩], 24, some (4, #[.string X1, .string X2, .string X3])⟩] [⟨g1_0, #[.string A1, .string A2, .string A3, .string A0, .string S1, .string S2, .string S3], 58, none⟩, ⟨g2_3, #[.string A1, .string A2, .string A3], 24, none⟩, ⟨g3_6, #[.string N, .string A1, .string ⟨#[48]⟩], 24, none⟩] [] [(4, 3)] [] []) (by kernel_rfl) (by kernel_rfl) ?_ ?_ ?_
          · exact RJ.start rfl B.out (by exact ⟨K0.out, K1.out, K2.out, trivial⟩)
          · refine ⟨?_, ?_, ?_, ?_, ?_, trivial⟩
            · rintro L a U ho J hn hd KK hK; refine Wants.free rfl ?_; have r6 : a.tmps[(6 : Nat)]?.getD undef = .pointer (some ⟨g2_3, 0, none⟩) := ho.slot 6 rfl; have kb := (J.eld 1 rfl); have c0 := kb.at_ 0 _ rfl; have c1 := kb.at_ 1 _ rfl; have c2 := kb.at_ 2 _ rfl; clear kb; go_simp; exact hK.out _ _ (J.st 0 rfl rfl)
            · rintro L a U ho J hn hd KK hK; refine Wants.free rfl ?_; have r7 : a.tmps[(7 : Nat)]?.getD undef = .pointer (some ⟨g3_6, 0, none⟩) := ho.slot 7 rfl; have kb := (J.eld 2 rfl); have c0 := kb.at_ 0 _ rfl; have c1 := kb.at_ 1 _ rfl; have c2 := kb.at_ 2 _ rfl; clear kb; go_simp; exact hK.out _ _ (J.st 1 rfl rfl)
            · rintro L a U ho J hn hd KK hK; refine Wants.free rfl ?_; have r31 := J.read 0 rfl (hd 0 (by decide)); have r32 := J.read 1 rfl (hd 1 (by decide)); go_simp; go_at_call 77; (with_reducible refine (H_CR.out _ J.bb).mono ?_); rintro e wy ⟨rfl, q⟩; go_simp; exact hK.out _ _ (J.sq 2 rfl rfl q)
            · rintro L a U ho J hn hd KK hK; refine Wants.free rfl ?_; go_simp; exact hK.out _ _ (J.mf 3 0 rfl rfl rfl rfl rfl hn)
            · rintro L a U ho J hn hd KK hK; refine Wants.free rfl ?_; have r8 : a.tmps[(8 : Nat)]?.getD undef = .pointer (some ⟨(blkOf (slotOf a 8)), 0, none⟩) := J.readN 0 rfl (hd 3 (by decide)); have r33 := J.read 2 rfl (hd 2 (by decide)); have kb := (J.nwB 0 rfl (hd 3 (by decide)) hn).blk; have c0 := kb.at_ 0 _ rfl; have z0 := kb.free 0; have c1 := kb.at_ 1 _ rfl; have z1 := kb.free 1; have c2 := kb.at_ 2 _ rfl; have z2 := kb.free 2; clear kb; go_simp; exact hK.out undef _ (J.storedN 4 0 rfl rfl rfl rfl rfl 0 [.string X1, .string X2, .string X3] rfl ⟨lt0, lt1, lt2, trivial⟩ (hd 3 (by decide)) hn ⟨.inr (hd 3 (by decide)), trivial⟩)
          rintro L σ W4 J hL
          have hf := J.fin rfl hL
          simp only [finR] at hf
          obtain ⟨e3, l3, k3⟩ := J.nwW 0 rfl (hL 3 (by decide)) (hL 4 (by decide))
          replace K0 := Lib.hid (J.eld 0 rfl)
          replace K1 := Lib.hid (J.eld 1 rfl)
          replace K2 := Lib.hid (J.eld 2 rfl)
          have low := J.low
          replace B := Lib.hid J.bb
          clear J hL
          try dsimp only at e3
          generalize blkOf (σ 8) = g4_3 at *
          have K3 := Lib.hid k3
          have L3 := Lib.hid (Nat.le_trans low l3)
          clear lt0 lt1 lt2 l3 k3 low
          rw [show List.map σ [31, 32, 33, 8] = _ from hf, e3]
          clear hf e3
          simp only [putAll, List.map, Act.put, List.setIfInBounds_toArray, List.set_cons_succ, List.set_cons_zero]
          go_upto_region 9 with (fail)
          have lt0 := K0.out.lt
          have lt1 := K1.out.lt
          have lt2 := K2.out.lt
          have lt3 := K3.out.lt
          refine wp_region_par2 (by kernel_rfl) [35, 36, 37, 38, 39, 40, 41, 42, 34, 43, 44, 2] (RJ w W4.heap.size [.v 35 (.pointer (some ⟨g1_0, 4, none⟩)), .v 36 (.agg #[.string S1, .string S2, .string S3]), .v 37 (.agg #[.string N, .string A1, .string ⟨#[48]⟩]), .v 38 (.string Q1), .v 39 (.agg #[.string N, .string A1, .string ⟨#[48]⟩]), .v 40 (.agg #[.string N, .string A1, .string ⟨#[48]⟩]), .v 41 (.string Q2), .v 42 (.tuple #[.string Q3, .int .i64 0]), .v 34 (.tuple #[.string Q3, .int .i64 0]), .v 43 (.string Q3), .v 44 (.int .i64 0), .v 2 (.string Q3)] [] [⟨g1_0, #[.string A1, .string A2, .string A3, .string A0, .string S1, .string S2, .string S3], 58, none⟩, ⟨g2_3, #[.string A1, .string A2, .string A3], 24, none⟩, ⟨g3_6, #[.string N, .string A1, .string ⟨#[48]⟩], 24, none⟩, ⟨g4_3, #[.string X1, .string X2, .string X3], 24, none⟩] [] [] [] []) (by kernel_rfl) (by kernel_rfl) (by kernel_rfl) ?_ ?_ ?_
          · exact RJ.drew (RJ.start rfl B.out (by exact ⟨K0.out, K1.out, K2.out, K3.out, trivial⟩))
          · refine ⟨?_, ?_, ?_, ?_, ?_, ?_, ?_, ?_, ?_, ?_, ?_, ?_, trivial⟩
            · rintro L a U ho J hn hd KK hK; refine Wants.free rfl ?_; have r1 : a.tmps[(1 : Nat)]?.getD undef = .pointer (some ⟨g1_0, 0, none⟩) := ho.slot 1 rfl; go_simp; exact hK.out _ _ (J.st 0 rfl rfl)
            · rintro L a U ho J hn hd KK hK; refine Wants.free rfl ?_; have r35 := J.read 0 rfl (hd.get 0 rfl); have kb := (J.eld 0 rfl); have c4 := kb.at_ 4 _ rfl; have c5 := kb.at_ 5 _ rfl; have c6 := kb.at_ 6 _ rfl; clear kb; go_simp; exact hK.out _ _ (J.st 1 rfl rfl)
            · rintro L a U ho J hn hd KK hK; refine Wants.free rfl ?_; have r7 : a.tmps[(7 : Nat)]?.getD undef = .pointer (some ⟨g3_6, 0, none⟩) := ho.slot 7 rfl; have kb := (J.eld 2 rfl); have c0 := kb.at_ 0 _ rfl; have c1 := kb.at_ 1 _ rfl; have c2 := kb.at_ 2 _ rfl; clear kb; go_simp; exact hK.out _ _ (J.st 2 rfl rfl)
            · rintro L a U ho J hn hd KK hK; refine Wants.free rfl ?_; have r36 := J.read 1 rfl (hd.get 1 rfl); have r37 := J.read 2 rfl (hd.get 2 rfl); go_simp; go_at_call 64; (with_reducible refine (H_D1.out _ J.bb).mono ?_); rintro e wy ⟨rfl, q⟩; go_simp; exact hK.out _ _ (J.sq 3 rfl rfl q)
            · rintro L a U ho J hn hd KK hK; refine Wants.free rfl ?_; have r7 : a.tmps[(7 : Nat)]?.getD undef = .pointer (some ⟨g3_6, 0, none⟩) := ho.slot 7 rfl; have kb := (J.eld 2 rfl); have c0 := kb.at_ 0 _ rfl; have c1 := kb.at_ 1 _ rfl; have c2 := kb.at_ 2 _ rfl; clear kb; go_simp; exact hK.out _ _ (J.st 4 rfl rfl)
            · rintro L a U ho J hn hd KK hK; refine Wants.free rfl ?_; have r7 : a.tmps[(7 : Nat)]?.getD undef = .pointer (some ⟨g3_6, 0, none⟩) := ho.slot 7 rfl; have kb := (J.eld 2 rfl); have c0 := kb.at_ 0 _ rfl; have c1 := kb.at_ 1 _ rfl; have c2 := kb.at_ 2 _ rfl; clear kb; go_simp; exact hK.out _ _ (J.st 5 rfl rfl)
            · rintro L a U ho J hn hd KK hK; refine Wants.free rfl ?_; have r39 := J.read 4 rfl (hd.get 4 rfl); have r40 := J.read 5 rfl (hd.get 5 rfl); go_simp; go_at_call 64; (with_reducible refine (H_D2.out _ J.bb).mono ?_); rintro e wy ⟨rfl, q⟩; go_simp; exact hK.out _ _ (J.sq 6 rfl rfl q)
            · rintro L a U ho J hn hd KK hK; refine Wants.free rfl ?_; have r38 := J.read 3 rfl (hd.get 3 rfl); have r41 := J.read 6 rfl (hd.get 6 rfl); go_simp; go_at_call 63; (with_reducible refine (H_V1.out _ J.bb).mono ?_); rintro e wy ⟨rfl, q⟩; go_simp; exact hK.out _ _ (J.sq 7 rfl rfl q)
            · rintro L a U ho J hn hd KK hK; refine Wants.free rfl ?_; have r42 := J.read 7 rfl (hd.get 7 rfl); go_simp; exact hK.out _ _ (J.st 8 rfl rfl)
            · rintro L a U ho J hn hd KK hK; refine Wants.free rfl ?_; have r34 := J.read 8 rfl (hd.get 8 rfl); go_simp; exact hK.out _ _ (J.st 9 rfl rfl)
            · rintro L a U ho J hn hd KK hK; refine Wants.free rfl ?_; have r34 := J.read 8 rfl (hd.get 8 rfl); go_simp; exact hK.out _ _ (J.st 10 rfl rfl)
            · rintro L a U ho J hn hd KK hK; refine Wants.free rfl ?_; have r43 := J.read 9 rfl (hd.get 9 rfl); go_simp; exact hK.out _ _ (J.st 11 rfl rfl)
          rintro L σ W5 J hL
          have hf := J.fin rfl hL
          simp only [finR] at hf
          replace K0 := Lib.hid (J.eld 0 rfl)
          replace K1 := Lib.hid (J.eld 1 rfl)
          replace K2 := Lib.hid (J.eld 2 rfl)
          replace K3 := Lib.hid (J.eld 3 rfl)
          replace B := Lib.hid J.bb
          clear J hL
          clear lt0 lt1 lt2 lt3
          rw [show List.map σ [35, 36, 37, 38, 39, 40, 41, 42, 34, 43, 44, 2] = _ from hf]
          clear hf
          simp only [putAll, List.map, Act.put, List.setIfInBounds_toArray, List.set_cons_succ, List.set_cons_zero]
          go_upto_region 10 with (fail)
          have lt0 := K0.out.lt
          have lt1 := K1.out.lt
          have lt2 := K2.out.lt
          have lt3 := K3.out.lt
          refine wp_region_par2 (by kernel_rfl) [46, 47, 48, 49, 50, 51, 52, 53, 45, 54, 55, 3] (RJ w W5.heap.size [.v 46 (.pointer (some ⟨g1_0, 4, none⟩)), .v 47 (.agg #[.string S1, .string S2, .string S3]), .v 48 (.agg #[.string X1, .string X2, .string X3]), .v 49 (.string R1), .v 50 (.agg #[.string X1, .string X2, .string X3]), .v 51 (.agg #[.string X1, .string X2, .string X3]), .v 52 (.string R2), .v 53 (.tuple #[.string R3, .int .i64 0]), .v 45 (.tuple #[.string R3, .int .i64 0]), .v 54 (.string R3), .v 55 (.int .i64 0), .v 3 (.string R3)] [] [⟨g1_0, #[.string A1, .string A2, .string A3, .string A0, .string S1, .string S2, .string S3], 58, none⟩, ⟨g2_3, #[.string A1, .string A2, .string A3], 24, none⟩, ⟨g3_6, #[.string N, .string A1, .string ⟨#[48]⟩], 24, none⟩, ⟨g4_3, #[.string X1, .string X2, .string X3], 24, none⟩] [] [] [] []) (by kernel_rfl) (by kernel_rfl) (by kernel_rfl) ?_ ?_ ?_
          · exact RJ.drew (RJ.start rfl B.out (by exact ⟨K0.out, K1.out, K2.out, K3.out, trivial⟩))
          · refine ⟨?_, ?_, ?_, ?_, ?_, ?_, ?_, ?_, ?_, ?_, ?_, ?_, trivial⟩
            · rintro L a U ho J hn hd KK hK; refine Wants.free rfl ?_; have r1 : a.tmps[(1 : Nat)]?.getD undef = .pointer (some ⟨g1_0, 0, none⟩) := ho.slot 1 rfl; go_simp; exact hK.out _ _ (J.st 0 rfl rfl)
            · rintro L a U ho J hn hd KK hK; refine Wants.free rfl ?_; have r46 := J.read 0 rfl (hd.get 0 rfl); have kb := (J.eld 0 rfl); have c4 := kb.at_ 4 _ rfl; have c5 := kb.at_ 5 _ rfl; have c6 := kb.at_ 6 _ rfl; clear kb; go_simp; exact hK.out _ _ (J.st 1 rfl rfl)
            · rintro L a U ho J hn hd KK hK; refine Wants.free rfl ?_; have r8 : a.tmps[(8 : Nat)]?.getD undef = .pointer (some ⟨g4_3, 0, none⟩) := ho.slot 8 rfl; have kb := (J.eld 3 rfl); have c0 := kb.at_ 0 _ rfl; have c1 := kb.at_ 1 _ rfl; have c2 := kb.at_ 2 _ rfl; clear kb; go_simp; exact hK.out _ _ (J.st 2 rfl rfl)
            · rintro L a U ho J hn hd KK hK; refine Wants.free rfl ?_; have r47 := J.read 1 rfl (hd.get 1 rfl); have r48 := J.read 2 rfl (hd.get 2 rfl); go_simp; go_at_call 64; (with_reducible refine (H_D3.out _ J.bb).mono ?_); rintro e wy ⟨rfl, q⟩; go_simp; exact hK.out _ _ (J.sq 3 rfl rfl q)
            · rintro L a U ho J hn hd KK hK; refine Wants.free rfl ?_; have r8 : a.tmps[(8 : Nat)]?.getD undef = .pointer (some ⟨g4_3, 0, none⟩) := ho.slot 8 rfl; have kb := (J.eld 3 rfl); have c0 := kb.at_ 0 _ rfl; have c1 := kb.at_ 1 _ rfl; have c2 := kb.at_ 2 _ rfl; clear kb; go_simp; exact hK.out _ _ (J.st 4 rfl rfl)
            · rintro L a U ho J hn hd KK hK; refine Wants.free rfl ?_; have r8 : a.tmps[(8 : Nat)]?.getD undef = .pointer (some ⟨g4_3, 0, none⟩) := ho.slot 8 rfl; have kb := (J.eld 3 rfl); have c0 := kb.at_ 0 _ rfl; have c1 := kb.at_ 1 _ rfl; have c2 := kb.at_ 2 _ rfl; clear kb; go_simp; exact hK.out _ _ (J.st 5 rfl rfl)
            · rintro L a U ho J hn hd KK hK; refine Wants.free rfl ?_; have r50 := J.read 4 rfl (hd.get 4 rfl); have r51 := J.read 5 rfl (hd.get 5 rfl); go_simp; go_at_call 64; (with_reducible refine (H_D4.out _ J.bb).mono ?_); rintro e wy ⟨rfl, q⟩; go_simp; exact hK.out _ _ (J.sq 6 rfl rfl q)
            · rintro L a U ho J hn hd KK hK; refine Wants.free rfl ?_; have r49 := J.read 3 rfl (hd.get 3 rfl); have r52 := J.read 6 rfl (hd.get 6 rfl); go_simp; go_at_call 63; (with_reducible refine (H_V2.out _ J.bb).mono ?_); rintro e wy ⟨rfl, q⟩; go_simp; exact hK.out _ _ (J.sq 7 rfl rfl q)
            · rintro L a U ho J hn hd KK hK; refine Wants.free rfl ?_; have r53 := J.read 7 rfl (hd.get 7 rfl); go_simp; exact hK.out _ _ (J.st 8 rfl rfl)
            · rintro L a U ho J hn hd KK hK; refine Wants.free rfl ?_; have r45 := J.read 8 rfl (hd.get 8 rfl); go_simp; exact hK.out _ _ (J.st 9 rfl rfl)
            · rintro L a U ho J hn hd KK hK; refine Wants.free rfl ?_; have r45 := J.read 8 rfl (hd.get 8 rfl); go_simp; exact hK.out _ _ (J.st 10 rfl rfl)
            · rintro L a U ho J hn hd KK hK; refine Wants.free rfl ?_; have r54 := J.read 9 rfl (hd.get 9 rfl); go_simp; exact hK.out _ _ (J.st 11 rfl rfl)
          rintro L σ W6 J hL
          have hf := J.fin rfl hL
          simp only [finR] at hf
          replace K0 := Lib.hid (J.eld 0 rfl)
          replace K1 := Lib.hid (J.eld 1 rfl)
          replace K2 := Lib.hid (J.eld 2 rfl)
          replace K3 := Lib.hid (J.eld 3 rfl)
          replace B := Lib.hid J.bb
          clear J hL
          clear lt0 lt1 lt2 lt3
          rw [show List.map σ [46, 47, 48, 49, 50, 51, 52, 53, 45, 54, 55, 3] = _ from hf]
          clear hf
          simp only [putAll, List.map, Act.put, List.setIfInBounds_toArray, List.set_cons_succ, List.set_cons_zero]
          go_upto_region 11 with (fail)
          have lt0 := K0.out.lt
          have lt1 := K1.out.lt
          have lt2 := K2.out.lt
          have lt3 := K3.out.lt
          refine wp_region_seq2 [56, 57, 58, 59, 60] (RJ w W6.heap.size [.v 56 (.string Q3), .v 57 (.string R3), .n 58, .v 59 (.int .i64 0), .v 60 (.bool false)] [⟨2, 58, fun g => .slice (some ⟨g, 0, none⟩) 2 2, #[.string Q3, .string R3], 22, none⟩] [⟨g1_0, #[.string A1, .string A2, .string A3, .string A0, .string S1, .string S2, .string S3], 58, none⟩, ⟨g2_3, #[.string A1, .string A2, .string A3], 24, none⟩, ⟨g3_6, #[.string N, .string A1, .string ⟨#[48]⟩], 24, none⟩, ⟨g4_3, #[.string X1, .string X2, .string X3], 24, none⟩] [] [] [] []) (by kernel_rfl) (by kernel_rfl) ?_ ?_ ?_
          · exact RJ.start rfl B.out (by exact ⟨K0.out, K1.out, K2.out, K3.out, trivial⟩)
          · refine ⟨?_, ?_, ?_, ?_, ?_, trivial⟩
            · rintro L a U ho J hn hd KK hK; refine Wants.free rfl ?_; have r2 : a.tmps[(2 : Nat)]?.getD undef = .string Q3 := ho.slot 2 rfl; go_simp; exact hK.out _ _ (J.st 0 rfl rfl)
            · rintro L a U ho J hn hd KK hK; refine Wants.free rfl ?_; have r3 : a.tmps[(3 : Nat)]?.getD undef = .string R3 := ho.slot 3 rfl; go_simp; exact hK.out _ _ (J.st 1 rfl rfl)
            · rintro L a U ho J hn hd KK hK; refine Wants.free rfl ?_; have r56 := J.read 0 rfl (hd 0 (by decide)); have r57 := J.read 1 rfl (hd 1 (by decide)); go_simp; exact hK.out _ _ (J.mf 2 0 rfl rfl rfl rfl rfl hn)
            · rintro L a U ho J hn hd KK hK; refine Wants.free rfl ?_; have r58 : a.tmps[(58 : Nat)]?.getD undef = .slice (some ⟨(blkOf (slotOf a 58)), 0, none⟩) 2 2 := J.readN 0 rfl (hd 2 (by decide)); go_simp; go_at_call 51; (with_reducible refine (H_N1.out _ _ (J.nw 0 rfl (hd 2 (by decide))).blk J.bb).mono ?_); rintro e wy ⟨rfl, q⟩; go_simp; exact hK.out _ _ (J.sq 3 rfl rfl q)
            · rintro L a U ho J hn hd KK hK; refine Wants.free rfl ?_; have r59 := J.read 3 rfl (hd 3 (by decide)); go_simp; exact hK.out _ _ (J.st 4 rfl rfl)
          rintro L σ W7 J hL
          have hf := J.fin rfl hL
          simp only [finR] at hf
          obtain ⟨e4, l4, k4⟩ := J.nw 0 rfl (hL 2 (by decide))
          replace K0 := Lib.hid (J.eld 0 rfl)
          replace K1 := Lib.hid (J.eld 1 rfl)
          replace K2 := Lib.hid (J.eld 2 rfl)
          replace K3 := Lib.hid (J.eld 3 rfl)
          have low := J.low
          replace B := Lib.hid J.bb
          clear J hL
          try dsimp only at e4
          generalize blkOf (σ 58) = g7_2 at *
          have K4 := Lib.hid k4
          have L4 := Lib.hid (Nat.le_trans low l4)
          clear lt0 lt1 lt2 lt3 l4 k4 low
          rw [show List.map σ [56, 57, 58, 59, 60] = _ from hf, e4]
          clear hf e4
          simp only [putAll, List.map, Act.put, List.setIfInBounds_toArray, List.set_cons_succ, List.set_cons_zero]
          go_wp2
          go_ret3
          exact ⟨by rw [r3 hec (.inr tA2)] <;> rfl, B.out⟩
      · skip
        have c1_0 := K1.out.at_ 0 _ rfl
        have c1_1 := K1.out.at_ 1 _ rfl
        go_wp2
        clear c1_0 c1_1
        go_ret3
        exact ⟨by rw [r2 hec tA1 tA2] <;> rfl, B.out⟩
  · skip
    have qec : (ec != 0) = true := by simp [hec]
    go_wp2
    go_ret3
    exact ⟨by rw [r1 hec] <;> rfl, B.out⟩

end Go.Proofs.YtopilnlniidejaaGreatDoor
