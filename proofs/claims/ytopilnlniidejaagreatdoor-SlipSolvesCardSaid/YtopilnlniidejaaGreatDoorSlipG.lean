/- The walks of package slip, over texts: Solve. -/
import Derived.Test.YtopilnlniidejaaGreatDoorShelf
import Derived.Test.YtopilnlniidejaaGreatDoorGPar
import Derived.Deep.RegionHeld3
import Derived.Laws.ResultCell
import Derived.Deep.Cut
import Derived.Deep.CutRange
import Derived.Deep.DeepCutAuto
import Derived.Outline
namespace Go.Proofs.YtopilnlniidejaaGreatDoor
set_option linter.all false
open Go.RowKit

set_option maxRecDepth 100000 in
set_option maxHeartbeats 8000000 in
theorem ssolve_of (A1 A2 A3 A0 C1 C2 C3 C0 M1 D1 D2 D3 D0 M2 X2 X3 O1 O2 O3 : ByteArray) (e1 e2 e3 e4 e5 ef ez : Int) (ok : Bool) (res : Value) (w : World)
    (r1 : ¬ ef = 0 → res = .tuple #[.agg #[.string ⟨#[]⟩, .string ⟨#[]⟩, .string ⟨#[]⟩], .int .i64 ef])
    (r2 : ef = 0 → ¬ ez = 0 → res = .tuple #[.agg #[.string ⟨#[]⟩, .string ⟨#[]⟩, .string ⟨#[]⟩], .int .i64 ez])
    (r3 : ef = 0 → ez = 0 → ¬ ok = true → res = .tuple #[.agg #[.string ⟨#[]⟩, .string ⟨#[]⟩, .string ⟨#[]⟩], .int .i64 18])
    (r4 : ef = 0 → ez = 0 → ok = true → res = .tuple #[.agg #[.string O1, .string O2, .string O3], .int .i64 0])
    (h_p1 : ∀ (W : World), Below w.heap.size w W → Calls Tryz.prog 50 #[.agg #[.string A1, .string A2, .string A3, .string A0]] W fun e w' => e = .returned (.int .i64 e1) ∧ Below W.heap.size W w')
    (h_p2 : ∀ (W : World), Below w.heap.size w W → Calls Tryz.prog 50 #[.agg #[.string C1, .string C2, .string C3, .string C0]] W fun e w' => e = .returned (.int .i64 e2) ∧ Below W.heap.size W w')
    (h_n1 : ∀ (W : World) (b0 : Nat), Blk W b0 #[.string M1] 22 → Below w.heap.size w W → Calls Tryz.prog 51 #[.slice (some ⟨b0, 0, none⟩) 1 1] W fun e w' => e = .returned (.int .i64 e3) ∧ Below W.heap.size W w')
    (h_p3 : ∀ (W : World), Below w.heap.size w W → Calls Tryz.prog 50 #[.agg #[.string D1, .string D2, .string D3, .string D0]] W fun e w' => e = .returned (.int .i64 e4) ∧ Below W.heap.size W w')
    (h_n2 : ∀ (W : World) (b0 : Nat), Blk W b0 #[.string M2] 22 → Below w.heap.size w W → Calls Tryz.prog 51 #[.slice (some ⟨b0, 0, none⟩) 1 1] W fun e w' => e = .returned (.int .i64 e5) ∧ Below W.heap.size W w')
    (h_f1 : ∀ (W : World) (b0 : Nat), Blk W b0 #[.int .i64 e1, .int .i64 e2, .int .i64 e3, .int .i64 e4, .int .i64 e5] 31 → Below w.heap.size w W → Calls Tryz.prog 49 #[.slice (some ⟨b0, 0, none⟩) 5 5] W fun e w' => e = .returned (.int .i64 ef) ∧ Below W.heap.size W w')
    (h_z1 : ef = 0 → ∀ (W : World) (b0 : Nat), Blk W b0 #[.string A1, .string A2, .string A3, .string C1, .string C2, .string C3, .string D1, .string D2, .string D3] 24 → Below w.heap.size w W → Calls Tryz.prog 52 #[.slice (some ⟨b0, 0, none⟩) 3 3] W fun e w' => e = .returned (.int .i64 ez) ∧ Below W.heap.size W w')
    (h_u1 : ef = 0 ∧ ez = 0 → ∀ (W : World), Below w.heap.size w W → Calls Tryz.prog 53 #[.string M1, .string C0] W fun e w' => e = .returned (.string X2) ∧ Below W.heap.size W w')
    (h_u2 : ef = 0 ∧ ez = 0 → ∀ (W : World), Below w.heap.size w W → Calls Tryz.prog 53 #[.string M2, .string D0] W fun e w' => e = .returned (.string X3) ∧ Below W.heap.size W w')
    (h_mt : ef = 0 ∧ ez = 0 ∧ ok = true → ∀ (W : World), Below w.heap.size w W → Calls Tryz.prog 54 #[.agg #[.string A1, .string A2, .string A3, .string C1, .string C2, .string C3, .string D1, .string D2, .string D3], .agg #[.string ⟨#[48]⟩, .string X2, .string X3]] W fun e w' => e = .returned (.tuple #[.agg #[.string O1, .string O2, .string O3], .bool true]) ∧ Below W.heap.size W w')
    (h_mf : ef = 0 ∧ ez = 0 ∧ ¬ ok = true → ∀ (W : World), Below w.heap.size w W → Calls Tryz.prog 54 #[.agg #[.string A1, .string A2, .string A3, .string C1, .string C2, .string C3, .string D1, .string D2, .string D3], .agg #[.string ⟨#[48]⟩, .string X2, .string X3]] W fun e w' => e = .returned (.tuple #[.agg #[.string ⟨#[]⟩, .string ⟨#[]⟩, .string ⟨#[]⟩], .bool false]) ∧ Below W.heap.size W w')
    (h_sv : ef = 0 ∧ ez = 0 ∧ ok = true → ∀ (W : World), Below w.heap.size w W → Calls Tryz.prog 55 #[.agg #[.string O1, .string O2, .string O3]] W fun e w' => e = .returned (.tuple #[.agg #[.string O1, .string O2, .string O3], .int .i64 0]) ∧ Below W.heap.size W w') :
    Calls Tryz.prog 13 #[.agg #[.string A1, .string A2, .string A3, .string A0], .agg #[.string C1, .string C2, .string C3, .string C0, .string M1], .agg #[.string D1, .string D2, .string D3, .string D0, .string M2]] w fun e w' => e = .returned (res) ∧ Below w.heap.size w w' := by
  have H_P1 := Lib.hid h_p1
  have H_P2 := Lib.hid h_p2
  have H_N1 := Lib.hid h_n1
  have H_P3 := Lib.hid h_p3
  have H_N2 := Lib.hid h_n2
  have H_F1 := Lib.hid h_f1
  clear h_p1 h_p2 h_n1 h_p3 h_n2 h_f1
  have B := Lib.hid (Below.refl w.heap.size w)
  go_enter Tryz.func13, Tryz.ntmps13
  go_upto_region 0 with (fail)
  refine wp_region_seq2 [3, 4, 5, 6, 7] (RJ w w.heap.size [.n 3, .n 4, .n 5, .n 6, .v 7 (.int .i64 0)] [⟨0, 3, fun g => .pointer (some ⟨g, 0, none⟩), #[.string A1, .string A2, .string A3, .string A0], 26, none⟩, ⟨1, 4, fun g => .pointer (some ⟨g, 0, none⟩), #[.string C1, .string C2, .string C3, .string C0, .string M1], 35, none⟩, ⟨2, 5, fun g => .pointer (some ⟨g, 0, none⟩), #[.string D1, .string D2, .string D3, .string D0, .string M2], 35, none⟩, ⟨3, 6, fun g => .pointer (some ⟨g, 0, none⟩), #[.string ⟨#[]⟩, .string ⟨#[]⟩, .string ⟨#[]⟩], 24, none⟩] [] [] [] [(0, 3), (1, 3), (2, 3)] []) (by kernel_rfl) (by kernel_rfl) ?_ ?_ ?_
  · exact RJ.start rfl B.out (by exact trivial)
  · refine ⟨?_, ?_, ?_, ?_, ?_, trivial⟩
    · rintro L a U ho J hn hd KK hK; refine Wants.free rfl ?_; have r0 : a.tmps[(0 : Nat)]?.getD undef = .agg #[.string A1, .string A2, .string A3, .string A0] := ho.slot 0 rfl; go_simp; exact hK.out _ _ (J.mf 0 0 rfl rfl rfl rfl rfl hn)
    · rintro L a U ho J hn hd KK hK; refine Wants.free rfl ?_; have r1 : a.tmps[(1 : Nat)]?.getD undef = .agg #[.string C1, .string C2, .string C3, .string C0, .string M1] := ho.slot 1 rfl; go_simp; exact hK.out _ _ (J.mf 1 1 rfl rfl rfl rfl rfl hn)
    · rintro L a U ho J hn hd KK hK; refine Wants.free rfl ?_; have r2 : a.tmps[(2 : Nat)]?.getD undef = .agg #[.string D1, .string D2, .string D3, .string D0, .string M2] := ho.slot 2 rfl; go_simp; exact hK.out _ _ (J.mf 2 2 rfl rfl rfl rfl rfl hn)
    · rintro L a U ho J hn hd KK hK; refine Wants.free rfl ?_; go_simp; exact hK.out _ _ (J.mf 3 3 rfl rfl rfl rfl rfl hn)
    · rintro L a U ho J hn hd KK hK; refine Wants.free rfl ?_; go_simp; exact hK.out _ _ (J.st 4 rfl rfl)
  rintro L σ W1 J hL
  have hf := J.fin rfl hL
  simp only [finR] at hf
  obtain ⟨e0, l0, k0⟩ := J.nw 0 rfl (hL 0 (by decide))
  obtain ⟨e1, l1, k1⟩ := J.nw 1 rfl (hL 1 (by decide))
  obtain ⟨e2, l2, k2⟩ := J.nw 2 rfl (hL 2 (by decide))
  obtain ⟨e3, l3, k3⟩ := J.nw 3 rfl (hL 3 (by decide))
  have jd0_3 : blkOf (σ 3) ≠ blkOf (σ 6) := J.dis 0 _ _ _ rfl rfl rfl (hL 0 (by decide)) (hL 3 (by decide))
  have jd1_3 : blkOf (σ 4) ≠ blkOf (σ 6) := J.dis 1 _ _ _ rfl rfl rfl (hL 1 (by decide)) (hL 3 (by decide))
  have jd2_3 : blkOf (σ 5) ≠ blkOf (σ 6) := J.dis 2 _ _ _ rfl rfl rfl (hL 2 (by decide)) (hL 3 (by decide))
  have low := J.low
  replace B := Lib.hid J.bb
  clear J hL
  try dsimp only at e0 e1 e2 e3
  generalize blkOf (σ 3) = g1_0 at *
  generalize blkOf (σ 4) = g1_1 at *
  generalize blkOf (σ 5) = g1_2 at *
  generalize blkOf (σ 6) = g1_3 at *
  have K0 := Lib.hid k0
  have L0 := Lib.hid (Nat.le_trans low l0)
  have K1 := Lib.hid k1
  have L1 := Lib.hid (Nat.le_trans low l1)
  have K2 := Lib.hid k2
  have L2 := Lib.hid (Nat.le_trans low l2)
  have K3 := Lib.hid k3
  have L3 := Lib.hid (Nat.le_trans low l3)
  have D0_3 := Lib.hid jd0_3
  have D1_3 := Lib.hid jd1_3
  have D2_3 := Lib.hid jd2_3
  clear l0 l1 l2 l3 k0 k1 k2 k3 jd0_3 jd1_3 jd2_3 low
  rw [show List.map σ [3, 4, 5, 6, 7] = _ from hf, e0, e1, e2, e3]
  clear hf e0 e1 e2 e3
  simp only [putAll, List.map, Act.put, List.setIfInBounds_toArray, List.set_cons_succ, List.set_cons_zero]
  go_upto_region 1 with (fail)
  have lt0 := K0.out.lt
  have lt1 := K1.out.lt
  have lt2 := K2.out.lt
  have lt3 := K3.out.lt
  refine wp_region_par2 (by kernel_rfl) [13, 14, 15, 16, 17, 18, 19, 20, 21, 22, 23, 24, 25, 26, 27, 28, 29, 30, 8] (RJ w W1.heap.size [.v 13 (.agg #[.string A1, .string A2, .string A3, .string A0]), .v 14 (.int .i64 e1), .v 15 (.pointer (some ⟨g1_1, 0, none⟩)), .v 16 (.agg #[.string C1, .string C2, .string C3, .string C0]), .v 17 (.int .i64 e2), .v 18 (.pointer (some ⟨g1_1, 4, none⟩)), .v 19 (.string M1), .n 20, .v 21 (.int .i64 e3), .v 22 (.pointer (some ⟨g1_2, 0, none⟩)), .v 23 (.agg #[.string D1, .string D2, .string D3, .string D0]), .v 24 (.int .i64 e4), .v 25 (.pointer (some ⟨g1_2, 4, none⟩)), .v 26 (.string M2), .n 27, .v 28 (.int .i64 e5), .n 29, .v 30 (.int .i64 ef), .v 8 (.int .i64 ef)] [⟨7, 20, fun g => .slice (some ⟨g, 0, none⟩) 1 1, #[.string M1], 22, none⟩, ⟨14, 27, fun g => .slice (some ⟨g, 0, none⟩) 1 1, #[.string M2], 22, none⟩, ⟨16, 29, fun g => .slice (some ⟨g, 0, none⟩) 5 5, #[.int .i64 e1, .int .i64 e2, .int .i64 e3, .int .i64 e4, .int .i64 e5], 31, none⟩] [⟨g1_0, #[.string A1, .string A2, .string A3, .string A0], 26, none⟩, ⟨g1_1, #[.string C1, .string C2, .string C3, .string C0, .string M1], 35, none⟩, ⟨g1_2, #[.string D1, .string D2, .string D3, .string D0, .string M2], 35, none⟩, ⟨g1_3, #[.string ⟨#[]⟩, .string ⟨#[]⟩, .string ⟨#[]⟩], 24, none⟩] [] [] [] []) (by kernel_rfl) (by kernel_rfl) (by kernel_rfl) ?_ ?_ ?_
  · exact RJ.drew (RJ.start rfl B.out (by exact ⟨K0.out, K1.out, K2.out, K3.out, trivial⟩))
  · refine ⟨?_, ?_, ?_, ?_, ?_, ?_, ?_, ?_, ?_, ?_, ?_, ?_, ?_, ?_, ?_, ?_, ?_, ?_, ?_, trivial⟩
    · rintro L a U ho J hn hd KK hK; refine Wants.free rfl ?_; have r3 : a.tmps[(3 : Nat)]?.getD undef = .pointer (some ⟨g1_0, 0, none⟩) := ho.slot 3 rfl; have kb := (J.eld 0 rfl); have c0 := kb.at_ 0 _ rfl; have c1 := kb.at_ 1 _ rfl; have c2 := kb.at_ 2 _ rfl; have c3 := kb.at_ 3 _ rfl; clear kb; go_simp; exact hK.out _ _ (J.st 0 rfl rfl)
    · rintro L a U ho J hn hd KK hK; refine Wants.free rfl ?_; have r13 := J.read 0 rfl (hd.get 0 rfl); go_simp; go_at_call 50; (with_reducible refine (H_P1.out _ J.bb).mono ?_); rintro e wy ⟨rfl, q⟩; go_simp; exact hK.out _ _ (J.sq 1 rfl rfl q)
    · rintro L a U ho J hn hd KK hK; refine Wants.free rfl ?_; have r4 : a.tmps[(4 : Nat)]?.getD undef = .pointer (some ⟨g1_1, 0, none⟩) := ho.slot 4 rfl; go_simp; exact hK.out _ _ (J.st 2 rfl rfl)
    · rintro L a U ho J hn hd KK hK; refine Wants.free rfl ?_; have r15 := J.read 2 rfl (hd.get 2 rfl); have kb := (J.eld 1 rfl); have c0 := kb.at_ 0 _ rfl; have c1 := kb.at_ 1 _ rfl; have c2 := kb.at_ 2 _ rfl; have c3 := kb.at_ 3 _ rfl; clear kb; go_simp; exact hK.out _ _ (J.st 3 rfl rfl)
    · rintro L a U ho J hn hd KK hK; refine Wants.free rfl ?_; have r16 := J.read 3 rfl (hd.get 3 rfl); go_simp; go_at_call 50; (with_reducible refine (H_P2.out _ J.bb).mono ?_); rintro e wy ⟨rfl, q⟩; go_simp; exact hK.out _ _ (J.sq 4 rfl rfl q)
    · rintro L a U ho J hn hd KK hK; refine Wants.free rfl ?_; have r4 : a.tmps[(4 : Nat)]?.getD undef = .pointer (some ⟨g1_1, 0, none⟩) := ho.slot 4 rfl; go_simp; exact hK.out _ _ (J.st 5 rfl rfl)
    · rintro L a U ho J hn hd KK hK; refine Wants.free rfl ?_; have r18 := J.read 5 rfl (hd.get 5 rfl); have kb := (J.eld 1 rfl); have c4 := kb.at_ 4 _ rfl; clear kb; go_simp; exact hK.out _ _ (J.st 6 rfl rfl)
    · rintro L a U ho J hn hd KK hK; refine Wants.free rfl ?_; have r19 := J.read 6 rfl (hd.get 6 rfl); go_simp; exact hK.out _ _ (J.mf 7 0 rfl rfl rfl rfl rfl hn)
    · rintro L a U ho J hn hd KK hK; refine Wants.free rfl ?_; have r20 : a.tmps[(20 : Nat)]?.getD undef = .slice (some ⟨(blkOf (slotOf a 20)), 0, none⟩) 1 1 := J.readN 0 rfl (hd.get 7 rfl); go_simp; go_at_call 51; (with_reducible refine (H_N1.out _ _ (J.nw 0 rfl (hd.get 7 rfl)).blk J.bb).mono ?_); rintro e wy ⟨rfl, q⟩; go_simp; exact hK.out _ _ (J.sq 8 rfl rfl q)
    · rintro L a U ho J hn hd KK hK; refine Wants.free rfl ?_; have r5 : a.tmps[(5 : Nat)]?.getD undef = .pointer (some ⟨g1_2, 0, none⟩) := ho.slot 5 rfl; go_simp; exact hK.out _ _ (J.st 9 rfl rfl)
    · rintro L a U ho J hn hd KK hK; refine Wants.free rfl ?_; have r22 := J.read 9 rfl (hd.get 9 rfl); have kb := (J.eld 2 rfl); have c0 := kb.at_ 0 _ rfl; have c1 := kb.at_ 1 _ rfl; have c2 := kb.at_ 2 _ rfl; have c3 := kb.at_ 3 _ rfl; clear kb; go_simp; exact hK.out _ _ (J.st 10 rfl rfl)
    · rintro L a U ho J hn hd KK hK; refine Wants.free rfl ?_; have r23 := J.read 10 rfl (hd.get 10 rfl); go_simp; go_at_call 50; (with_reducible refine (H_P3.out _ J.bb).mono ?_); rintro e wy ⟨rfl, q⟩; go_simp; exact hK.out _ _ (J.sq 11 rfl rfl q)
    · rintro L a U ho J hn hd KK hK; refine Wants.free rfl ?_; have r5 : a.tmps[(5 : Nat)]?.getD undef = .pointer (some ⟨g1_2, 0, none⟩) := ho.slot 5 rfl; go_simp; exact hK.out _ _ (J.st 12 rfl rfl)
    · rintro L a U ho J hn hd KK hK; refine Wants.free rfl ?_; have r25 := J.read 12 rfl (hd.get 12 rfl); have kb := (J.eld 2 rfl); have c4 := kb.at_ 4 _ rfl; clear kb; go_simp; exact hK.out _ _ (J.st 13 rfl rfl)
    · rintro L a U ho J hn hd KK hK; refine Wants.free rfl ?_; have r26 := J.read 13 rfl (hd.get 13 rfl); go_simp; exact hK.out _ _ (J.mf 14 1 rfl rfl rfl rfl rfl hn)
    · rintro L a U ho J hn hd KK hK; refine Wants.free rfl ?_; have r27 : a.tmps[(27 : Nat)]?.getD undef = .slice (some ⟨(blkOf (slotOf a 27)), 0, none⟩) 1 1 := J.readN 1 rfl (hd.get 14 rfl); go_simp; go_at_call 51; (with_reducible refine (H_N2.out _ _ (J.nw 1 rfl (hd.get 14 rfl)).blk J.bb).mono ?_); rintro e wy ⟨rfl, q⟩; go_simp; exact hK.out _ _ (J.sq 15 rfl rfl q)
    · rintro L a U ho J hn hd KK hK; refine Wants.free rfl ?_; have r14 := J.read 1 rfl (hd.get 1 rfl); have r17 := J.read 4 rfl (hd.get 4 rfl); have r21 := J.read 8 rfl (hd.get 8 rfl); have r24 := J.read 11 rfl (hd.get 11 rfl); have r28 := J.read 15 rfl (hd.get 15 rfl); go_simp; exact hK.out _ _ (J.mf 16 2 rfl rfl rfl rfl rfl hn)
    · rintro L a U ho J hn hd KK hK; refine Wants.free rfl ?_; have r29 : a.tmps[(29 : Nat)]?.getD undef = .slice (some ⟨(blkOf (slotOf a 29)), 0, none⟩) 5 5 := J.readN 2 rfl (hd.get 16 rfl); go_simp; go_at_call 49; (with_reducible refine (H_F1.out _ _ (J.nw 2 rfl (hd.get 16 rfl)).blk J.bb).mono ?_); rintro e wy ⟨rfl, q⟩; go_simp; exact hK.out _ _ (J.sq 17 rfl rfl q)
    · rintro L a U ho J hn hd KK hK; refine Wants.free rfl ?_; have r30 := J.read 17 rfl (hd.get 17 rfl); go_simp; exact hK.out _ _ (J.st 18 rfl rfl)
  rintro L σ W2 J hL
  have hf := J.fin rfl hL
  simp only [finR] at hf
  obtain ⟨e4, l4, k4⟩ := J.nw 0 rfl (hL 7 (by decide))
  obtain ⟨e5, l5, k5⟩ := J.nw 1 rfl (hL 14 (by decide))
  obtain ⟨e6, l6, k6⟩ := J.nw 2 rfl (hL 16 (by decide))
  replace K0 := Lib.hid (J.eld 0 rfl)
  replace K1 := Lib.hid (J.eld 1 rfl)
  replace K2 := Lib.hid (J.eld 2 rfl)
  replace K3 := Lib.hid (J.eld 3 rfl)
  have low := J.low
  replace B := Lib.hid J.bb
  clear J hL
  try dsimp only at e4 e5 e6
  generalize blkOf (σ 20) = g2_7 at *
  generalize blkOf (σ 27) = g2_14 at *
  generalize blkOf (σ 29) = g2_16 at *
  have K4 := Lib.hid k4
  have L4 := Lib.hid (Nat.le_trans low l4)
  have K5 := Lib.hid k5
  have L5 := Lib.hid (Nat.le_trans low l5)
  have K6 := Lib.hid k6
  have L6 := Lib.hid (Nat.le_trans low l6)
  have D3_4 := Lib.hid (Nat.ne_of_lt (Nat.lt_of_lt_of_le lt3 l4))
  have D3_5 := Lib.hid (Nat.ne_of_lt (Nat.lt_of_lt_of_le lt3 l5))
  have D3_6 := Lib.hid (Nat.ne_of_lt (Nat.lt_of_lt_of_le lt3 l6))
  clear lt0 lt1 lt2 lt3 l4 l5 l6 k4 k5 k6 low
  rw [show List.map σ [13, 14, 15, 16, 17, 18, 19, 20, 21, 22, 23, 24, 25, 26, 27, 28, 29, 30, 8] = _ from hf, e4, e5, e6]
  clear hf e4 e5 e6
  simp only [putAll, List.map, Act.put, List.setIfInBounds_toArray, List.set_cons_succ, List.set_cons_zero]
  go_upto_region 2 with (fail)
  by_cases hef : ef = 0
  · skip
    have qef : (ef != 0) = false := by simp [hef]
    have H_Z1 := Lib.hid (h_z1 hef)
    clear h_z1
    go_upto_region 4 with (fail)
    have lt0 := K0.out.lt
    have lt1 := K1.out.lt
    have lt2 := K2.out.lt
    have lt3 := K3.out.lt
    have lt4 := K4.out.lt
    have lt5 := K5.out.lt
    have lt6 := K6.out.lt
    refine wp_region_seq2 [35, 36, 37, 38, 39, 40, 41, 42, 43, 44, 9] (RJ w W2.heap.size [.v 35 (.pointer (some ⟨g1_0, 0, none⟩)), .v 36 (.agg #[.string A1, .string A2, .string A3]), .v 37 (.pointer (some ⟨g1_1, 0, none⟩)), .v 38 (.pointer (some ⟨g1_1, 0, none⟩)), .v 39 (.agg #[.string C1, .string C2, .string C3]), .v 40 (.pointer (some ⟨g1_2, 0, none⟩)), .v 41 (.pointer (some ⟨g1_2, 0, none⟩)), .v 42 (.agg #[.string D1, .string D2, .string D3]), .n 43, .v 44 (.int .i64 ez), .v 9 (.int .i64 ez)] [⟨8, 43, fun g => .slice (some ⟨g, 0, none⟩) 3 3, #[.string A1, .string A2, .string A3, .string C1, .string C2, .string C3, .string D1, .string D2, .string D3], 24, none⟩] [⟨g1_0, #[.string A1, .string A2, .string A3, .string A0], 26, none⟩, ⟨g1_1, #[.string C1, .string C2, .string C3, .string C0, .string M1], 35, none⟩, ⟨g1_2, #[.string D1, .string D2, .string D3, .string D0, .string M2], 35, none⟩, ⟨g1_3, #[.string ⟨#[]⟩, .string ⟨#[]⟩, .string ⟨#[]⟩], 24, none⟩, ⟨g2_7, #[.string M1], 22, none⟩, ⟨g2_14, #[.string M2], 22, none⟩, ⟨g2_16, #[.int .i64 e1, .int .i64 e2, .int .i64 e3, .int .i64 e4, .int .i64 e5], 31, none⟩] [] [] [] []) (by kernel_rfl) (by kernel_rfl) ?_ ?_ ?_
    · exact RJ.start rfl B.out (by exact ⟨K0.out, K1.out, K2.out, K3.out, K4.out, K5.out, K6.out, trivial⟩)
    · refine ⟨?_, ?_, ?_, ?_, ?_, ?_, ?_, ?_, ?_, ?_, ?_, trivial⟩
      · rintro L a U ho J hn hd KK hK; refine Wants.free rfl ?_; have r3 : a.tmps[(3 : Nat)]?.getD undef = .pointer (some ⟨g1_0, 0, none⟩) := ho.slot 3 rfl; go_simp; exact hK.out _ _ (J.st 0 rfl rfl)
      · rintro L a U ho J hn hd KK hK; refine Wants.free rfl ?_; have r35 := J.read 0 rfl (hd 0 (by decide)); have kb := (J.eld 0 rfl); have c0 := kb.at_ 0 _ rfl; have c1 := kb.at_ 1 _ rfl; have c2 := kb.at_ 2 _ rfl; clear kb; go_simp; exact hK.out _ _ (J.st 1 rfl rfl)
      · rintro L a U ho J hn hd KK hK; refine Wants.free rfl ?_; have r4 : a.tmps[(4 : Nat)]?.getD undef = .pointer (some ⟨g1_1, 0, none⟩) := ho.slot 4 rfl; go_simp; exact hK.out _ _ (J.st 2 rfl rfl)
      · rintro L a U ho J hn hd KK hK; refine Wants.free rfl ?_; have r37 := J.read 2 rfl (hd 2 (by decide)); go_simp; exact hK.out _ _ (J.st 3 rfl rfl)
      · rintro L a U ho J hn hd KK hK; refine Wants.free rfl ?_; have r38 := J.read 3 rfl (hd 3 (by decide)); have kb := (J.eld 1 rfl); have c0 := kb.at_ 0 _ rfl; have c1 := kb.at_ 1 _ rfl; have c2 := kb.at_ 2 _ rfl; clear kb; go_simp; exact hK.out _ _ (J.st 4 rfl rfl)
      · rintro L a U ho J hn hd KK hK; refine Wants.free rfl ?_; have r5 : a.tmps[(5 : Nat)]?.getD undef = .pointer (some ⟨g1_2, 0, none⟩) := ho.slot 5 rfl; go_simp; exact hK.out _ _ (J.st 5 rfl rfl)
      · rintro L a U ho J hn hd KK hK; refine Wants.free rfl ?_; have r40 := J.read 5 rfl (hd 5 (by decide)); go_simp; exact hK.out _ _ (J.st 6 rfl rfl)
      · rintro L a U ho J hn hd KK hK; refine Wants.free rfl ?_; have r41 := J.read 6 rfl (hd 6 (by decide)); have kb := (J.eld 2 rfl); have c0 := kb.at_ 0 _ rfl; have c1 := kb.at_ 1 _ rfl; have c2 := kb.at_ 2 _ rfl; clear kb; go_simp; exact hK.out _ _ (J.st 7 rfl rfl)
      · rintro L a U ho J hn hd KK hK; refine Wants.free rfl ?_; have r36 := J.read 1 rfl (hd 1 (by decide)); have r39 := J.read 4 rfl (hd 4 (by decide)); have r42 := J.read 7 rfl (hd 7 (by decide)); go_simp; exact hK.out _ _ (J.mf 8 0 rfl rfl rfl rfl rfl hn)
      · rintro L a U ho J hn hd KK hK; refine Wants.free rfl ?_; have r43 : a.tmps[(43 : Nat)]?.getD undef = .slice (some ⟨(blkOf (slotOf a 43)), 0, none⟩) 3 3 := J.readN 0 rfl (hd 8 (by decide)); go_simp; go_at_call 52; (with_reducible refine (H_Z1.out _ _ (J.nw 0 rfl (hd 8 (by decide))).blk J.bb).mono ?_); rintro e wy ⟨rfl, q⟩; go_simp; exact hK.out _ _ (J.sq 9 rfl rfl q)
      · rintro L a U ho J hn hd KK hK; refine Wants.free rfl ?_; have r44 := J.read 9 rfl (hd 9 (by decide)); go_simp; exact hK.out _ _ (J.st 10 rfl rfl)
    rintro L σ W3 J hL
    have hf := J.fin rfl hL
    simp only [finR] at hf
    obtain ⟨e7, l7, k7⟩ := J.nw 0 rfl (hL 8 (by decide))
    replace K0 := Lib.hid (J.eld 0 rfl)
    replace K1 := Lib.hid (J.eld 1 rfl)
    replace K2 := Lib.hid (J.eld 2 rfl)
    replace K3 := Lib.hid (J.eld 3 rfl)
    replace K4 := Lib.hid (J.eld 4 rfl)
    replace K5 := Lib.hid (J.eld 5 rfl)
    replace K6 := Lib.hid (J.eld 6 rfl)
    have low := J.low
    replace B := Lib.hid J.bb
    clear J hL
    try dsimp only at e7
    generalize blkOf (σ 43) = g3_8 at *
    have K7 := Lib.hid k7
    have L7 := Lib.hid (Nat.le_trans low l7)
    have D3_7 := Lib.hid (Nat.ne_of_lt (Nat.lt_of_lt_of_le lt3 l7))
    clear lt0 lt1 lt2 lt3 lt4 lt5 lt6 l7 k7 low
    rw [show List.map σ [35, 36, 37, 38, 39, 40, 41, 42, 43, 44, 9] = _ from hf, e7]
    clear hf e7
    simp only [putAll, List.map, Act.put, List.setIfInBounds_toArray, List.set_cons_succ, List.set_cons_zero]
    go_upto_region 5 with (fail)
    by_cases hez : ez = 0
    · skip
      have qez : (ez != 0) = false := by simp [hez]
      have H_U1 := Lib.hid (h_u1 ⟨hef, hez⟩)
      have H_U2 := Lib.hid (h_u2 ⟨hef, hez⟩)
      clear h_u1 h_u2
      go_upto_region 7 with (fail)
      have lt0 := K0.out.lt
      have lt1 := K1.out.lt
      have lt2 := K2.out.lt
      have lt3 := K3.out.lt
      have lt4 := K4.out.lt
      have lt5 := K5.out.lt
      have lt6 := K6.out.lt
      have lt7 := K7.out.lt
      refine wp_region_par2 (by kernel_rfl) [49, 50, 51, 52, 53, 54, 55, 56, 57, 58, 59, 60, 61, 10] (RJ w W3.heap.size [.v 49 (.pointer (some ⟨g1_1, 4, none⟩)), .v 50 (.string M1), .v 51 (.pointer (some ⟨g1_1, 0, none⟩)), .v 52 (.pointer (some ⟨g1_1, 3, none⟩)), .v 53 (.string C0), .v 54 (.string X2), .v 55 (.pointer (some ⟨g1_2, 4, none⟩)), .v 56 (.string M2), .v 57 (.pointer (some ⟨g1_2, 0, none⟩)), .v 58 (.pointer (some ⟨g1_2, 3, none⟩)), .v 59 (.string D0), .v 60 (.string X3), .v 61 (.agg #[.string ⟨#[48]⟩, .string X2, .string X3]), .n 10, .z] [⟨13, 10, fun g => .pointer (some ⟨g, 0, none⟩), #[.string ⟨#[]⟩, .string ⟨#[]⟩, .string ⟨#[]⟩], 102, some (14, #[.string ⟨#[48]⟩, .string X2, .string X3])⟩] [⟨g1_0, #[.string A1, .string A2, .string A3, .string A0], 26, none⟩, ⟨g1_1, #[.string C1, .string C2, .string C3, .string C0, .string M1], 35, none⟩, ⟨g1_2, #[.string D1, .string D2, .string D3, .string D0, .string M2], 35, none⟩, ⟨g1_3, #[.string ⟨#[]⟩, .string ⟨#[]⟩, .string ⟨#[]⟩], 24, none⟩, ⟨g2_7, #[.string M1], 22, none⟩, ⟨g2_14, #[.string M2], 22, none⟩, ⟨g2_16, #[.int .i64 e1, .int .i64 e2, .int .i64 e3, .int .i64 e4, .int .i64 e5], 31, none⟩, ⟨g3_8, #[.string A1, .string A2, .string A3, .string C1, .string C2, .string C3, .string D1, .string D2, .string D3], 24, none⟩] [] [(14, 13)] [] []) (by kernel_rfl) (by kernel_rfl) (by kernel_rfl) ?_ ?_ ?_
      · exact RJ.drew (RJ.start rfl B.out (by exact ⟨K0.out, K1.out, K2.out, K3.out, K4.out, K5.out, K6.out, K7.out, trivial⟩))
      · refine ⟨?_, ?_, ?_, ?_, ?_, ?_, ?_, ?_, ?_, ?_, ?_, ?_, ?_, ?_, ?_, trivial⟩
        · rintro L a U ho J hn hd KK hK; refine Wants.free rfl ?_; have r4 : a.tmps[(4 : Nat)]?.getD undef = .pointer (some ⟨g1_1, 0, none⟩) := ho.slot 4 rfl; go_simp; exact hK.out _ _ (J.st 0 rfl rfl)
        · rintro L a U ho J hn hd KK hK; refine Wants.free rfl ?_; have r49 := J.read 0 rfl (hd.get 0 rfl); have kb := (J.eld 1 rfl); have c4 := kb.at_ 4 _ rfl; clear kb; go_simp; exact hK.out _ _ (J.st 1 rfl rfl)
        · rintro L a U ho J hn hd KK hK; refine Wants.free rfl ?_; have r4 : a.tmps[(4 : Nat)]?.getD undef = .pointer (some ⟨g1_1, 0, none⟩) := ho.slot 4 rfl; go_simp; exact hK.out _ _ (J.st 2 rfl rfl)
        · rintro L a U ho J hn hd KK hK; refine Wants.free rfl ?_; have r51 := J.read 2 rfl (hd.get 2 rfl); go_simp; exact hK.out _ _ (J.st 3 rfl rfl)
        · rintro L a U ho J hn hd KK hK; refine Wants.free rfl ?_; have r52 := J.read 3 rfl (hd.get 3 rfl); have kb := (J.eld 1 rfl); have c3 := kb.at_ 3 _ rfl; clear kb; go_simp; exact hK.out _ _ (J.st 4 rfl rfl)
        · rintro L a U ho J hn hd KK hK; refine Wants.free rfl ?_; have r50 := J.read 1 rfl (hd.get 1 rfl); have r53 := J.read 4 rfl (hd.get 4 rfl); go_simp; go_at_call 53; (with_reducible refine (H_U1.out _ J.bb).mono ?_); rintro e wy ⟨rfl, q⟩; go_simp; exact hK.out _ _ (J.sq 5 rfl rfl q)
        · rintro L a U ho J hn hd KK hK; refine Wants.free rfl ?_; have r5 : a.tmps[(5 : Nat)]?.getD undef = .pointer (some ⟨g1_2, 0, none⟩) := ho.slot 5 rfl; go_simp; exact hK.out _ _ (J.st 6 rfl rfl)
        · rintro L a U ho J hn hd KK hK; refine Wants.free rfl ?_; have r55 := J.read 6 rfl (hd.get 6 rfl); have kb := (J.eld 2 rfl); have c4 := kb.at_ 4 _ rfl; clear kb; go_simp; exact hK.out _ _ (J.st 7 rfl rfl)
        · rintro L a U ho J hn hd KK hK; refine Wants.free rfl ?_; have r5 : a.tmps[(5 : Nat)]?.getD undef = .pointer (some ⟨g1_2, 0, none⟩) := ho.slot 5 rfl; go_simp; exact hK.out _ _ (J.st 8 rfl rfl)
        · rintro L a U ho J hn hd KK hK; refine Wants.free rfl ?_; have r57 := J.read 8 rfl (hd.get 8 rfl); go_simp; exact hK.out _ _ (J.st 9 rfl rfl)
        · rintro L a U ho J hn hd KK hK; refine Wants.free rfl ?_; have r58 := J.read 9 rfl (hd.get 9 rfl); have kb := (J.eld 2 rfl); have c3 := kb.at_ 3 _ rfl; clear kb; go_simp; exact hK.out _ _ (J.st 10 rfl rfl)
        · rintro L a U ho J hn hd KK hK; refine Wants.free rfl ?_; have r56 := J.read 7 rfl (hd.get 7 rfl); have r59 := J.read 10 rfl (hd.get 10 rfl); go_simp; go_at_call 53; (with_reducible refine (H_U2.out _ J.bb).mono ?_); rintro e wy ⟨rfl, q⟩; go_simp; exact hK.out _ _ (J.sq 11 rfl rfl q)
        · rintro L a U ho J hn hd KK hK; refine Wants.free rfl ?_; have r54 := J.read 5 rfl (hd.get 5 rfl); have r60 := J.read 11 rfl (hd.get 11 rfl); go_simp; exact hK.out _ _ (J.st 12 rfl rfl)
        · rintro L a U ho J hn hd KK hK; refine Wants.free rfl ?_; go_simp; exact hK.out _ _ (J.mf 13 0 rfl rfl rfl rfl rfl hn)
        · rintro L a U ho J hn hd KK hK; refine Wants.free rfl ?_; have r10 : a.tmps[(10 : Nat)]?.getD undef = .pointer (some ⟨(blkOf (slotOf a 10)), 0, none⟩) := J.readN 0 rfl (hd.get 13 rfl); have r61 := J.read 12 rfl (hd.get 12 rfl); have kb := (J.nwB 0 rfl (hd.get 13 rfl) hn).blk; have c0 := kb.at_ 0 _ rfl; have z0 := kb.free 0; have c1 := kb.at_ 1 _ rfl; have z1 := kb.free 1; have c2 := kb.at_ 2 _ rfl; have z2 := kb.free 2; clear kb; go_simp; exact hK.out undef _ (J.storedN 14 0 rfl rfl rfl rfl rfl 0 [.string ⟨#[48]⟩, .string X2, .string X3] rfl ⟨lt0, lt1, lt2, lt3, lt4, lt5, lt6, lt7, trivial⟩ (hd.get 13 rfl) hn ⟨.inr (hd.get 13 rfl), trivial⟩)
      rintro L σ W4 J hL
      have hf := J.fin rfl hL
      simp only [finR] at hf
      obtain ⟨e8, l8, k8⟩ := J.nwW 0 rfl (hL 13 (by decide)) (hL 14 (by decide))
      replace K0 := Lib.hid (J.eld 0 rfl)
      replace K1 := Lib.hid (J.eld 1 rfl)
      replace K2 := Lib.hid (J.eld 2 rfl)
      replace K3 := Lib.hid (J.eld 3 rfl)
      replace K4 := Lib.hid (J.eld 4 rfl)
      replace K5 := Lib.hid (J.eld 5 rfl)
      replace K6 := Lib.hid (J.eld 6 rfl)
      replace K7 := Lib.hid (J.eld 7 rfl)
      have low := J.low
      replace B := Lib.hid J.bb
      clear J hL
      try dsimp only at e8
      generalize blkOf (σ 10) = g4_13 at *
      have K8 := Lib.hid k8
      have L8 := Lib.hid (Nat.le_trans low l8)
      have D3_8 := Lib.hid (Nat.ne_of_lt (Nat.lt_of_lt_of_le lt3 l8))
      clear lt0 lt1 lt2 lt3 lt4 lt5 lt6 lt7 l8 k8 low
      rw [show List.map σ [49, 50, 51, 52, 53, 54, 55, 56, 57, 58, 59, 60, 61, 10] = _ from hf, e8]
      clear hf e8
      simp only [putAll, List.map, Act.put, List.setIfInBounds_toArray, List.set_cons_succ, List.set_cons_zero]
      go_upto_region 8 with (fail)
      by_cases hok : ok = true
      · skip
        have H_MT := Lib.hid (h_mt ⟨hef, hez, hok⟩)
        have H_SV := Lib.hid (h_sv ⟨hef, hez, hok⟩)
        clear h_mt h_sv
        go_upto_region 8 with (fail)
        have lt0 := K0.out.lt
        have lt1 := K1.out.lt
        have lt2 := K2.out.lt
        have lt3 := K3.out.lt
        have lt4 := K4.out.lt
        have lt5 := K5.out.lt
        have lt6 := K6.out.lt
        have lt7 := K7.out.lt
        have lt8 := K8.out.lt
        refine wp_region_seq2 [63, 64, 65, 66, 67, 68, 69, 70, 71, 72, 73, 62, 74, 75, 11, 12] (RJ w W4.heap.size [.v 63 (.pointer (some ⟨g1_0, 0, none⟩)), .v 64 (.agg #[.string A1, .string A2, .string A3]), .v 65 (.pointer (some ⟨g1_1, 0, none⟩)), .v 66 (.pointer (some ⟨g1_1, 0, none⟩)), .v 67 (.agg #[.string C1, .string C2, .string C3]), .v 68 (.pointer (some ⟨g1_2, 0, none⟩)), .v 69 (.pointer (some ⟨g1_2, 0, none⟩)), .v 70 (.agg #[.string D1, .string D2, .string D3]), .v 71 (.agg #[.string A1, .string A2, .string A3, .string C1, .string C2, .string C3, .string D1, .string D2, .string D3]), .v 72 (.agg #[.string ⟨#[48]⟩, .string X2, .string X3]), .v 73 (.tuple #[.agg #[.string O1, .string O2, .string O3], .bool true]), .v 62 (.tuple #[.agg #[.string O1, .string O2, .string O3], .bool true]), .v 74 (.agg #[.string O1, .string O2, .string O3]), .v 75 (.bool true), .n 11, .z, .v 12 (.bool true)] [⟨14, 11, fun g => .pointer (some ⟨g, 0, none⟩), #[.string ⟨#[]⟩, .string ⟨#[]⟩, .string ⟨#[]⟩], 24, some (15, #[.string O1, .string O2, .string O3])⟩] [⟨g1_0, #[.string A1, .string A2, .string A3, .string A0], 26, none⟩, ⟨g1_1, #[.string C1, .string C2, .string C3, .string C0, .string M1], 35, none⟩, ⟨g1_2, #[.string D1, .string D2, .string D3, .string D0, .string M2], 35, none⟩, ⟨g1_3, #[.string ⟨#[]⟩, .string ⟨#[]⟩, .string ⟨#[]⟩], 24, none⟩, ⟨g2_7, #[.string M1], 22, none⟩, ⟨g2_14, #[.string M2], 22, none⟩, ⟨g2_16, #[.int .i64 e1, .int .i64 e2, .int .i64 e3, .int .i64 e4, .int .i64 e5], 31, none⟩, ⟨g3_8, #[.string A1, .string A2, .string A3, .string C1, .string C2, .string C3, .string D1, .string D2, .string D3], 24, none⟩, ⟨g4_13, #[.string ⟨#[48]⟩, .string X2, .string X3], 102, none⟩] [] [(15, 14)] [] []) (by kernel_rfl) (by kernel_rfl) ?_ ?_ ?_
        · exact RJ.start rfl B.out (by exact ⟨K0.out, K1.out, K2.out, K3.out, K4.out, K5.out, K6.out, K7.out, K8.out, trivial⟩)
        · refine ⟨?_, ?_, ?_, ?_, ?_, ?_, ?_, ?_, ?_, ?_, ?_, ?_, ?_, ?_, ?_, ?_, ?_, trivial⟩
          · rintro L a U ho J hn hd KK hK; refine Wants.free rfl ?_; have r3 : a.tmps[(3 : Nat)]?.getD undef = .pointer (some ⟨g1_0, 0, none⟩) := ho.slot 3 rfl; go_simp; exact hK.out _ _ (J.st 0 rfl rfl)
          · rintro L a U ho J hn hd KK hK; refine Wants.free rfl ?_; have r63 := J.read 0 rfl (hd 0 (by decide)); have kb := (J.eld 0 rfl); have c0 := kb.at_ 0 _ rfl; have c1 := kb.at_ 1 _ rfl; have c2 := kb.at_ 2 _ rfl; clear kb; go_simp; exact hK.out _ _ (J.st 1 rfl rfl)
          · rintro L a U ho J hn hd KK hK; refine Wants.free rfl ?_; have r4 : a.tmps[(4 : Nat)]?.getD undef = .pointer (some ⟨g1_1, 0, none⟩) := ho.slot 4 rfl; go_simp; exact hK.out _ _ (J.st 2 rfl rfl)
          · rintro L a U ho J hn hd KK hK; refine Wants.free rfl ?_; have r65 := J.read 2 rfl (hd 2 (by decide)); go_simp; exact hK.out _ _ (J.st 3 rfl rfl)
          · rintro L a U ho J hn hd KK hK; refine Wants.free rfl ?_; have r66 := J.read 3 rfl (hd 3 (by decide)); have kb := (J.eld 1 rfl); have c0 := kb.at_ 0 _ rfl; have c1 := kb.at_ 1 _ rfl; have c2 := kb.at_ 2 _ rfl; clear kb; go_simp; exact hK.out _ _ (J.st 4 rfl rfl)
          · rintro L a U ho J hn hd KK hK; refine Wants.free rfl ?_; have r5 : a.tmps[(5 : Nat)]?.getD undef = .pointer (some ⟨g1_2, 0, none⟩) := ho.slot 5 rfl; go_simp; exact hK.out _ _ (J.st 5 rfl rfl)
          · rintro L a U ho J hn hd KK hK; refine Wants.free rfl ?_; have r68 := J.read 5 rfl (hd 5 (by decide)); go_simp; exact hK.out _ _ (J.st 6 rfl rfl)
          · rintro L a U ho J hn hd KK hK; refine Wants.free rfl ?_; have r69 := J.read 6 rfl (hd 6 (by decide)); have kb := (J.eld 2 rfl); have c0 := kb.at_ 0 _ rfl; have c1 := kb.at_ 1 _ rfl; have c2 := kb.at_ 2 _ rfl; clear kb; go_simp; exact hK.out _ _ (J.st 7 rfl rfl)
          · rintro L a U ho J hn hd KK hK; refine Wants.free rfl ?_; have r64 := J.read 1 rfl (hd 1 (by decide)); have r67 := J.read 4 rfl (hd 4 (by decide)); have r70 := J.read 7 rfl (hd 7 (by decide)); go_simp; exact hK.out _ _ (J.st 8 rfl rfl)
          · rintro L a U ho J hn hd KK hK; refine Wants.free rfl ?_; have r10 : a.tmps[(10 : Nat)]?.getD undef = .pointer (some ⟨g4_13, 0, none⟩) := ho.slot 10 rfl; have kb := (J.eld 8 rfl); have c0 := kb.at_ 0 _ rfl; have c1 := kb.at_ 1 _ rfl; have c2 := kb.at_ 2 _ rfl; clear kb; go_simp; exact hK.out _ _ (J.st 9 rfl rfl)
          · rintro L a U ho J hn hd KK hK; refine Wants.free rfl ?_; have r71 := J.read 8 rfl (hd 8 (by decide)); have r72 := J.read 9 rfl (hd 9 (by decide)); go_simp; go_at_call 54; (with_reducible refine (H_MT.out _ J.bb).mono ?_); rintro e wy ⟨rfl, q⟩; go_simp; exact hK.out _ _ (J.sq 10 rfl rfl q)
          · rintro L a U ho J hn hd KK hK; refine Wants.free rfl ?_; have r73 := J.read 10 rfl (hd 10 (by decide)); go_simp; exact hK.out _ _ (J.st 11 rfl rfl)
          · rintro L a U ho J hn hd KK hK; refine Wants.free rfl ?_; have r62 := J.read 11 rfl (hd 11 (by decide)); go_simp; exact hK.out _ _ (J.st 12 rfl rfl)
          · rintro L a U ho J hn hd KK hK; refine Wants.free rfl ?_; have r62 := J.read 11 rfl (hd 11 (by decide)); go_simp; exact hK.out _ _ (J.st 13 rfl rfl)
          · rintro L a U ho J hn hd KK hK; refine Wants.free rfl ?_; go_simp; exact hK.out _ _ (J.mf 14 0 rfl rfl rfl rfl rfl hn)
          · rintro L a U ho J hn hd KK hK; refine Wants.free rfl ?_; have r11 : a.tmps[(11 : Nat)]?.getD undef = .pointer (some ⟨(blkOf (slotOf a 11)), 0, none⟩) := J.readN 0 rfl (hd 14 (by decide)); have r74 := J.read 12 rfl (hd 12 (by decide)); have kb := (J.nwB 0 rfl (hd 14 (by decide)) hn).blk; have c0 := kb.at_ 0 _ rfl; have z0 := kb.free 0; have c1 := kb.at_ 1 _ rfl; have z1 := kb.free 1; have c2 := kb.at_ 2 _ rfl; have z2 := kb.free 2; clear kb; go_simp; exact hK.out undef _ (J.storedN 15 0 rfl rfl rfl rfl rfl 0 [.string O1, .string O2, .string O3] rfl ⟨lt0, lt1, lt2, lt3, lt4, lt5, lt6, lt7, lt8, trivial⟩ (hd 14 (by decide)) hn ⟨.inr (hd 14 (by decide)), trivial⟩)
          · rintro L a U ho J hn hd KK hK; refine Wants.free rfl ?_; have r75 := J.read 13 rfl (hd 13 (by decide)); go_simp; exact hK.out _ _ (J.st 16 rfl rfl)
        rintro L σ W5 J hL
        have hf := J.fin rfl hL
        simp only [finR] at hf
        obtain ⟨e9, l9, k9⟩ := J.nwW 0 rfl (hL 14 (by decide)) (hL 15 (by decide))
        replace K0 := Lib.hid (J.eld 0 rfl)
        replace K1 := Lib.hid (J.eld 1 rfl)
        replace K2 := Lib.hid (J.eld 2 rfl)
        replace K3 := Lib.hid (J.eld 3 rfl)
        replace K4 := Lib.hid (J.eld 4 rfl)
        replace K5 := Lib.hid (J.eld 5 rfl)
        replace K6 := Lib.hid (J.eld 6 rfl)
        replace K7 := Lib.hid (J.eld 7 rfl)
        replace K8 := Lib.hid (J.eld 8 rfl)
        have low := J.low
        replace B := Lib.hid J.bb
        clear J hL
        try dsimp only at e9
        generalize blkOf (σ 11) = g5_14 at *
        have K9 := Lib.hid k9
        have L9 := Lib.hid (Nat.le_trans low l9)
        have D3_9 := Lib.hid (Nat.ne_of_lt (Nat.lt_of_lt_of_le lt3 l9))
        clear lt0 lt1 lt2 lt3 lt4 lt5 lt6 lt7 lt8 l9 k9 low
        rw [show List.map σ [63, 64, 65, 66, 67, 68, 69, 70, 71, 72, 73, 62, 74, 75, 11, 12] = _ from hf, e9]
        clear hf e9
        simp only [putAll, List.map, Act.put, List.setIfInBounds_toArray, List.set_cons_succ, List.set_cons_zero]
        go_upto_region 11 with (fail)
        have lt0 := K0.out.lt
        have lt1 := K1.out.lt
        have lt2 := K2.out.lt
        have lt3 := K3.out.lt
        have lt4 := K4.out.lt
        have lt5 := K5.out.lt
        have lt6 := K6.out.lt
        have lt7 := K7.out.lt
        have lt8 := K8.out.lt
        have lt9 := K9.out.lt
        refine wp_region_seq2 [79, 80, 81, 82, 7] (RJ w W5.heap.size [.v 79 (.agg #[.string O1, .string O2, .string O3]), .v 80 (.tuple #[.agg #[.string O1, .string O2, .string O3], .int .i64 0]), .v 81 (.agg #[.string O1, .string O2, .string O3]), .v 82 (.int .i64 0), .z, .v 7 (.int .i64 0)] [] [⟨g1_0, #[.string A1, .string A2, .string A3, .string A0], 26, none⟩, ⟨g1_1, #[.string C1, .string C2, .string C3, .string C0, .string M1], 35, none⟩, ⟨g1_2, #[.string D1, .string D2, .string D3, .string D0, .string M2], 35, none⟩, ⟨g1_3, #[.string ⟨#[]⟩, .string ⟨#[]⟩, .string ⟨#[]⟩], 24, some (4, #[.string O1, .string O2, .string O3])⟩, ⟨g2_7, #[.string M1], 22, none⟩, ⟨g2_14, #[.string M2], 22, none⟩, ⟨g2_16, #[.int .i64 e1, .int .i64 e2, .int .i64 e3, .int .i64 e4, .int .i64 e5], 31, none⟩, ⟨g3_8, #[.string A1, .string A2, .string A3, .string C1, .string C2, .string C3, .string D1, .string D2, .string D3], 24, none⟩, ⟨g4_13, #[.string ⟨#[48]⟩, .string X2, .string X3], 102, none⟩, ⟨g5_14, #[.string O1, .string O2, .string O3], 24, none⟩] [] [] [] []) (by kernel_rfl) (by kernel_rfl) ?_ ?_ ?_
        · exact RJ.start rfl B.out (by exact ⟨K0.out, K1.out, K2.out, K3.out, K4.out, K5.out, K6.out, K7.out, K8.out, K9.out, trivial⟩)
        · refine ⟨?_, ?_, ?_, ?_, ?_, ?_, trivial⟩
          · rintro L a U ho J hn hd KK hK; refine Wants.free rfl ?_; have r11 : a.tmps[(11 : Nat)]?.getD undef = .pointer (some ⟨g5_14, 0, none⟩) := ho.slot 11 rfl; have kb := (J.eld 9 rfl); have c0 := kb.at_ 0 _ rfl; have c1 := kb.at_ 1 _ rfl; have c2 := kb.at_ 2 _ rfl; clear kb; go_simp; exact hK.out _ _ (J.st 0 rfl rfl)
          · rintro L a U ho J hn hd KK hK; refine Wants.free rfl ?_; have r79 := J.read 0 rfl (hd 0 (by decide)); go_simp; go_at_call 55; (with_reducible refine (H_SV.out _ J.bb).mono ?_); rintro e wy ⟨rfl, q⟩; go_simp; exact hK.out _ _ (J.sq 1 rfl rfl q)
          · rintro L a U ho J hn hd KK hK; refine Wants.free rfl ?_; have r80 := J.read 1 rfl (hd 1 (by decide)); go_simp; exact hK.out _ _ (J.st 2 rfl rfl)
          · rintro L a U ho J hn hd KK hK; refine Wants.free rfl ?_; have r80 := J.read 1 rfl (hd 1 (by decide)); go_simp; exact hK.out _ _ (J.st 3 rfl rfl)
          · rintro L a U ho J hn hd KK hK; refine Wants.free rfl ?_; have r6 : a.tmps[(6 : Nat)]?.getD undef = .pointer (some ⟨g1_3, 0, none⟩) := ho.slot 6 rfl; have r81 := J.read 2 rfl (hd 2 (by decide)); have kb := (J.eldB 3 rfl hn); have c0 := kb.at_ 0 _ rfl; have z0 := kb.free 0; have c1 := kb.at_ 1 _ rfl; have z1 := kb.free 1; have c2 := kb.at_ 2 _ rfl; have z2 := kb.free 2; clear kb; go_simp; exact hK.out undef _ (J.stored 4 3 rfl rfl (.inl rfl) rfl rfl 0 [.string O1, .string O2, .string O3] rfl L3.out lt3 ⟨.inr D0_3.out, .inr D1_3.out, .inr D2_3.out, .inl rfl, .inr (Ne.symm D3_4.out), .inr (Ne.symm D3_5.out), .inr (Ne.symm D3_6.out), .inr (Ne.symm D3_7.out), .inr (Ne.symm D3_8.out), .inr (Ne.symm D3_9.out), trivial⟩ hn trivial)
          · rintro L a U ho J hn hd KK hK; refine Wants.free rfl ?_; have r82 := J.read 3 rfl (hd 3 (by decide)); go_simp; exact hK.out _ _ (J.st 5 rfl rfl)
        rintro L σ W6 J hL
        have hf := J.fin rfl hL
        simp only [finR] at hf
        replace K0 := Lib.hid (J.eld 0 rfl)
        replace K1 := Lib.hid (J.eld 1 rfl)
        replace K2 := Lib.hid (J.eld 2 rfl)
        replace K3 := Lib.hid (J.eldW 3 rfl (hL 4 (by decide)))
        replace K4 := Lib.hid (J.eld 4 rfl)
        replace K5 := Lib.hid (J.eld 5 rfl)
        replace K6 := Lib.hid (J.eld 6 rfl)
        replace K7 := Lib.hid (J.eld 7 rfl)
        replace K8 := Lib.hid (J.eld 8 rfl)
        replace K9 := Lib.hid (J.eld 9 rfl)
        replace B := Lib.hid J.bb
        clear J hL
        clear lt0 lt1 lt2 lt3 lt4 lt5 lt6 lt7 lt8 lt9
        rw [show List.map σ [79, 80, 81, 82, 7] = _ from hf]
        clear hf
        simp only [putAll, List.map, Act.put, List.setIfInBounds_toArray, List.set_cons_succ, List.set_cons_zero]
        go_wp2
        have c3_0 := K3.out.at_ 0 _ rfl
        have c3_1 := K3.out.at_ 1 _ rfl
        have c3_2 := K3.out.at_ 2 _ rfl
        exact bodyPost_ret (v := .tuple #[.agg #[.string O1, .string O2, .string O3], .int .i64 0]) (by simp [results, Tryz.results13, go_sem, c3_0, c3_1, c3_2]) rfl ⟨by rw [r4 hef hez hok] <;> rfl, B.out⟩
      · skip
        have H_MF := Lib.hid (h_mf ⟨hef, hez, hok⟩)
        clear h_mf
        go_upto_region 8 with (fail)
        have lt0 := K0.out.lt
        have lt1 := K1.out.lt
        have lt2 := K2.out.lt
        have lt3 := K3.out.lt
        have lt4 := K4.out.lt
        have lt5 := K5.out.lt
        have lt6 := K6.out.lt
        have lt7 := K7.out.lt
        have lt8 := K8.out.lt
        refine wp_region_seq2 [63, 64, 65, 66, 67, 68, 69, 70, 71, 72, 73, 62, 74, 75, 11, 12] (RJ w W4.heap.size [.v 63 (.pointer (some ⟨g1_0, 0, none⟩)), .v 64 (.agg #[.string A1, .string A2, .string A3]), .v 65 (.pointer (some ⟨g1_1, 0, none⟩)), .v 66 (.pointer (some ⟨g1_1, 0, none⟩)), .v 67 (.agg #[.string C1, .string C2, .string C3]), .v 68 (.pointer (some ⟨g1_2, 0, none⟩)), .v 69 (.pointer (some ⟨g1_2, 0, none⟩)), .v 70 (.agg #[.string D1, .string D2, .string D3]), .v 71 (.agg #[.string A1, .string A2, .string A3, .string C1, .string C2, .string C3, .string D1, .string D2, .string D3]), .v 72 (.agg #[.string ⟨#[48]⟩, .string X2, .string X3]), .v 73 (.tuple #[.agg #[.string ⟨#[]⟩, .string ⟨#[]⟩, .string ⟨#[]⟩], .bool false]), .v 62 (.tuple #[.agg #[.string ⟨#[]⟩, .string ⟨#[]⟩, .string ⟨#[]⟩], .bool false]), .v 74 (.agg #[.string ⟨#[]⟩, .string ⟨#[]⟩, .string ⟨#[]⟩]), .v 75 (.bool false), .n 11, .z, .v 12 (.bool false)] [⟨14, 11, fun g => .pointer (some ⟨g, 0, none⟩), #[.string ⟨#[]⟩, .string ⟨#[]⟩, .string ⟨#[]⟩], 24, some (15, #[.string ⟨#[]⟩, .string ⟨#[]⟩, .string ⟨#[]⟩])⟩] [⟨g1_0, #[.string A1, .string A2, .string A3, .string A0], 26, none⟩, ⟨g1_1, #[.string C1, .string C2, .string C3, .string C0, .string M1], 35, none⟩, ⟨g1_2, #[.string D1, .string D2, .string D3, .string D0, .string M2], 35, none⟩, ⟨g1_3, #[.string ⟨#[]⟩, .string ⟨#[]⟩, .string ⟨#[]⟩], 24, none⟩, ⟨g2_7, #[.string M1], 22, none⟩, ⟨g2_14, #[.string M2], 22, none⟩, ⟨g2_16, #[.int .i64 e1, .int .i64 e2, .int .i64 e3, .int .i64 e4, .int .i64 e5], 31, none⟩, ⟨g3_8, #[.string A1, .string A2, .string A3, .string C1, .string C2, .string C3, .string D1, .string D2, .string D3], 24, none⟩, ⟨g4_13, #[.string ⟨#[48]⟩, .string X2, .string X3], 102, none⟩] [] [(15, 14)] [] []) (by kernel_rfl) (by kernel_rfl) ?_ ?_ ?_
        · exact RJ.start rfl B.out (by exact ⟨K0.out, K1.out, K2.out, K3.out, K4.out, K5.out, K6.out, K7.out, K8.out, trivial⟩)
        · refine ⟨?_, ?_, ?_, ?_, ?_, ?_, ?_, ?_, ?_, ?_, ?_, ?_, ?_, ?_, ?_, ?_, ?_, trivial⟩
          · rintro L a U ho J hn hd KK hK; refine Wants.free rfl ?_; have r3 : a.tmps[(3 : Nat)]?.getD undef = .pointer (some ⟨g1_0, 0, none⟩) := ho.slot 3 rfl; go_simp; exact hK.out _ _ (J.st 0 rfl rfl)
          · rintro L a U ho J hn hd KK hK; refine Wants.free rfl ?_; have r63 := J.read 0 rfl (hd 0 (by decide)); have kb := (J.eld 0 rfl); have c0 := kb.at_ 0 _ rfl; have c1 := kb.at_ 1 _ rfl; have c2 := kb.at_ 2 _ rfl; clear kb; go_simp; exact hK.out _ _ (J.st 1 rfl rfl)
          · rintro L a U ho J hn hd KK hK; refine Wants.free rfl ?_; have r4 : a.tmps[(4 : Nat)]?.getD undef = .pointer (some ⟨g1_1, 0, none⟩) := ho.slot 4 rfl; go_simp; exact hK.out _ _ (J.st 2 rfl rfl)
          · rintro L a U ho J hn hd KK hK; refine Wants.free rfl ?_; have r65 := J.read 2 rfl (hd 2 (by decide)); go_simp; exact hK.out _ _ (J.st 3 rfl rfl)
          · rintro L a U ho J hn hd KK hK; refine Wants.free rfl ?_; have r66 := J.read 3 rfl (hd 3 (by decide)); have kb := (J.eld 1 rfl); have c0 := kb.at_ 0 _ rfl; have c1 := kb.at_ 1 _ rfl; have c2 := kb.at_ 2 _ rfl; clear kb; go_simp; exact hK.out _ _ (J.st 4 rfl rfl)
          · rintro L a U ho J hn hd KK hK; refine Wants.free rfl ?_; have r5 : a.tmps[(5 : Nat)]?.getD undef = .pointer (some ⟨g1_2, 0, none⟩) := ho.slot 5 rfl; go_simp; exact hK.out _ _ (J.st 5 rfl rfl)
          · rintro L a U ho J hn hd KK hK; refine Wants.free rfl ?_; have r68 := J.read 5 rfl (hd 5 (by decide)); go_simp; exact hK.out _ _ (J.st 6 rfl rfl)
          · rintro L a U ho J hn hd KK hK; refine Wants.free rfl ?_; have r69 := J.read 6 rfl (hd 6 (by decide)); have kb := (J.eld 2 rfl); have c0 := kb.at_ 0 _ rfl; have c1 := kb.at_ 1 _ rfl; have c2 := kb.at_ 2 _ rfl; clear kb; go_simp; exact hK.out _ _ (J.st 7 rfl rfl)
          · rintro L a U ho J hn hd KK hK; refine Wants.free rfl ?_; have r64 := J.read 1 rfl (hd 1 (by decide)); have r67 := J.read 4 rfl (hd 4 (by decide)); have r70 := J.read 7 rfl (hd 7 (by decide)); go_simp; exact hK.out _ _ (J.st 8 rfl rfl)
          · rintro L a U ho J hn hd KK hK; refine Wants.free rfl ?_; have r10 : a.tmps[(10 : Nat)]?.getD undef = .pointer (some ⟨g4_13, 0, none⟩) := ho.slot 10 rfl; have kb := (J.eld 8 rfl); have c0 := kb.at_ 0 _ rfl; have c1 := kb.at_ 1 _ rfl; have c2 := kb.at_ 2 _ rfl; clear kb; go_simp; exact hK.out _ _ (J.st 9 rfl rfl)
          · rintro L a U ho J hn hd KK hK; refine Wants.free rfl ?_; have r71 := J.read 8 rfl (hd 8 (by decide)); have r72 := J.read 9 rfl (hd 9 (by decide)); go_simp; go_at_call 54; (with_reducible refine (H_MF.out _ J.bb).mono ?_); rintro e wy ⟨rfl, q⟩; go_simp; exact hK.out _ _ (J.sq 10 rfl rfl q)
          · rintro L a U ho J hn hd KK hK; refine Wants.free rfl ?_; have r73 := J.read 10 rfl (hd 10 (by decide)); go_simp; exact hK.out _ _ (J.st 11 rfl rfl)
          · rintro L a U ho J hn hd KK hK; refine Wants.free rfl ?_; have r62 := J.read 11 rfl (hd 11 (by decide)); go_simp; exact hK.out _ _ (J.st 12 rfl rfl)
          · rintro L a U ho J hn hd KK hK; refine Wants.free rfl ?_; have r62 := J.read 11 rfl (hd 11 (by decide)); go_simp; exact hK.out _ _ (J.st 13 rfl rfl)
          · rintro L a U ho J hn hd KK hK; refine Wants.free rfl ?_; go_simp; exact hK.out _ _ (J.mf 14 0 rfl rfl rfl rfl rfl hn)
          · rintro L a U ho J hn hd KK hK; refine Wants.free rfl ?_; have r11 : a.tmps[(11 : Nat)]?.getD undef = .pointer (some ⟨(blkOf (slotOf a 11)), 0, none⟩) := J.readN 0 rfl (hd 14 (by decide)); have r74 := J.read 12 rfl (hd 12 (by decide)); have kb := (J.nwB 0 rfl (hd 14 (by decide)) hn).blk; have c0 := kb.at_ 0 _ rfl; have z0 := kb.free 0; have c1 := kb.at_ 1 _ rfl; have z1 := kb.free 1; have c2 := kb.at_ 2 _ rfl; have z2 := kb.free 2; clear kb; go_simp; exact hK.out undef _ (J.storedN 15 0 rfl rfl rfl rfl rfl 0 [.string ⟨#[]⟩, .string ⟨#[]⟩, .string ⟨#[]⟩] rfl ⟨lt0, lt1, lt2, lt3, lt4, lt5, lt6, lt7, lt8, trivial⟩ (hd 14 (by decide)) hn ⟨.inr (hd 14 (by decide)), trivial⟩)
          · rintro L a U ho J hn hd KK hK; refine Wants.free rfl ?_; have r75 := J.read 13 rfl (hd 13 (by decide)); go_simp; exact hK.out _ _ (J.st 16 rfl rfl)
        rintro L σ W5 J hL
        have hf := J.fin rfl hL
        simp only [finR] at hf
        obtain ⟨e9, l9, k9⟩ := J.nwW 0 rfl (hL 14 (by decide)) (hL 15 (by decide))
        replace K0 := Lib.hid (J.eld 0 rfl)
        replace K1 := Lib.hid (J.eld 1 rfl)
        replace K2 := Lib.hid (J.eld 2 rfl)
        replace K3 := Lib.hid (J.eld 3 rfl)
        replace K4 := Lib.hid (J.eld 4 rfl)
        replace K5 := Lib.hid (J.eld 5 rfl)
        replace K6 := Lib.hid (J.eld 6 rfl)
        replace K7 := Lib.hid (J.eld 7 rfl)
        replace K8 := Lib.hid (J.eld 8 rfl)
        have low := J.low
        replace B := Lib.hid J.bb
        clear J hL
        try dsimp only at e9
        generalize blkOf (σ 11) = g5_14 at *
        have K9 := Lib.hid k9
        have L9 := Lib.hid (Nat.le_trans low l9)
        have D3_9 := Lib.hid (Nat.ne_of_lt (Nat.lt_of_lt_of_le lt3 l9))
        clear lt0 lt1 lt2 lt3 lt4 lt5 lt6 lt7 lt8 l9 k9 low
        rw [show List.map σ [63, 64, 65, 66, 67, 68, 69, 70, 71, 72, 73, 62, 74, 75, 11, 12] = _ from hf, e9]
        clear hf e9
        simp only [putAll, List.map, Act.put, List.setIfInBounds_toArray, List.set_cons_succ, List.set_cons_zero]
        go_upto_region 10 with (fail)
        have lt0 := K0.out.lt
        have lt1 := K1.out.lt
        have lt2 := K2.out.lt
        have lt3 := K3.out.lt
        have lt4 := K4.out.lt
        have lt5 := K5.out.lt
        have lt6 := K6.out.lt
        have lt7 := K7.out.lt
        have lt8 := K8.out.lt
        have lt9 := K9.out.lt
        refine wp_region_seq2 [78, 7] (RJ w W5.heap.size [.v 78 (.agg #[.string ⟨#[]⟩, .string ⟨#[]⟩, .string ⟨#[]⟩]), .z, .v 7 (.int .i64 18)] [] [⟨g1_0, #[.string A1, .string A2, .string A3, .string A0], 26, none⟩, ⟨g1_1, #[.string C1, .string C2, .string C3, .string C0, .string M1], 35, none⟩, ⟨g1_2, #[.string D1, .string D2, .string D3, .string D0, .string M2], 35, none⟩, ⟨g1_3, #[.string ⟨#[]⟩, .string ⟨#[]⟩, .string ⟨#[]⟩], 24, none⟩, ⟨g2_7, #[.string M1], 22, none⟩, ⟨g2_14, #[.string M2], 22, none⟩, ⟨g2_16, #[.int .i64 e1, .int .i64 e2, .int .i64 e3, .int .i64 e4, .int .i64 e5], 31, none⟩, ⟨g3_8, #[.string A1, .string A2, .string A3, .string C1, .string C2, .string C3, .string D1, .string D2, .string D3], 24, none⟩, ⟨g4_13, #[.string ⟨#[48]⟩, .string X2, .string X3], 102, none⟩, ⟨g5_14, #[.string ⟨#[]⟩, .string ⟨#[]⟩, .string ⟨#[]⟩], 24, none⟩] [] [] [] []) (by kernel_rfl) (by kernel_rfl) ?_ ?_ ?_
        · exact RJ.start rfl B.out (by exact ⟨K0.out, K1.out, K2.out, K3.out, K4.out, K5.out, K6.out, K7.out, K8.out, K9.out, trivial⟩)
        · refine ⟨?_, ?_, ?_, trivial⟩
          · rintro L a U ho J hn hd KK hK; refine Wants.free rfl ?_; go_simp; exact hK.out _ _ (J.st 0 rfl rfl)
          · rintro L a U ho J hn hd KK hK; refine Wants.free rfl ?_; have r6 : a.tmps[(6 : Nat)]?.getD undef = .pointer (some ⟨g1_3, 0, none⟩) := ho.slot 6 rfl; have r78 := J.read 0 rfl (hd 0 (by decide)); have kb := (J.eld 3 rfl); have c0 := kb.at_ 0 _ rfl; have z0 := kb.free 0; have c1 := kb.at_ 1 _ rfl; have z1 := kb.free 1; have c2 := kb.at_ 2 _ rfl; have z2 := kb.free 2; clear kb; go_simp; exact hK.out undef _ (J.stored 1 3 rfl rfl (.inr ⟨rfl, rfl⟩) rfl rfl 0 [.string ⟨#[]⟩, .string ⟨#[]⟩, .string ⟨#[]⟩] rfl L3.out lt3 ⟨.inr D0_3.out, .inr D1_3.out, .inr D2_3.out, .inl rfl, .inr (Ne.symm D3_4.out), .inr (Ne.symm D3_5.out), .inr (Ne.symm D3_6.out), .inr (Ne.symm D3_7.out), .inr (Ne.symm D3_8.out), .inr (Ne.symm D3_9.out), trivial⟩ hn trivial)
          · rintro L a U ho J hn hd KK hK; refine Wants.free rfl ?_; go_simp; exact hK.out _ _ (J.st 2 rfl rfl)
        rintro L σ W6 J hL
        have hf := J.fin rfl hL
        simp only [finR] at hf
        replace K0 := Lib.hid (J.eld 0 rfl)
        replace K1 := Lib.hid (J.eld 1 rfl)
        replace K2 := Lib.hid (J.eld 2 rfl)
        replace K3 := Lib.hid (J.eld 3 rfl)
        replace K4 := Lib.hid (J.eld 4 rfl)
        replace K5 := Lib.hid (J.eld 5 rfl)
        replace K6 := Lib.hid (J.eld 6 rfl)
        replace K7 := Lib.hid (J.eld 7 rfl)
        replace K8 := Lib.hid (J.eld 8 rfl)
        replace K9 := Lib.hid (J.eld 9 rfl)
        replace B := Lib.hid J.bb
        clear J hL
        clear lt0 lt1 lt2 lt3 lt4 lt5 lt6 lt7 lt8 lt9
        rw [show List.map σ [78, 7] = _ from hf]
        clear hf
        simp only [putAll, List.map, Act.put, List.setIfInBounds_toArray, List.set_cons_succ, List.set_cons_zero]
        go_wp2
        have c3_0 := K3.out.at_ 0 _ rfl
        have c3_1 := K3.out.at_ 1 _ rfl
        have c3_2 := K3.out.at_ 2 _ rfl
        exact bodyPost_ret (v := .tuple #[.agg #[.string ⟨#[]⟩, .string ⟨#[]⟩, .string ⟨#[]⟩], .int .i64 18]) (by simp [results, Tryz.results13, go_sem, c3_0, c3_1, c3_2]) rfl ⟨by rw [r3 hef hez hok] <;> rfl, B.out⟩
    · skip
      have qez : (ez != 0) = true := by simp [hez]
      go_upto_region 6 with (fail)
      have lt0 := K0.out.lt
      have lt1 := K1.out.lt
      have lt2 := K2.out.lt
      have lt3 := K3.out.lt
      have lt4 := K4.out.lt
      have lt5 := K5.out.lt
      have lt6 := K6.out.lt
      have lt7 := K7.out.lt
      refine wp_region_seq2 [47, 48, 7] (RJ w W3.heap.size [.v 47 (.agg #[.string ⟨#[]⟩, .string ⟨#[]⟩, .string ⟨#[]⟩]), .v 48 (.int .i64 ez), .z, .v 7 (.int .i64 ez)] [] [⟨g1_0, #[.string A1, .string A2, .string A3, .string A0], 26, none⟩, ⟨g1_1, #[.string C1, .string C2, .string C3, .string C0, .string M1], 35, none⟩, ⟨g1_2, #[.string D1, .string D2, .string D3, .string D0, .string M2], 35, none⟩, ⟨g1_3, #[.string ⟨#[]⟩, .string ⟨#[]⟩, .string ⟨#[]⟩], 24, none⟩, ⟨g2_7, #[.string M1], 22, none⟩, ⟨g2_14, #[.string M2], 22, none⟩, ⟨g2_16, #[.int .i64 e1, .int .i64 e2, .int .i64 e3, .int .i64 e4, .int .i64 e5], 31, none⟩, ⟨g3_8, #[.string A1, .string A2, .string A3, .string C1, .string C2, .string C3, .string D1, .string D2, .string D3], 24, none⟩] [] [] [] []) (by kernel_rfl) (by kernel_rfl) ?_ ?_ ?_
      · exact RJ.start rfl B.out (by exact ⟨K0.out, K1.out, K2.out, K3.out, K4.out, K5.out, K6.out, K7.out, trivial⟩)
      · refine ⟨?_, ?_, ?_, ?_, trivial⟩
        · rintro L a U ho J hn hd KK hK; refine Wants.free rfl ?_; go_simp; exact hK.out _ _ (J.st 0 rfl rfl)
        · rintro L a U ho J hn hd KK hK; refine Wants.free rfl ?_; have r9 : a.tmps[(9 : Nat)]?.getD undef = .int .i64 ez := ho.slot 9 rfl; go_simp; exact hK.out _ _ (J.st 1 rfl rfl)
        · rintro L a U ho J hn hd KK hK; refine Wants.free rfl ?_; have r6 : a.tmps[(6 : Nat)]?.getD undef = .pointer (some ⟨g1_3, 0, none⟩) := ho.slot 6 rfl; have r47 := J.read 0 rfl (hd 0 (by decide)); have kb := (J.eld 3 rfl); have c0 := kb.at_ 0 _ rfl; have z0 := kb.free 0; have c1 := kb.at_ 1 _ rfl; have z1 := kb.free 1; have c2 := kb.at_ 2 _ rfl; have z2 := kb.free 2; clear kb; go_simp; exact hK.out undef _ (J.stored 2 3 rfl rfl (.inr ⟨rfl, rfl⟩) rfl rfl 0 [.string ⟨#[]⟩, .string ⟨#[]⟩, .string ⟨#[]⟩] rfl L3.out lt3 ⟨.inr D0_3.out, .inr D1_3.out, .inr D2_3.out, .inl rfl, .inr (Ne.symm D3_4.out), .inr (Ne.symm D3_5.out), .inr (Ne.symm D3_6.out), .inr (Ne.symm D3_7.out), trivial⟩ hn trivial)
        · rintro L a U ho J hn hd KK hK; refine Wants.free rfl ?_; have r48 := J.read 1 rfl (hd 1 (by decide)); go_simp; exact hK.out _ _ (J.st 3 rfl rfl)
      rintro L σ W4 J hL
      have hf := J.fin rfl hL
      simp only [finR] at hf
      replace K0 := Lib.hid (J.eld 0 rfl)
      replace K1 := Lib.hid (J.eld 1 rfl)
      replace K2 := Lib.hid (J.eld 2 rfl)
      replace K3 := Lib.hid (J.eld 3 rfl)
      replace K4 := Lib.hid (J.eld 4 rfl)
      replace K5 := Lib.hid (J.eld 5 rfl)
      replace K6 := Lib.hid (J.eld 6 rfl)
      replace K7 := Lib.hid (J.eld 7 rfl)
      replace B := Lib.hid J.bb
      clear J hL
      clear lt0 lt1 lt2 lt3 lt4 lt5 lt6 lt7
      rw [show List.map σ [47, 48, 7] = _ from hf]
      clear hf
      simp only [putAll, List.map, Act.put, List.setIfInBounds_toArray, List.set_cons_succ, List.set_cons_zero]
      go_wp2
      have c3_0 := K3.out.at_ 0 _ rfl
      have c3_1 := K3.out.at_ 1 _ rfl
      have c3_2 := K3.out.at_ 2 _ rfl
      exact bodyPost_ret (v := .tuple #[.agg #[.string ⟨#[]⟩, .string ⟨#[]⟩, .string ⟨#[]⟩], .int .i64 ez]) (by simp [results, Tryz.results13, go_sem, c3_0, c3_1, c3_2]) rfl ⟨by rw [r2 hef hez] <;> rfl, B.out⟩
  · skip
    have qef : (ef != 0) = true := by simp [hef]
    go_upto_region 3 with (fail)
    have lt0 := K0.out.lt
    have lt1 := K1.out.lt
    have lt2 := K2.out.lt
    have lt3 := K3.out.lt
    have lt4 := K4.out.lt
    have lt5 := K5.out.lt
    have lt6 := K6.out.lt
    refine wp_region_seq2 [33, 34, 7] (RJ w W2.heap.size [.v 33 (.agg #[.string ⟨#[]⟩, .string ⟨#[]⟩, .string ⟨#[]⟩]), .v 34 (.int .i64 ef), .z, .v 7 (.int .i64 ef)] [] [⟨g1_0, #[.string A1, .string A2, .string A3, .string A0], 26, none⟩, ⟨g1_1, #[.string C1, .string C2, .string C3, .string C0, .string M1], 35, none⟩, ⟨g1_2, #[.string D1, .string D2, .string D3, .string D0, .string M2], 35, none⟩, ⟨g1_3, #[.string ⟨#[]⟩, .string ⟨#[]⟩, .string ⟨#[]⟩], 24, none⟩, ⟨g2_7, #[.string M1], 22, none⟩, ⟨g2_14, #[.string M2], 22, none⟩, ⟨g2_16, #[.int .i64 e1, .int .i64 e2, .int .i64 e3, .int .i64 e4, .int .i64 e5], 31, none⟩] [] [] [] []) (by kernel_rfl) (by kernel_rfl) ?_ ?_ ?_
    · exact RJ.start rfl B.out (by exact ⟨K0.out, K1.out, K2.out, K3.out, K4.out, K5.out, K6.out, trivial⟩)
    · refine ⟨?_, ?_, ?_, ?_, trivial⟩
      · rintro L a U ho J hn hd KK hK; refine Wants.free rfl ?_; go_simp; exact hK.out _ _ (J.st 0 rfl rfl)
      · rintro L a U ho J hn hd KK hK; refine Wants.free rfl ?_; have r8 : a.tmps[(8 : Nat)]?.getD undef = .int .i64 ef := ho.slot 8 rfl; go_simp; exact hK.out _ _ (J.st 1 rfl rfl)
      · rintro L a U ho J hn hd KK hK; refine Wants.free rfl ?_; have r6 : a.tmps[(6 : Nat)]?.getD undef = .pointer (some ⟨g1_3, 0, none⟩) := ho.slot 6 rfl; have r33 := J.read 0 rfl (hd 0 (by decide)); have kb := (J.eld 3 rfl); have c0 := kb.at_ 0 _ rfl; have z0 := kb.free 0; have c1 := kb.at_ 1 _ rfl; have z1 := kb.free 1; have c2 := kb.at_ 2 _ rfl; have z2 := kb.free 2; clear kb; go_simp; exact hK.out undef _ (J.stored 2 3 rfl rfl (.inr ⟨rfl, rfl⟩) rfl rfl 0 [.string ⟨#[]⟩, .string ⟨#[]⟩, .string ⟨#[]⟩] rfl L3.out lt3 ⟨.inr D0_3.out, .inr D1_3.out, .inr D2_3.out, .inl rfl, .inr (Ne.symm D3_4.out), .inr (Ne.symm D3_5.out), .inr (Ne.symm D3_6.out), trivial⟩ hn trivial)
      · rintro L a U ho J hn hd KK hK; refine Wants.free rfl ?_; have r34 := J.read 1 rfl (hd 1 (by decide)); go_simp; exact hK.out _ _ (J.st 3 rfl rfl)
    rintro L σ W3 J hL
    have hf := J.fin rfl hL
    simp only [finR] at hf
    replace K0 := Lib.hid (J.eld 0 rfl)
    replace K1 := Lib.hid (J.eld 1 rfl)
    replace K2 := Lib.hid (J.eld 2 rfl)
    replace K3 := Lib.hid (J.eld 3 rfl)
    replace K4 := Lib.hid (J.eld 4 rfl)
    replace K5 := Lib.hid (J.eld 5 rfl)
    replace K6 := Lib.hid (J.eld 6 rfl)
    replace B := Lib.hid J.bb
    clear J hL
    clear lt0 lt1 lt2 lt3 lt4 lt5 lt6
    rw [show List.map σ [33, 34, 7] = _ from hf]
    clear hf
    simp only [putAll, List.map, Act.put, List.setIfInBounds_toArray, List.set_cons_succ, List.set_cons_zero]
    go_wp2
    have c3_0 := K3.out.at_ 0 _ rfl
    have c3_1 := K3.out.at_ 1 _ rfl
    have c3_2 := K3.out.at_ 2 _ rfl
    exact bodyPost_ret (v := .tuple #[.agg #[.string ⟨#[]⟩, .string ⟨#[]⟩, .string ⟨#[]⟩], .int .i64 ef]) (by simp [results, Tryz.results13, go_sem, c3_0, c3_1, c3_2]) rfl ⟨by rw [r1 hef] <;> rfl, B.out⟩

end Go.Proofs.YtopilnlniidejaaGreatDoor
