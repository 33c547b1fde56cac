/- The walks of the laws of klippelaw42, over texts: SlipSolves. -/
import Derived.Test.YtopilnlniidejaaGreatDoorShelf
import Derived.Test.YtopilnlniidejaaGreatDoorGPar
import Derived.Deep.RegionHeld3
import Derived.Laws.ResultCell
import Derived.Deep.Cut
import Derived.Deep.CutRange
import Derived.Deep.DeepCutAuto
import Derived.Outline
namespace Go.Proofs.YtopilnlniidejaaGreatDoor
set_option linter.all false
open Go.RowKit

set_option maxRecDepth 100000 in
set_option maxHeartbeats 4000000 in
theorem solves_long1 (A1 A2 A3 A0 C1 C2 C3 C0 D1 D2 D3 D0 M1 M2 : ByteArray) (w : World)
    (h_kn : ∀ (W : World), Below w.heap.size w W → Calls Tryz.prog 11 #[] W fun e w' => e = .returned (.bool true) ∧ Below W.heap.size W w')
    (h_br : ∀ (W : World) (b0 : Nat), Blk W b0 #[.string A1, .string A2, .string A3, .string C1, .string C2, .string C3, .string D1, .string D2, .string D3] 24 → Below w.heap.size w W → Calls Tryz.prog 12 #[.slice (some ⟨b0, 0, none⟩) 3 3] W fun e w' => e = .returned (.bool false) ∧ Below W.heap.size W w') :
    Calls Tryz.prog 3 #[.agg #[.string A1, .string A2, .string A3, .string A0, .string C1, .string C2, .string C3, .string C0, .string D1, .string D2, .string D3, .string D0], .agg #[.string M1, .string M2]] w fun e w' => e = .returned (.bool true) ∧ Below w.heap.size w w' := by
  have H_KN := Lib.hid h_kn
  have H_BR := Lib.hid h_br
  clear h_kn h_br
  have B := Lib.hid (Below.refl w.heap.size w)
  go_enter Tryz.func3, Tryz.ntmps3
  go_upto_region 0 with (fail)
  refine wp_region_seq2 [2, 3, 4] (RJ w w.heap.size [.n 2, .n 3, .v 4 (.bool false)] [⟨0, 2, fun g => .pointer (some ⟨g, 0, none⟩), #[.string A1, .string A2, .string A3, .string A0, .string C1, .string C2, .string C3, .string C0, .string D1, .string D2, .string D3, .string D0], 27, none⟩, ⟨1, 3, fun g => .pointer (some ⟨g, 0, none⟩), #[.string M1, .string M2], 28, none⟩] [] [] [] [] []) (by kernel_rfl) (by kernel_rfl) ?_ ?_ ?_
  · exact RJ.start rfl B.out (by exact trivial)
  · refine ⟨?_, ?_, ?_, trivial⟩
    · rintro L a U ho J hn hd KK hK; refine .free rfl ?_; have r0 : a.tmps[(0 : Nat)]?.getD undef = .agg #[.string A1, .string A2, .string A3, .string A0, .string C1, .string C2, .string C3, .string C0, .string D1, .string D2, .string D3, .string D0] := ho.slot 0 rfl; go_simp; exact hK.out _ _ (J.mf 0 0 rfl rfl rfl rfl rfl hn)
    · rintro L a U ho J hn hd KK hK; refine .free rfl ?_; have r1 : a.tmps[(1 : Nat)]?.getD undef = .agg #[.string M1, .string M2] := ho.slot 1 rfl; go_simp; exact hK.out _ _ (J.mf 1 1 rfl rfl rfl rfl rfl hn)
    · rintro L a U ho J hn hd KK hK; refine .free rfl ?_; go_simp; exact hK.out _ _ (J.st 2 rfl rfl)
  rintro L σ W1 J hL
  have hf := J.fin rfl hL
  simp only [finR] at hf
  obtain ⟨e0, l0, k0⟩ := J.nw 0 rfl (hL 0 (by decide))
  obtain ⟨e1, l1, k1⟩ := J.nw 1 rfl (hL 1 (by decide))
  have low := J.low
  replace B := Lib.hid J.bb
  clear J hL
  try dsimp only at e0 e1
  generalize blkOf (σ 2) = g1_0 at *
  generalize blkOf (σ 3) = g1_1 at *
  have K0 := Lib.hid k0
  have L0 := Lib.hid (Nat.le_trans low l0)
  have K1 := Lib.hid k1
  have L1 := Lib.hid (Nat.le_trans low l1)
  clear l0 l1 k0 k1 low
  rw [show List.map σ [2, 3, 4] = _ from hf, e0, e1]
  clear hf e0 e1
  simp only [putAll, List.map, Act.put, List.setIfInBounds_toArray, List.set_cons_succ, List.set_cons_zero]
  go_upto_region 1 with (fail)
  have lt0 := K0.out.lt
  have lt1 := K1.out.lt
  refine wp_region_seq2 [10, 11, 12, 13, 14, 15, 16, 17, 18, 19, 20, 21, 22, 23, 24, 25, 26, 27, 28, 29, 30, 31, 32, 33, 34, 35, 36, 37, 38, 39, 40, 41, 42, 43, 44, 45, 46, 47] (RJ w W1.heap.size [.v 10 (.bool true), .v 11 (.bool false), .v 12 (.bool false), .v 13 (.pointer (some ⟨g1_0, 0, none⟩)), .v 14 (.pointer (some ⟨g1_0, 0, none⟩)), .v 15 (.agg #[.string A1, .string A2, .string A3]), .v 16 (.pointer (some ⟨g1_0, 4, none⟩)), .v 17 (.pointer (some ⟨g1_0, 4, none⟩)), .v 18 (.agg #[.string C1, .string C2, .string C3]), .v 19 (.pointer (some ⟨g1_0, 8, none⟩)), .v 20 (.pointer (some ⟨g1_0, 8, none⟩)), .v 21 (.agg #[.string D1, .string D2, .string D3]), .n 22, .v 23 (.bool false), .v 24 (.bool true), .v 25 (.bool true), .v 26 (.bool true), .v 27 (undef), .v 28 (undef), .v 29 (undef), .v 30 (undef), .v 31 (undef), .v 32 (undef), .v 33 (undef), .v 34 (undef), .v 35 (undef), .v 36 (undef), .v 37 (undef), .v 38 (undef), .v 39 (undef), .v 40 (undef), .v 41 (undef), .v 42 (undef), .v 43 (undef), .v 44 (undef), .v 45 (undef), .v 46 (undef), .v 47 (.bool true)] [⟨12, 22, fun g => .slice (some ⟨g, 0, none⟩) 3 3, #[.string A1, .string A2, .string A3, .string C1, .string C2, .string C3, .string D1, .string D2, .string D3], 24, none⟩] [⟨g1_0, #[.string A1, .string A2, .string A3, .string A0, .string C1, .string C2, .string C3, .string C0, .string D1, .string D2, .string D3, .string D0], 27, none⟩, ⟨g1_1, #[.string M1, .string M2], 28, none⟩] [] [] [] []) (by kernel_rfl) (by kernel_rfl) ?_ ?_ ?_
  · exact RJ.start rfl B.out (by exact ⟨K0.out, K1.out, trivial⟩)
  · refine ⟨?_, ?_, ?_, ?_, ?_, ?_, ?_, ?_, ?_, ?_, ?_, ?_, ?_, ?_, ?_, ?_, ?_, ?_, ?_, ?_, ?_, ?_, ?_, ?_, ?_, ?_, ?_, ?_, ?_, ?_, ?_, ?_, ?_, ?_, ?_, ?_, ?_, ?_, trivial⟩
    · rintro L a U ho J hn hd KK hK; refine .free rfl ?_; go_simp; go_at_call 11; (with_reducible refine (H_KN.out _ J.bb).mono ?_); rintro e wy ⟨rfl, q⟩; go_simp; exact hK.out _ _ (J.sq 0 rfl rfl q)
    · rintro L a U ho J hn hd KK hK; refine .free rfl ?_; have r10 := J.read 0 rfl (hd 0 rfl); go_simp; exact hK.out _ _ (J.st 1 rfl rfl)
    · rintro L a U ho J hn hd KK hK; refine .free rfl ?_; have r11 := J.read 1 rfl (hd 1 rfl); go_simp; exact hK.out _ _ (J.st 2 rfl rfl)
    · rintro L a U ho J hn hd KK hK; refine .pos (s := 12) rfl rfl (J.vals 2 _ _ rfl (hd 2 rfl)) ?_; have r2 : a.tmps[(2 : Nat)]?.getD undef = .pointer (some ⟨g1_0, 0, none⟩) := ho.slot 2 rfl; go_simp; exact hK.out _ _ (J.st 3 rfl rfl)
    · rintro L a U ho J hn hd KK hK; refine .pos (s := 12) rfl rfl (J.vals 2 _ _ rfl (hd 2 rfl)) ?_; have r13 := J.read 3 rfl (hd 3 rfl); go_simp; exact hK.out _ _ (J.st 4 rfl rfl)
    · rintro L a U ho J hn hd KK hK; refine .pos (s := 12) rfl rfl (J.vals 2 _ _ rfl (hd 2 rfl)) ?_; have r14 := J.read 4 rfl (hd 4 rfl); have kb := (J.eld 0 rfl); have c0 := kb.at_ 0 _ rfl; have c1 := kb.at_ 1 _ rfl; have c2 := kb.at_ 2 _ rfl; clear kb; go_simp; exact hK.out _ _ (J.st 5 rfl rfl)
    · rintro L a U ho J hn hd KK hK; refine .pos (s := 12) rfl rfl (J.vals 2 _ _ rfl (hd 2 rfl)) ?_; have r2 : a.tmps[(2 : Nat)]?.getD undef = .pointer (some ⟨g1_0, 0, none⟩) := ho.slot 2 rfl; go_simp; exact hK.out _ _ (J.st 6 rfl rfl)
    · rintro L a U ho J hn hd KK hK; refine .pos (s := 12) rfl rfl (J.vals 2 _ _ rfl (hd 2 rfl)) ?_; have r16 := J.read 6 rfl (hd 6 rfl); go_simp; exact hK.out _ _ (J.st 7 rfl rfl)
    · rintro L a U ho J hn hd KK hK; refine .pos (s := 12) rfl rfl (J.vals 2 _ _ rfl (hd 2 rfl)) ?_; have r17 := J.read 7 rfl (hd 7 rfl); have kb := (J.eld 0 rfl); have c4 := kb.at_ 4 _ rfl; have c5 := kb.at_ 5 _ rfl; have c6 := kb.at_ 6 _ rfl; clear kb; go_simp; exact hK.out _ _ (J.st 8 rfl rfl)
    · rintro L a U ho J hn hd KK hK; refine .pos (s := 12) rfl rfl (J.vals 2 _ _ rfl (hd 2 rfl)) ?_; have r2 : a.tmps[(2 : Nat)]?.getD undef = .pointer (some ⟨g1_0, 0, none⟩) := ho.slot 2 rfl; go_simp; exact hK.out _ _ (J.st 9 rfl rfl)
    · rintro L a U ho J hn hd KK hK; refine .pos (s := 12) rfl rfl (J.vals 2 _ _ rfl (hd 2 rfl)) ?_; have r19 := J.read 9 rfl (hd 9 rfl); go_simp; exact hK.out _ _ (J.st 10 rfl rfl)
    · rintro L a U ho J hn hd KK hK; refine .pos (s := 12) rfl rfl (J.vals 2 _ _ rfl (hd 2 rfl)) ?_; have r20 := J.read 10 rfl (hd 10 rfl); have kb := (J.eld 0 rfl); have c8 := kb.at_ 8 _ rfl; have c9 := kb.at_ 9 _ rfl; have c10 := kb.at_ 10 _ rfl; clear kb; go_simp; exact hK.out _ _ (J.st 11 rfl rfl)
    · rintro L a U ho J hn hd KK hK; refine .pos (s := 12) rfl rfl (J.vals 2 _ _ rfl (hd 2 rfl)) ?_; have r15 := J.read 5 rfl (hd 5 rfl); have r18 := J.read 8 rfl (hd 8 rfl); have r21 := J.read 11 rfl (hd 11 rfl); go_simp; exact hK.out _ _ (J.mf 12 0 rfl rfl rfl rfl rfl hn)
    · rintro L a U ho J hn hd KK hK; refine .pos (s := 12) rfl rfl (J.vals 2 _ _ rfl (hd 2 rfl)) ?_; have r22 : a.tmps[(22 : Nat)]?.getD undef = .slice (some ⟨(blkOf (slotOf a 22)), 0, none⟩) 3 3 := J.readN 0 rfl (hd 12 rfl); go_simp; go_at_call 12; (with_reducible refine (H_BR.out _ _ (J.nw 0 rfl (hd 12 rfl)).blk J.bb).mono ?_); rintro e wy ⟨rfl, q⟩; go_simp; exact hK.out _ _ (J.sq 13 rfl rfl q)
    · rintro L a U ho J hn hd KK hK; refine .pos (s := 12) rfl rfl (J.vals 2 _ _ rfl (hd 2 rfl)) ?_; have r23 := J.read 13 rfl (hd 13 rfl); go_simp; exact hK.out _ _ (J.st 14 rfl rfl)
    · rintro L a U ho J hn hd KK hK; refine .free rfl ?_; have r12 := J.read 2 rfl (hd 2 rfl); have r24 := J.read 14 rfl (hd 14 rfl); go_simp; exact hK.out _ _ (J.st 15 rfl rfl)
    · rintro L a U ho J hn hd KK hK; refine .free rfl ?_; have r25 := J.read 15 rfl (hd 15 rfl); go_simp; exact hK.out _ _ (J.st 16 rfl rfl)
    · rintro L a U ho J hn hd KK hK; refine .neg (s := 26) rfl rfl (J.vals 16 _ _ rfl (hd 16 rfl)) ?_; exact J.st 17 rfl rfl
    · rintro L a U ho J hn hd KK hK; refine .neg (s := 26) rfl rfl (J.vals 16 _ _ rfl (hd 16 rfl)) ?_; exact J.st 18 rfl rfl
    · rintro L a U ho J hn hd KK hK; refine .neg (s := 26) rfl rfl (J.vals 16 _ _ rfl (hd 16 rfl)) ?_; exact J.st 19 rfl rfl
    · rintro L a U ho J hn hd KK hK; refine .neg (s := 26) rfl rfl (J.vals 16 _ _ rfl (hd 16 rfl)) ?_; exact J.st 20 rfl rfl
    · rintro L a U ho J hn hd KK hK; refine .neg (s := 26) rfl rfl (J.vals 16 _ _ rfl (hd 16 rfl)) ?_; exact J.st 21 rfl rfl
    · rintro L a U ho J hn hd KK hK; refine .neg (s := 26) rfl rfl (J.vals 16 _ _ rfl (hd 16 rfl)) ?_; exact J.st 22 rfl rfl
    · rintro L a U ho J hn hd KK hK; refine .neg (s := 26) rfl rfl (J.vals 16 _ _ rfl (hd 16 rfl)) ?_; exact J.st 23 rfl rfl
    · rintro L a U ho J hn hd KK hK; refine .neg (s := 26) rfl rfl (J.vals 16 _ _ rfl (hd 16 rfl)) ?_; exact J.st 24 rfl rfl
    · rintro L a U ho J hn hd KK hK; refine .neg (s := 26) rfl rfl (J.vals 16 _ _ rfl (hd 16 rfl)) ?_; exact J.st 25 rfl rfl
    · rintro L a U ho J hn hd KK hK; refine .neg (s := 26) rfl rfl (J.vals 16 _ _ rfl (hd 16 rfl)) ?_; exact J.st 26 rfl rfl
    · rintro L a U ho J hn hd KK hK; refine .neg (s := 26) rfl rfl (J.vals 16 _ _ rfl (hd 16 rfl)) ?_; exact J.st 27 rfl rfl
    · rintro L a U ho J hn hd KK hK; refine .neg (s := 26) rfl rfl (J.vals 16 _ _ rfl (hd 16 rfl)) ?_; exact J.st 28 rfl rfl
    · rintro L a U ho J hn hd KK hK; refine .neg (s := 26) rfl rfl (J.vals 16 _ _ rfl (hd 16 rfl)) ?_; exact J.st 29 rfl rfl
    · rintro L a U ho J hn hd KK hK; refine .neg (s := 26) rfl rfl (J.vals 16 _ _ rfl (hd 16 rfl)) ?_; exact J.st 30 rfl rfl
    · rintro L a U ho J hn hd KK hK; refine .neg (s := 26) rfl rfl (J.vals 16 _ _ rfl (hd 16 rfl)) ?_; exact J.st 31 rfl rfl
    · rintro L a U ho J hn hd KK hK; refine .neg (s := 26) rfl rfl (J.vals 16 _ _ rfl (hd 16 rfl)) ?_; exact J.st 32 rfl rfl
    · rintro L a U ho J hn hd KK hK; refine .neg (s := 26) rfl rfl (J.vals 16 _ _ rfl (hd 16 rfl)) ?_; exact J.st 33 rfl rfl
    · rintro L a U ho J hn hd KK hK; refine .neg (s := 26) rfl rfl (J.vals 16 _ _ rfl (hd 16 rfl)) ?_; exact J.st 34 rfl rfl
    · rintro L a U ho J hn hd KK hK; refine .neg (s := 26) rfl rfl (J.vals 16 _ _ rfl (hd 16 rfl)) ?_; exact J.st 35 rfl rfl
    · rintro L a U ho J hn hd KK hK; refine .neg (s := 26) rfl rfl (J.vals 16 _ _ rfl (hd 16 rfl)) ?_; exact J.st 36 rfl rfl
    · rintro L a U ho J hn hd KK hK; refine .free rfl ?_; have r26 := J.read 16 rfl (hd 16 rfl); have r46 := J.read 36 rfl (hd 36 rfl); go_simp; exact hK.out _ _ (J.st 37 rfl rfl)
  rintro L σ W2 J hL
  have hf := J.fin rfl hL
  simp only [finR] at hf
  obtain ⟨e2, l2, k2⟩ := J.nw 0 rfl (hL 12 (by decide))
  replace K0 := Lib.hid (J.eld 0 rfl)
  replace K1 := Lib.hid (J.eld 1 rfl)
  have low := J.low
  replace B := Lib.hid J.bb
  clear J hL
  try dsimp only at e2
  generalize blkOf (σ 22) = g2_12 at *
  have K2 := Lib.hid k2
  have L2 := Lib.hid (Nat.le_trans low l2)
  clear lt0 lt1 l2 k2 low
  rw [show List.map σ [10, 11, 12, 13, 14, 15, 16, 17, 18, 19, 20, 21, 22, 23, 24, 25, 26, 27, 28, 29, 30, 31, 32, 33, 34, 35, 36, 37, 38, 39, 40, 41, 42, 43, 44, 45, 46, 47] = _ from hf, e2]
  clear hf e2
  simp only [putAll, List.map, Act.put, List.setIfInBounds_toArray, List.set_cons_succ, List.set_cons_zero]
  go_wp2_with (
   (first
    | (go_at_call 11; with_reducible refine (H_KN.out _ (baseI B.out)).mono ?_)
    | fail "arm"); rintro e wx ⟨rfl, q⟩; replace K0 := Lib.hid (K0.out.nearI q); replace K1 := Lib.hid (K1.out.nearI q); replace K2 := Lib.hid (K2.out.nearI q); replace B := Lib.hid (goI B.out q); clear q)
  go_ret
  exact ⟨rfl, B.out⟩

set_option maxRecDepth 100000 in
set_option maxHeartbeats 4000000 in
theorem solves_long2 (A1 A2 A3 A0 C1 C2 C3 C0 D1 D2 D3 D0 M1 M2 : ByteArray) (w : World)
    (hm : decide ((8 : Int) < (if (if (if (if A0.size < C0.size then (C0.size : Int) else (A0.size : Int)) < (D0.size : Int) then (D0.size : Int) else (if A0.size < C0.size then (C0.size : Int) else (A0.size : Int))) < (M1.size : Int) then (M1.size : Int) else (if (if A0.size < C0.size then (C0.size : Int) else (A0.size : Int)) < (D0.size : Int) then (D0.size : Int) else (if A0.size < C0.size then (C0.size : Int) else (A0.size : Int)))) < (M2.size : Int) then (M2.size : Int) else (if (if (if A0.size < C0.size then (C0.size : Int) else (A0.size : Int)) < (D0.size : Int) then (D0.size : Int) else (if A0.size < C0.size then (C0.size : Int) else (A0.size : Int))) < (M1.size : Int) then (M1.size : Int) else (if (if A0.size < C0.size then (C0.size : Int) else (A0.size : Int)) < (D0.size : Int) then (D0.size : Int) else (if A0.size < C0.size then (C0.size : Int) else (A0.size : Int)))))) = true)
    (h_kn : ∀ (W : World), Below w.heap.size w W → Calls Tryz.prog 11 #[] W fun e w' => e = .returned (.bool true) ∧ Below W.heap.size W w')
    (h_br : ∀ (W : World) (b0 : Nat), Blk W b0 #[.string A1, .string A2, .string A3, .string C1, .string C2, .string C3, .string D1, .string D2, .string D3] 24 → Below w.heap.size w W → Calls Tryz.prog 12 #[.slice (some ⟨b0, 0, none⟩) 3 3] W fun e w' => e = .returned (.bool true) ∧ Below W.heap.size W w') :
    Calls Tryz.prog 3 #[.agg #[.string A1, .string A2, .string A3, .string A0, .string C1, .string C2, .string C3, .string C0, .string D1, .string D2, .string D3, .string D0], .agg #[.string M1, .string M2]] w fun e w' => e = .returned (.bool true) ∧ Below w.heap.size w w' := by
  have H_KN := Lib.hid h_kn
  have H_BR := Lib.hid h_br
  clear h_kn h_br
  have B := Lib.hid (Below.refl w.heap.size w)
  go_enter Tryz.func3, Tryz.ntmps3
  go_upto_region 0 with (fail)
  refine wp_region_seq2 [2, 3, 4] (RJ w w.heap.size [.n 2, .n 3, .v 4 (.bool false)] [⟨0, 2, fun g => .pointer (some ⟨g, 0, none⟩), #[.string A1, .string A2, .string A3, .string A0, .string C1, .string C2, .string C3, .string C0, .string D1, .string D2, .string D3, .string D0], 27, none⟩, ⟨1, 3, fun g => .pointer (some ⟨g, 0, none⟩), #[.string M1, .string M2], 28, none⟩] [] [] [] [] []) (by kernel_rfl) (by kernel_rfl) ?_ ?_ ?_
  · exact RJ.start rfl B.out (by exact trivial)
  · refine ⟨?_, ?_, ?_, trivial⟩
    · rintro L a U ho J hn hd KK hK; refine .free rfl ?_; have r0 : a.tmps[(0 : Nat)]?.getD undef = .agg #[.string A1, .string A2, .string A3, .string A0, .string C1, .string C2, .string C3, .string C0, .string D1, .string D2, .string D3, .string D0] := ho.slot 0 rfl; go_simp; exact hK.out _ _ (J.mf 0 0 rfl rfl rfl rfl rfl hn)
    · rintro L a U ho J hn hd KK hK; refine .free rfl ?_; have r1 : a.tmps[(1 : Nat)]?.getD undef = .agg #[.string M1, .string M2] := ho.slot 1 rfl; go_simp; exact hK.out _ _ (J.mf 1 1 rfl rfl rfl rfl rfl hn)
    · rintro L a U ho J hn hd KK hK; refine .free rfl ?_; go_simp; exact hK.out _ _ (J.st 2 rfl rfl)
  rintro L σ W1 J hL
  have hf := J.fin rfl hL
  simp only [finR] at hf
  obtain ⟨e0, l0, k0⟩ := J.nw 0 rfl (hL 0 (by decide))
  obtain ⟨e1, l1, k1⟩ := J.nw 1 rfl (hL 1 (by decide))
  have low := J.low
  replace B := Lib.hid J.bb
  clear J hL
  try dsimp only at e0 e1
  generalize blkOf (σ 2) = g1_0 at *
  generalize blkOf (σ 3) = g1_1 at *
  have K0 := Lib.hid k0
  have L0 := Lib.hid (Nat.le_trans low l0)
  have K1 := Lib.hid k1
  have L1 := Lib.hid (Nat.le_trans low l1)
  clear l0 l1 k0 k1 low
  rw [show List.map σ [2, 3, 4] = _ from hf, e0, e1]
  clear hf e0 e1
  simp only [putAll, List.map, Act.put, List.setIfInBounds_toArray, List.set_cons_succ, List.set_cons_zero]
  go_upto_region 1 with (fail)
  have lt0 := K0.out.lt
  have lt1 := K1.out.lt
  refine wp_region_seq2 [10, 11, 12, 13, 14, 15, 16, 17, 18, 19, 20, 21, 22, 23, 24, 25, 26, 27, 28, 29, 30, 31, 32, 33, 34, 35, 36, 37, 38, 39, 40, 41, 42, 43, 44, 45, 46, 47] (RJ w W1.heap.size [.v 10 (.bool true), .v 11 (.bool false), .v 12 (.bool false), .v 13 (.pointer (some ⟨g1_0, 0, none⟩)), .v 14 (.pointer (some ⟨g1_0, 0, none⟩)), .v 15 (.agg #[.string A1, .string A2, .string A3]), .v 16 (.pointer (some ⟨g1_0, 4, none⟩)), .v 17 (.pointer (some ⟨g1_0, 4, none⟩)), .v 18 (.agg #[.string C1, .string C2, .string C3]), .v 19 (.pointer (some ⟨g1_0, 8, none⟩)), .v 20 (.pointer (some ⟨g1_0, 8, none⟩)), .v 21 (.agg #[.string D1, .string D2, .string D3]), .n 22, .v 23 (.bool true), .v 24 (.bool false), .v 25 (.bool false), .v 26 (.bool false), .v 27 (.pointer (some ⟨g1_0, 0, none⟩)), .v 28 (.pointer (some ⟨g1_0, 3, none⟩)), .v 29 (.string A0), .v 30 (.int .i64 (A0.size : Int)), .v 31 (.pointer (some ⟨g1_0, 4, none⟩)), .v 32 (.pointer (some ⟨g1_0, 7, none⟩)), .v 33 (.string C0), .v 34 (.int .i64 (C0.size : Int)), .v 35 (.pointer (some ⟨g1_0, 8, none⟩)), .v 36 (.pointer (some ⟨g1_0, 11, none⟩)), .v 37 (.string D0), .v 38 (.int .i64 (D0.size : Int)), .v 39 (.pointer (some ⟨g1_1, 0, none⟩)), .v 40 (.string M1), .v 41 (.int .i64 (M1.size : Int)), .v 42 (.pointer (some ⟨g1_1, 1, none⟩)), .v 43 (.string M2), .v 44 (.int .i64 (M2.size : Int)), .v 45 (.int .i64 (if (M2.size : Int) > (if (M1.size : Int) > (if (D0.size : Int) > (if (C0.size : Int) > (A0.size : Int) then (C0.size : Int) else (A0.size : Int)) then (D0.size : Int) else (if (C0.size : Int) > (A0.size : Int) then (C0.size : Int) else (A0.size : Int))) then (M1.size : Int) else (if (D0.size : Int) > (if (C0.size : Int) > (A0.size : Int) then (C0.size : Int) else (A0.size : Int)) then (D0.size : Int) else (if (C0.size : Int) > (A0.size : Int) then (C0.size : Int) else (A0.size : Int)))) then (M2.size : Int) else (if (M1.size : Int) > (if (D0.size : Int) > (if (C0.size : Int) > (A0.size : Int) then (C0.size : Int) else (A0.size : Int)) then (D0.size : Int) else (if (C0.size : Int) > (A0.size : Int) then (C0.size : Int) else (A0.size : Int))) then (M1.size : Int) else (if (D0.size : Int) > (if (C0.size : Int) > (A0.size : Int) then (C0.size : Int) else (A0.size : Int)) then (D0.size : Int) else (if (C0.size : Int) > (A0.size : Int) then (C0.size : Int) else (A0.size : Int)))))), .v 46 (.bool true), .v 47 (.bool true)] [⟨12, 22, fun g => .slice (some ⟨g, 0, none⟩) 3 3, #[.string A1, .string A2, .string A3, .string C1, .string C2, .string C3, .string D1, .string D2, .string D3], 24, none⟩] [⟨g1_0, #[.string A1, .string A2, .string A3, .string A0, .string C1, .string C2, .string C3, .string C0, .string D1, .string D2, .string D3, .string D0], 27, none⟩, ⟨g1_1, #[.string M1, .string M2], 28, none⟩] [] [] [] []) (by kernel_rfl) (by kernel_rfl) ?_ ?_ ?_
  · exact RJ.start rfl B.out (by exact ⟨K0.out, K1.out, trivial⟩)
  · refine ⟨?_, ?_, ?_, ?_, ?_, ?_, ?_, ?_, ?_, ?_, ?_, ?_, ?_, ?_, ?_, ?_, ?_, ?_, ?_, ?_, ?_, ?_, ?_, ?_, ?_, ?_, ?_, ?_, ?_, ?_, ?_, ?_, ?_, ?_, ?_, ?_, ?_, ?_, trivial⟩
    · rintro L a U ho J hn hd KK hK; refine .free rfl ?_; go_simp; go_at_call 11; (with_reducible refine (H_KN.out _ J.bb).mono ?_); rintro e wy ⟨rfl, q⟩; go_simp; exact hK.out _ _ (J.sq 0 rfl rfl q)
    · rintro L a U ho J hn hd KK hK; refine .free rfl ?_; have r10 := J.read 0 rfl (hd 0 rfl); go_simp; exact hK.out _ _ (J.st 1 rfl rfl)
    · rintro L a U ho J hn hd KK hK; refine .free rfl ?_; have r11 := J.read 1 rfl (hd 1 rfl); go_simp; exact hK.out _ _ (J.st 2 rfl rfl)
    · rintro L a U ho J hn hd KK hK; refine .pos (s := 12) rfl rfl (J.vals 2 _ _ rfl (hd 2 rfl)) ?_; have r2 : a.tmps[(2 : Nat)]?.getD undef = .pointer (some ⟨g1_0, 0, none⟩) := ho.slot 2 rfl; go_simp; exact hK.out _ _ (J.st 3 rfl rfl)
    · rintro L a U ho J hn hd KK hK; refine .pos (s := 12) rfl rfl (J.vals 2 _ _ rfl (hd 2 rfl)) ?_; have r13 := J.read 3 rfl (hd 3 rfl); go_simp; exact hK.out _ _ (J.st 4 rfl rfl)
    · rintro L a U ho J hn hd KK hK; refine .pos (s := 12) rfl rfl (J.vals 2 _ _ rfl (hd 2 rfl)) ?_; have r14 := J.read 4 rfl (hd 4 rfl); have kb := (J.eld 0 rfl); have c0 := kb.at_ 0 _ rfl; have c1 := kb.at_ 1 _ rfl; have c2 := kb.at_ 2 _ rfl; clear kb; go_simp; exact hK.out _ _ (J.st 5 rfl rfl)
    · rintro L a U ho J hn hd KK hK; refine .pos (s := 12) rfl rfl (J.vals 2 _ _ rfl (hd 2 rfl)) ?_; have r2 : a.tmps[(2 : Nat)]?.getD undef = .pointer (some ⟨g1_0, 0, none⟩) := ho.slot 2 rfl; go_simp; exact hK.out _ _ (J.st 6 rfl rfl)
    · rintro L a U ho J hn hd KK hK; refine .pos (s := 12) rfl rfl (J.vals 2 _ _ rfl (hd 2 rfl)) ?_; have r16 := J.read 6 rfl (hd 6 rfl); go_simp; exact hK.out _ _ (J.st 7 rfl rfl)
    · rintro L a U ho J hn hd KK hK; refine .pos (s := 12) rfl rfl (J.vals 2 _ _ rfl (hd 2 rfl)) ?_; have r17 := J.read 7 rfl (hd 7 rfl); have kb := (J.eld 0 rfl); have c4 := kb.at_ 4 _ rfl; have c5 := kb.at_ 5 _ rfl; have c6 := kb.at_ 6 _ rfl; clear kb; go_simp; exact hK.out _ _ (J.st 8 rfl rfl)
    · rintro L a U ho J hn hd KK hK; refine .pos (s := 12) rfl rfl (J.vals 2 _ _ rfl (hd 2 rfl)) ?_; have r2 : a.tmps[(2 : Nat)]?.getD undef = .pointer (some ⟨g1_0, 0, none⟩) := ho.slot 2 rfl; go_simp; exact hK.out _ _ (J.st 9 rfl rfl)
    · rintro L a U ho J hn hd KK hK; refine .pos (s := 12) rfl rfl (J.vals 2 _ _ rfl (hd 2 rfl)) ?_; have r19 := J.read 9 rfl (hd 9 rfl); go_simp; exact hK.out _ _ (J.st 10 rfl rfl)
    · rintro L a U ho J hn hd KK hK; refine .pos (s := 12) rfl rfl (J.vals 2 _ _ rfl (hd 2 rfl)) ?_; have r20 := J.read 10 rfl (hd 10 rfl); have kb := (J.eld 0 rfl); have c8 := kb.at_ 8 _ rfl; have c9 := kb.at_ 9 _ rfl; have c10 := kb.at_ 10 _ rfl; clear kb; go_simp; exact hK.out _ _ (J.st 11 rfl rfl)
    · rintro L a U ho J hn hd KK hK; refine .pos (s := 12) rfl rfl (J.vals 2 _ _ rfl (hd 2 rfl)) ?_; have r15 := J.read 5 rfl (hd 5 rfl); have r18 := J.read 8 rfl (hd 8 rfl); have r21 := J.read 11 rfl (hd 11 rfl); go_simp; exact hK.out _ _ (J.mf 12 0 rfl rfl rfl rfl rfl hn)
    · rintro L a U ho J hn hd KK hK; refine .pos (s := 12) rfl rfl (J.vals 2 _ _ rfl (hd 2 rfl)) ?_; have r22 : a.tmps[(22 : Nat)]?.getD undef = .slice (some ⟨(blkOf (slotOf a 22)), 0, none⟩) 3 3 := J.readN 0 rfl (hd 12 rfl); go_simp; go_at_call 12; (with_reducible refine (H_BR.out _ _ (J.nw 0 rfl (hd 12 rfl)).blk J.bb).mono ?_); rintro e wy ⟨rfl, q⟩; go_simp; exact hK.out _ _ (J.sq 13 rfl rfl q)
    · rintro L a U ho J hn hd KK hK; refine .pos (s := 12) rfl rfl (J.vals 2 _ _ rfl (hd 2 rfl)) ?_; have r23 := J.read 13 rfl (hd 13 rfl); go_simp; exact hK.out _ _ (J.st 14 rfl rfl)
    · rintro L a U ho J hn hd KK hK; refine .free rfl ?_; have r12 := J.read 2 rfl (hd 2 rfl); have r24 := J.read 14 rfl (hd 14 rfl); go_simp; exact hK.out _ _ (J.st 15 rfl rfl)
    · rintro L a U ho J hn hd KK hK; refine .free rfl ?_; have r25 := J.read 15 rfl (hd 15 rfl); go_simp; exact hK.out _ _ (J.st 16 rfl rfl)
    · rintro L a U ho J hn hd KK hK; refine .pos (s := 26) rfl rfl (J.vals 16 _ _ rfl (hd 16 rfl)) ?_; have r2 : a.tmps[(2 : Nat)]?.getD undef = .pointer (some ⟨g1_0, 0, none⟩) := ho.slot 2 rfl; go_simp; exact hK.out _ _ (J.st 17 rfl rfl)
    · rintro L a U ho J hn hd KK hK; refine .pos (s := 26) rfl rfl (J.vals 16 _ _ rfl (hd 16 rfl)) ?_; have r27 := J.read 17 rfl (hd 17 rfl); go_simp; exact hK.out _ _ (J.st 18 rfl rfl)
    · rintro L a U ho J hn hd KK hK; refine .pos (s := 26) rfl rfl (J.vals 16 _ _ rfl (hd 16 rfl)) ?_; have r28 := J.read 18 rfl (hd 18 rfl); have kb := (J.eld 0 rfl); have c3 := kb.at_ 3 _ rfl; clear kb; go_simp; exact hK.out _ _ (J.st 19 rfl rfl)
    · rintro L a U ho J hn hd KK hK; refine .pos (s := 26) rfl rfl (J.vals 16 _ _ rfl (hd 16 rfl)) ?_; have r29 := J.read 19 rfl (hd 19 rfl); go_simp; exact hK.out _ _ (J.st 20 rfl rfl)
    · rintro L a U ho J hn hd KK hK; refine .pos (s := 26) rfl rfl (J.vals 16 _ _ rfl (hd 16 rfl)) ?_; have r2 : a.tmps[(2 : Nat)]?.getD undef = .pointer (some ⟨g1_0, 0, none⟩) := ho.slot 2 rfl; go_simp; exact hK.out _ _ (J.st 21 rfl rfl)
    · rintro L a U ho J hn hd KK hK; refine .pos (s := 26) rfl rfl (J.vals 16 _ _ rfl (hd 16 rfl)) ?_; have r31 := J.read 21 rfl (hd 21 rfl); go_simp; exact hK.out _ _ (J.st 22 rfl rfl)
    · rintro L a U ho J hn hd KK hK; refine .pos (s := 26) rfl rfl (J.vals 16 _ _ rfl (hd 16 rfl)) ?_; have r32 := J.read 22 rfl (hd 22 rfl); have kb := (J.eld 0 rfl); have c7 := kb.at_ 7 _ rfl; clear kb; go_simp; exact hK.out _ _ (J.st 23 rfl rfl)
    · rintro L a U ho J hn hd KK hK; refine .pos (s := 26) rfl rfl (J.vals 16 _ _ rfl (hd 16 rfl)) ?_; have r33 := J.read 23 rfl (hd 23 rfl); go_simp; exact hK.out _ _ (J.st 24 rfl rfl)
    · rintro L a U ho J hn hd KK hK; refine .pos (s := 26) rfl rfl (J.vals 16 _ _ rfl (hd 16 rfl)) ?_; have r2 : a.tmps[(2 : Nat)]?.getD undef = .pointer (some ⟨g1_0, 0, none⟩) := ho.slot 2 rfl; go_simp; exact hK.out _ _ (J.st 25 rfl rfl)
    · rintro L a U ho J hn hd KK hK; refine .pos (s := 26) rfl rfl (J.vals 16 _ _ rfl (hd 16 rfl)) ?_; have r35 := J.read 25 rfl (hd 25 rfl); go_simp; exact hK.out _ _ (J.st 26 rfl rfl)
    · rintro L a U ho J hn hd KK hK; refine .pos (s := 26) rfl rfl (J.vals 16 _ _ rfl (hd 16 rfl)) ?_; have r36 := J.read 26 rfl (hd 26 rfl); have kb := (J.eld 0 rfl); have c11 := kb.at_ 11 _ rfl; clear kb; go_simp; exact hK.out _ _ (J.st 27 rfl rfl)
    · rintro L a U ho J hn hd KK hK; refine .pos (s := 26) rfl rfl (J.vals 16 _ _ rfl (hd 16 rfl)) ?_; have r37 := J.read 27 rfl (hd 27 rfl); go_simp; exact hK.out _ _ (J.st 28 rfl rfl)
    · rintro L a U ho J hn hd KK hK; refine .pos (s := 26) rfl rfl (J.vals 16 _ _ rfl (hd 16 rfl)) ?_; have r3 : a.tmps[(3 : Nat)]?.getD undef = .pointer (some ⟨g1_1, 0, none⟩) := ho.slot 3 rfl; go_simp; exact hK.out _ _ (J.st 29 rfl rfl)
    · rintro L a U ho J hn hd KK hK; refine .pos (s := 26) rfl rfl (J.vals 16 _ _ rfl (hd 16 rfl)) ?_; have r39 := J.read 29 rfl (hd 29 rfl); have kb := (J.eld 1 rfl); have c0 := kb.at_ 0 _ rfl; clear kb; go_simp; exact hK.out _ _ (J.st 30 rfl rfl)
    · rintro L a U ho J hn hd KK hK; refine .pos (s := 26) rfl rfl (J.vals 16 _ _ rfl (hd 16 rfl)) ?_; have r40 := J.read 30 rfl (hd 30 rfl); go_simp; exact hK.out _ _ (J.st 31 rfl rfl)
    · rintro L a U ho J hn hd KK hK; refine .pos (s := 26) rfl rfl (J.vals 16 _ _ rfl (hd 16 rfl)) ?_; have r3 : a.tmps[(3 : Nat)]?.getD undef = .pointer (some ⟨g1_1, 0, none⟩) := ho.slot 3 rfl; go_simp; exact hK.out _ _ (J.st 32 rfl rfl)
    · rintro L a U ho J hn hd KK hK; refine .pos (s := 26) rfl rfl (J.vals 16 _ _ rfl (hd 16 rfl)) ?_; have r42 := J.read 32 rfl (hd 32 rfl); have kb := (J.eld 1 rfl); have c1 := kb.at_ 1 _ rfl; clear kb; go_simp; exact hK.out _ _ (J.st 33 rfl rfl)
    · rintro L a U ho J hn hd KK hK; refine .pos (s := 26) rfl rfl (J.vals 16 _ _ rfl (hd 16 rfl)) ?_; have r43 := J.read 33 rfl (hd 33 rfl); go_simp; exact hK.out _ _ (J.st 34 rfl rfl)
    · rintro L a U ho J hn hd KK hK; refine .pos (s := 26) rfl rfl (J.vals 16 _ _ rfl (hd 16 rfl)) ?_; have r30 := J.read 20 rfl (hd 20 rfl); have r34 := J.read 24 rfl (hd 24 rfl); have r38 := J.read 28 rfl (hd 28 rfl); have r41 := J.read 31 rfl (hd 31 rfl); have r44 := J.read 34 rfl (hd 34 rfl); go_simp; exact hK.out _ _ (J.st 35 rfl rfl)
    · rintro L a U ho J hn hd KK hK; refine .pos (s := 26) rfl rfl (J.vals 16 _ _ rfl (hd 16 rfl)) ?_; have r45 := J.read 35 rfl (hd 35 rfl); go_simp; exact hK.out _ _ (J.st 36 rfl rfl)
    · rintro L a U ho J hn hd KK hK; refine .free rfl ?_; have r26 := J.read 16 rfl (hd 16 rfl); have r46 := J.read 36 rfl (hd 36 rfl); go_simp; exact hK.out _ _ (J.st 37 rfl rfl)
  rintro L σ W2 J hL
  have hf := J.fin rfl hL
  simp only [finR] at hf
  obtain ⟨e2, l2, k2⟩ := J.nw 0 rfl (hL 12 (by decide))
  replace K0 := Lib.hid (J.eld 0 rfl)
  replace K1 := Lib.hid (J.eld 1 rfl)
  have low := J.low
  replace B := Lib.hid J.bb
  clear J hL
  try dsimp only at e2
  generalize blkOf (σ 22) = g2_12 at *
  have K2 := Lib.hid k2
  have L2 := Lib.hid (Nat.le_trans low l2)
  clear lt0 lt1 l2 k2 low
  rw [show List.map σ [10, 11, 12, 13, 14, 15, 16, 17, 18, 19, 20, 21, 22, 23, 24, 25, 26, 27, 28, 29, 30, 31, 32, 33, 34, 35, 36, 37, 38, 39, 40, 41, 42, 43, 44, 45, 46, 47] = _ from hf, e2]
  clear hf e2
  simp only [putAll, List.map, Act.put, List.setIfInBounds_toArray, List.set_cons_succ, List.set_cons_zero]
  generalize (if (M2.size : Int) > (if (M1.size : Int) > (if (D0.size : Int) > (if (C0.size : Int) > (A0.size : Int) then (C0.size : Int) else (A0.size : Int)) then (D0.size : Int) else (if (C0.size : Int) > (A0.size : Int) then (C0.size : Int) else (A0.size : Int))) then (M1.size : Int) else (if (D0.size : Int) > (if (C0.size : Int) > (A0.size : Int) then (C0.size : Int) else (A0.size : Int)) then (D0.size : Int) else (if (C0.size : Int) > (A0.size : Int) then (C0.size : Int) else (A0.size : Int)))) then (M2.size : Int) else (if (M1.size : Int) > (if (D0.size : Int) > (if (C0.size : Int) > (A0.size : Int) then (C0.size : Int) else (A0.size : Int)) then (D0.size : Int) else (if (C0.size : Int) > (A0.size : Int) then (C0.size : Int) else (A0.size : Int))) then (M1.size : Int) else (if (D0.size : Int) > (if (C0.size : Int) > (A0.size : Int) then (C0.size : Int) else (A0.size : Int)) then (D0.size : Int) else (if (C0.size : Int) > (A0.size : Int) then (C0.size : Int) else (A0.size : Int))))) = mx
  go_wp2_with (
   (first
    | (go_at_call 11; with_reducible refine (H_KN.out _ (baseI B.out)).mono ?_)
    | fail "arm"); rintro e wx ⟨rfl, q⟩; replace K0 := Lib.hid (K0.out.nearI q); replace K1 := Lib.hid (K1.out.nearI q); replace K2 := Lib.hid (K2.out.nearI q); replace B := Lib.hid (goI B.out q); clear q)
  go_ret
  exact ⟨rfl, B.out⟩

set_option maxRecDepth 100000 in
set_option maxHeartbeats 20000000 in
theorem solves_of (A1 A2 A3 A0 C1 C2 C3 C0 D1 D2 D3 D0 M1 M2 X1 X2 X3 T O1 O2 O3 P Q : ByteArray) (er : Int) (ok nu az : Bool) (w : World)
    (hm : decide ((8 : Int) < (if (if (if (if A0.size < C0.size then (C0.size : Int) else (A0.size : Int)) < (D0.size : Int) then (D0.size : Int) else (if A0.size < C0.size then (C0.size : Int) else (A0.size : Int))) < (M1.size : Int) then (M1.size : Int) else (if (if A0.size < C0.size then (C0.size : Int) else (A0.size : Int)) < (D0.size : Int) then (D0.size : Int) else (if A0.size < C0.size then (C0.size : Int) else (A0.size : Int)))) < (M2.size : Int) then (M2.size : Int) else (if (if (if A0.size < C0.size then (C0.size : Int) else (A0.size : Int)) < (D0.size : Int) then (D0.size : Int) else (if A0.size < C0.size then (C0.size : Int) else (A0.size : Int))) < (M1.size : Int) then (M1.size : Int) else (if (if A0.size < C0.size then (C0.size : Int) else (A0.size : Int)) < (D0.size : Int) then (D0.size : Int) else (if A0.size < C0.size then (C0.size : Int) else (A0.size : Int)))))) = false)
    (f1 : ¬ ok = true → ¬ nu = true → (er == 2) = true)
    (f2 : ¬ ok = true → nu = true → az = true → (er == 17) = true)
    (f3 : ¬ ok = true → nu = true → ¬ az = true → (er == 18) = true)
    (f4 : ¬ ok = true → nu = true → ¬ az = true → (T.toList == [48]) = true)
    (g1 : ok = true → nu = true ∧ ¬ az = true)
    (g2 : ok = true → (T.toList == [48]) = false)
    (g3 : ok = true → (O1.toList == []) = false)
    (g4 : ok = true → O1.toList.isEmpty = false)
    (h_kn : ∀ (W : World), Below w.heap.size w W → Calls Tryz.prog 11 #[] W fun e w' => e = .returned (.bool true) ∧ Below W.heap.size W w')
    (h_br : ∀ (W : World) (b0 : Nat), Blk W b0 #[.string A1, .string A2, .string A3, .string C1, .string C2, .string C3, .string D1, .string D2, .string D3] 24 → Below w.heap.size w W → Calls Tryz.prog 12 #[.slice (some ⟨b0, 0, none⟩) 3 3] W fun e w' => e = .returned (.bool true) ∧ Below W.heap.size W w')
    (h_se : ¬ ok = true → ∀ (W : World), Below w.heap.size w W → Calls Tryz.prog 13 #[.agg #[.string A1, .string A2, .string A3, .string A0], .agg #[.string C1, .string C2, .string C3, .string C0, .string M1], .agg #[.string D1, .string D2, .string D3, .string D0, .string M2]] W fun e w' => e = .returned (.tuple #[.agg #[.string ⟨#[]⟩, .string ⟨#[]⟩, .string ⟨#[]⟩], .int .i64 er]) ∧ Below W.heap.size W w')
    (h_so : ok = true → ∀ (W : World), Below w.heap.size w W → Calls Tryz.prog 13 #[.agg #[.string A1, .string A2, .string A3, .string A0], .agg #[.string C1, .string C2, .string C3, .string C0, .string M1], .agg #[.string D1, .string D2, .string D3, .string D0, .string M2]] W fun e w' => e = .returned (.tuple #[.agg #[.string O1, .string O2, .string O3], .int .i64 0]) ∧ Below W.heap.size W w')
    (h_nf : ¬ nu = true → ∀ (W : World) (b0 : Nat) (b1 : Nat), Blk W b0 #[.string A1, .string A2, .string A3, .string C1, .string C2, .string C3, .string D1, .string D2, .string D3] 24 → Blk W b1 #[.string A0, .string C0, .string D0, .string M1, .string M2] 22 → Below w.heap.size w W → Calls Tryz.prog 14 #[.slice (some ⟨b0, 0, none⟩) 3 3, .slice (some ⟨b1, 0, none⟩) 5 5] W fun e w' => e = .returned (.bool false) ∧ Below W.heap.size W w')
    (h_nu : nu = true → ∀ (W : World) (b0 : Nat) (b1 : Nat), Blk W b0 #[.string A1, .string A2, .string A3, .string C1, .string C2, .string C3, .string D1, .string D2, .string D3] 24 → Blk W b1 #[.string A0, .string C0, .string D0, .string M1, .string M2] 22 → Below w.heap.size w W → Calls Tryz.prog 14 #[.slice (some ⟨b0, 0, none⟩) 3 3, .slice (some ⟨b1, 0, none⟩) 5 5] W fun e w' => e = .returned (.bool true) ∧ Below W.heap.size W w')
    (h_at : nu = true ∧ az = true → ∀ (W : World) (b0 : Nat), Blk W b0 #[.string A1, .string A2, .string A3, .string C1, .string C2, .string C3, .string D1, .string D2, .string D3] 24 → Below w.heap.size w W → Calls Tryz.prog 15 #[.slice (some ⟨b0, 0, none⟩) 3 3, .func (.func 16) #[] #[]] W fun e w' => e = .returned (.bool true) ∧ Below W.heap.size W w')
    (h_az : nu = true ∧ ¬ az = true → ∀ (W : World) (b0 : Nat), Blk W b0 #[.string A1, .string A2, .string A3, .string C1, .string C2, .string C3, .string D1, .string D2, .string D3] 24 → Below w.heap.size w W → Calls Tryz.prog 15 #[.slice (some ⟨b0, 0, none⟩) 3 3, .func (.func 16) #[] #[]] W fun e w' => e = .returned (.bool false) ∧ Below W.heap.size W w')
    (h_cx : nu = true ∧ ¬ az = true → ∀ (W : World), Below w.heap.size w W → Calls Tryz.prog 18 #[.agg #[.string C1, .string C2, .string C3], .agg #[.string D1, .string D2, .string D3]] W fun e w' => e = .returned (.agg #[.string X1, .string X2, .string X3]) ∧ Below W.heap.size W w')
    (h_dx : nu = true ∧ ¬ az = true → ∀ (W : World), Below w.heap.size w W → Calls Tryz.prog 17 #[.agg #[.string A1, .string A2, .string A3], .agg #[.string X1, .string X2, .string X3]] W fun e w' => e = .returned (.string T) ∧ Below W.heap.size W w')
    (h_ri : ok = true → ∀ (W : World), Below w.heap.size w W → Calls Tryz.prog 19 #[.agg #[.string O1, .string O2, .string O3]] W fun e w' => e = .returned (.bool true) ∧ Below W.heap.size W w')
    (h_d0 : ok = true → ∀ (W : World), Below w.heap.size w W → Calls Tryz.prog 17 #[.agg #[.string A1, .string A2, .string A3], .agg #[.string O1, .string O2, .string O3]] W fun e w' => e = .returned (.string ⟨#[48]⟩) ∧ Below W.heap.size W w')
    (h_d1 : ok = true → ∀ (W : World), Below w.heap.size w W → Calls Tryz.prog 17 #[.agg #[.string C1, .string C2, .string C3], .agg #[.string O1, .string O2, .string O3]] W fun e w' => e = .returned (.string P) ∧ Below W.heap.size W w')
    (h_d2 : ok = true → ∀ (W : World), Below w.heap.size w W → Calls Tryz.prog 17 #[.agg #[.string D1, .string D2, .string D3], .agg #[.string O1, .string O2, .string O3]] W fun e w' => e = .returned (.string Q) ∧ Below W.heap.size W w')
    (h_u1 : ok = true → ∀ (W : World), Below w.heap.size w W → Calls Tryz.prog 20 #[.string M1, .string C0] W fun e w' => e = .returned (.string P) ∧ Below W.heap.size W w')
    (h_u2 : ok = true → ∀ (W : World), Below w.heap.size w W → Calls Tryz.prog 20 #[.string M2, .string D0] W fun e w' => e = .returned (.string Q) ∧ Below W.heap.size W w') :
    Calls Tryz.prog 3 #[.agg #[.string A1, .string A2, .string A3, .string A0, .string C1, .string C2, .string C3, .string C0, .string D1, .string D2, .string D3, .string D0], .agg #[.string M1, .string M2]] w fun e w' => e = .returned (.bool true) ∧ Below w.heap.size w w' := by
  have H_KN := Lib.hid h_kn
  have H_BR := Lib.hid h_br
  clear h_kn h_br
  have B := Lib.hid (Below.refl w.heap.size w)
  go_enter Tryz.func3, Tryz.ntmps3
  go_upto_region 0 with (fail)
  refine wp_region_seq2 [2, 3, 4] (RJ w w.heap.size [.n 2, .n 3, .v 4 (.bool false)] [⟨0, 2, fun g => .pointer (some ⟨g, 0, none⟩), #[.string A1, .string A2, .string A3, .string A0, .string C1, .string C2, .string C3, .string C0, .string D1, .string D2, .string D3, .string D0], 27, none⟩, ⟨1, 3, fun g => .pointer (some ⟨g, 0, none⟩), #[.string M1, .string M2], 28, none⟩] [] [] [] [] []) (by kernel_rfl) (by kernel_rfl) ?_ ?_ ?_
  · exact RJ.start rfl B.out (by exact trivial)
  · refine ⟨?_, ?_, ?_, trivial⟩
    · rintro L a U ho J hn hd KK hK; refine .free rfl ?_; have r0 : a.tmps[(0 : Nat)]?.getD undef = .agg #[.string A1, .string A2, .string A3, .string A0, .string C1, .string C2, .string C3, .string C0, .string D1, .string D2, .string D3, .string D0] := ho.slot 0 rfl; go_simp; exact hK.out _ _ (J.mf 0 0 rfl rfl rfl rfl rfl hn)
    · rintro L a U ho J hn hd KK hK; refine .free rfl ?_; have r1 : a.tmps[(1 : Nat)]?.getD undef = .agg #[.string M1, .string M2] := ho.slot 1 rfl; go_simp; exact hK.out _ _ (J.mf 1 1 rfl rfl rfl rfl rfl hn)
    · rintro L a U ho J hn hd KK hK; refine .free rfl ?_; go_simp; exact hK.out _ _ (J.st 2 rfl rfl)
  rintro L σ W1 J hL
  have hf := J.fin rfl hL
  simp only [finR] at hf
  obtain ⟨e0, l0, k0⟩ := J.nw 0 rfl (hL 0 (by decide))
  obtain ⟨e1, l1, k1⟩ := J.nw 1 rfl (hL 1 (by decide))
  have low := J.low
  replace B := Lib.hid J.bb
  clear J hL
  try dsimp only at e0 e1
  generalize blkOf (σ 2) = g1_0 at *
  generalize blkOf (σ 3) = g1_1 at *
  have K0 := Lib.hid k0
  have L0 := Lib.hid (Nat.le_trans low l0)
  have K1 := Lib.hid k1
  have L1 := Lib.hid (Nat.le_trans low l1)
  clear l0 l1 k0 k1 low
  rw [show List.map σ [2, 3, 4] = _ from hf, e0, e1]
  clear hf e0 e1
  simp only [putAll, List.map, Act.put, List.setIfInBounds_toArray, List.set_cons_succ, List.set_cons_zero]
  go_upto_region 1 with (fail)
  have lt0 := K0.out.lt
  have lt1 := K1.out.lt
  refine wp_region_seq2 [10, 11, 12, 13, 14, 15, 16, 17, 18, 19, 20, 21, 22, 23, 24, 25, 26, 27, 28, 29, 30, 31, 32, 33, 34, 35, 36, 37, 38, 39, 40, 41, 42, 43, 44, 45, 46, 47] (RJ w W1.heap.size [.v 10 (.bool true), .v 11 (.bool false), .v 12 (.bool false), .v 13 (.pointer (some ⟨g1_0, 0, none⟩)), .v 14 (.pointer (some ⟨g1_0, 0, none⟩)), .v 15 (.agg #[.string A1, .string A2, .string A3]), .v 16 (.pointer (some ⟨g1_0, 4, none⟩)), .v 17 (.pointer (some ⟨g1_0, 4, none⟩)), .v 18 (.agg #[.string C1, .string C2, .string C3]), .v 19 (.pointer (some ⟨g1_0, 8, none⟩)), .v 20 (.pointer (some ⟨g1_0, 8, none⟩)), .v 21 (.agg #[.string D1, .string D2, .string D3]), .n 22, .v 23 (.bool true), .v 24 (.bool false), .v 25 (.bool false), .v 26 (.bool false), .v 27 (.pointer (some ⟨g1_0, 0, none⟩)), .v 28 (.pointer (some ⟨g1_0, 3, none⟩)), .v 29 (.string A0), .v 30 (.int .i64 (A0.size : Int)), .v 31 (.pointer (some ⟨g1_0, 4, none⟩)), .v 32 (.pointer (some ⟨g1_0, 7, none⟩)), .v 33 (.string C0), .v 34 (.int .i64 (C0.size : Int)), .v 35 (.pointer (some ⟨g1_0, 8, none⟩)), .v 36 (.pointer (some ⟨g1_0, 11, none⟩)), .v 37 (.string D0), .v 38 (.int .i64 (D0.size : Int)), .v 39 (.pointer (some ⟨g1_1, 0, none⟩)), .v 40 (.string M1), .v 41 (.int .i64 (M1.size : Int)), .v 42 (.pointer (some ⟨g1_1, 1, none⟩)), .v 43 (.string M2), .v 44 (.int .i64 (M2.size : Int)), .v 45 (.int .i64 (if (M2.size : Int) > (if (M1.size : Int) > (if (D0.size : Int) > (if (C0.size : Int) > (A0.size : Int) then (C0.size : Int) else (A0.size : Int)) then (D0.size : Int) else (if (C0.size : Int) > (A0.size : Int) then (C0.size : Int) else (A0.size : Int))) then (M1.size : Int) else (if (D0.size : Int) > (if (C0.size : Int) > (A0.size : Int) then (C0.size : Int) else (A0.size : Int)) then (D0.size : Int) else (if (C0.size : Int) > (A0.size : Int) then (C0.size : Int) else (A0.size : Int)))) then (M2.size : Int) else (if (M1.size : Int) > (if (D0.size : Int) > (if (C0.size : Int) > (A0.size : Int) then (C0.size : Int) else (A0.size : Int)) then (D0.size : Int) else (if (C0.size : Int) > (A0.size : Int) then (C0.size : Int) else (A0.size : Int))) then (M1.size : Int) else (if (D0.size : Int) > (if (C0.size : Int) > (A0.size : Int) then (C0.size : Int) else (A0.size : Int)) then (D0.size : Int) else (if (C0.size : Int) > (A0.size : Int) then (C0.size : Int) else (A0.size : Int)))))), .v 46 (.bool false), .v 47 (.bool false)] [⟨12, 22, fun g => .slice (some ⟨g, 0, none⟩) 3 3, #[.string A1, .string A2, .string A3, .string C1, .string C2, .string C3, .string D1, .string D2, .string D3], 24, none⟩] [⟨g1_0, #[.string A1, .string A2, .string A3, .string A0, .string C1, .string C2, .string C3, .string C0, .string D1, .string D2, .string D3, .string D0], 27, none⟩, ⟨g1_1, #[.string M1, .string M2], 28, none⟩] [] [] [] []) (by kernel_rfl) (by kernel_rfl) ?_ ?_ ?_
  · exact RJ.start rfl B.out (by exact ⟨K0.out, K1.out, trivial⟩)
  · refine ⟨?_, ?_, ?_, ?_, ?_, ?_, ?_, ?_, ?_, ?_, ?_, ?_, ?_, ?_, ?_, ?_, ?_, ?_, ?_, ?_, ?_, ?_, ?_, ?_, ?_, ?_, ?_, ?_, ?_, ?_, ?_, ?_, ?_, ?_, ?_, ?_, ?_, ?_, trivial⟩
    · rintro L a U ho J hn hd KK hK; refine .free rfl ?_; go_simp; go_at_call 11; (with_reducible refine (H_KN.out _ J.bb).mono ?_); rintro e wy ⟨rfl, q⟩; go_simp; exact hK.out _ _ (J.sq 0 rfl rfl q)
    · rintro L a U ho J hn hd KK hK; refine .free rfl ?_; have r10 := J.read 0 rfl (hd 0 rfl); go_simp; exact hK.out _ _ (J.st 1 rfl rfl)
    · rintro L a U ho J hn hd KK hK; refine .free rfl ?_; have r11 := J.read 1 rfl (hd 1 rfl); go_simp; exact hK.out _ _ (J.st 2 rfl rfl)
    · rintro L a U ho J hn hd KK hK; refine .pos (s := 12) rfl rfl (J.vals 2 _ _ rfl (hd 2 rfl)) ?_; have r2 : a.tmps[(2 : Nat)]?.getD undef = .pointer (some ⟨g1_0, 0, none⟩) := ho.slot 2 rfl; go_simp; exact hK.out _ _ (J.st 3 rfl rfl)
    · rintro L a U ho J hn hd KK hK; refine .pos (s := 12) rfl rfl (J.vals 2 _ _ rfl (hd 2 rfl)) ?_; have r13 := J.read 3 rfl (hd 3 rfl); go_simp; exact hK.out _ _ (J.st 4 rfl rfl)
    · rintro L a U ho J hn hd KK hK; refine .pos (s := 12) rfl rfl (J.vals 2 _ _ rfl (hd 2 rfl)) ?_; have r14 := J.read 4 rfl (hd 4 rfl); have kb := (J.eld 0 rfl); have c0 := kb.at_ 0 _ rfl; have c1 := kb.at_ 1 _ rfl; have c2 := kb.at_ 2 _ rfl; clear kb; go_simp; exact hK.out _ _ (J.st 5 rfl rfl)
    · rintro L a U ho J hn hd KK hK; refine .pos (s := 12) rfl rfl (J.vals 2 _ _ rfl (hd 2 rfl)) ?_; have r2 : a.tmps[(2 : Nat)]?.getD undef = .pointer (some ⟨g1_0, 0, none⟩) := ho.slot 2 rfl; go_simp; exact hK.out _ _ (J.st 6 rfl rfl)
    · rintro L a U ho J hn hd KK hK; refine .pos (s := 12) rfl rfl (J.vals 2 _ _ rfl (hd 2 rfl)) ?_; have r16 := J.read 6 rfl (hd 6 rfl); go_simp; exact hK.out _ _ (J.st 7 rfl rfl)
    · rintro L a U ho J hn hd KK hK; refine .pos (s := 12) rfl rfl (J.vals 2 _ _ rfl (hd 2 rfl)) ?_; have r17 := J.read 7 rfl (hd 7 rfl); have kb := (J.eld 0 rfl); have c4 := kb.at_ 4 _ rfl; have c5 := kb.at_ 5 _ rfl; have c6 := kb.at_ 6 _ rfl; clear kb; go_simp; exact hK.out _ _ (J.st 8 rfl rfl)
    · rintro L a U ho J hn hd KK hK; refine .pos (s := 12) rfl rfl (J.vals 2 _ _ rfl (hd 2 rfl)) ?_; have r2 : a.tmps[(2 : Nat)]?.getD undef = .pointer (some ⟨g1_0, 0, none⟩) := ho.slot 2 rfl; go_simp; exact hK.out _ _ (J.st 9 rfl rfl)
    · rintro L a U ho J hn hd KK hK; refine .pos (s := 12) rfl rfl (J.vals 2 _ _ rfl (hd 2 rfl)) ?_; have r19 := J.read 9 rfl (hd 9 rfl); go_simp; exact hK.out _ _ (J.st 10 rfl rfl)
    · rintro L a U ho J hn hd KK hK; refine .pos (s := 12) rfl rfl (J.vals 2 _ _ rfl (hd 2 rfl)) ?_; have r20 := J.read 10 rfl (hd 10 rfl); have kb := (J.eld 0 rfl); have c8 := kb.at_ 8 _ rfl; have c9 := kb.at_ 9 _ rfl; have c10 := kb.at_ 10 _ rfl; clear kb; go_simp; exact hK.out _ _ (J.st 11 rfl rfl)
    · rintro L a U ho J hn hd KK hK; refine .pos (s := 12) rfl rfl (J.vals 2 _ _ rfl (hd 2 rfl)) ?_; have r15 := J.read 5 rfl (hd 5 rfl); have r18 := J.read 8 rfl (hd 8 rfl); have r21 := J.read 11 rfl (hd 11 rfl); go_simp; exact hK.out _ _ (J.mf 12 0 rfl rfl rfl rfl rfl hn)
    · rintro L a U ho J hn hd KK hK; refine .pos (s := 12) rfl rfl (J.vals 2 _ _ rfl (hd 2 rfl)) ?_; have r22 : a.tmps[(22 : Nat)]?.getD undef = .slice (some ⟨(blkOf (slotOf a 22)), 0, none⟩) 3 3 := J.readN 0 rfl (hd 12 rfl); go_simp; go_at_call 12; (with_reducible refine (H_BR.out _ _ (J.nw 0 rfl (hd 12 rfl)).blk J.bb).mono ?_); rintro e wy ⟨rfl, q⟩; go_simp; exact hK.out _ _ (J.sq 13 rfl rfl q)
    · rintro L a U ho J hn hd KK hK; refine .pos (s := 12) rfl rfl (J.vals 2 _ _ rfl (hd 2 rfl)) ?_; have r23 := J.read 13 rfl (hd 13 rfl); go_simp; exact hK.out _ _ (J.st 14 rfl rfl)
    · rintro L a U ho J hn hd KK hK; refine .free rfl ?_; have r12 := J.read 2 rfl (hd 2 rfl); have r24 := J.read 14 rfl (hd 14 rfl); go_simp; exact hK.out _ _ (J.st 15 rfl rfl)
    · rintro L a U ho J hn hd KK hK; refine .free rfl ?_; have r25 := J.read 15 rfl (hd 15 rfl); go_simp; exact hK.out _ _ (J.st 16 rfl rfl)
    · rintro L a U ho J hn hd KK hK; refine .pos (s := 26) rfl rfl (J.vals 16 _ _ rfl (hd 16 rfl)) ?_; have r2 : a.tmps[(2 : Nat)]?.getD undef = .pointer (some ⟨g1_0, 0, none⟩) := ho.slot 2 rfl; go_simp; exact hK.out _ _ (J.st 17 rfl rfl)
    · rintro L a U ho J hn hd KK hK; refine .pos (s := 26) rfl rfl (J.vals 16 _ _ rfl (hd 16 rfl)) ?_; have r27 := J.read 17 rfl (hd 17 rfl); go_simp; exact hK.out _ _ (J.st 18 rfl rfl)
    · rintro L a U ho J hn hd KK hK; refine .pos (s := 26) rfl rfl (J.vals 16 _ _ rfl (hd 16 rfl)) ?_; have r28 := J.read 18 rfl (hd 18 rfl); have kb := (J.eld 0 rfl); have c3 := kb.at_ 3 _ rfl; clear kb; go_simp; exact hK.out _ _ (J.st 19 rfl rfl)
    · rintro L a U ho J hn hd KK hK; refine .pos (s := 26) rfl rfl (J.vals 16 _ _ rfl (hd 16 rfl)) ?_; have r29 := J.read 19 rfl (hd 19 rfl); go_simp; exact hK.out _ _ (J.st 20 rfl rfl)
    · rintro L a U ho J hn hd KK hK; refine .pos (s := 26) rfl rfl (J.vals 16 _ _ rfl (hd 16 rfl)) ?_; have r2 : a.tmps[(2 : Nat)]?.getD undef = .pointer (some ⟨g1_0, 0, none⟩) := ho.slot 2 rfl; go_simp; exact hK.out _ _ (J.st 21 rfl rfl)
    · rintro L a U ho J hn hd KK hK; refine .pos (s := 26) rfl rfl (J.vals 16 _ _ rfl (hd 16 rfl)) ?_; have r31 := J.read 21 rfl (hd 21 rfl); go_simp; exact hK.out _ _ (J.st 22 rfl rfl)
    · rintro L a U ho J hn hd KK hK; refine .pos (s := 26) rfl rfl (J.vals 16 _ _ rfl (hd 16 rfl)) ?_; have r32 := J.read 22 rfl (hd 22 rfl); have kb := (J.eld 0 rfl); have c7 := kb.at_ 7 _ rfl; clear kb; go_simp; exact hK.out _ _ (J.st 23 rfl rfl)
    · rintro L a U ho J hn hd KK hK; refine .pos (s := 26) rfl rfl (J.vals 16 _ _ rfl (hd 16 rfl)) ?_; have r33 := J.read 23 rfl (hd 23 rfl); go_simp; exact hK.out _ _ (J.st 24 rfl rfl)
    · rintro L a U ho J hn hd KK hK; refine .pos (s := 26) rfl rfl (J.vals 16 _ _ rfl (hd 16 rfl)) ?_; have r2 : a.tmps[(2 : Nat)]?.getD undef = .pointer (some ⟨g1_0, 0, none⟩) := ho.slot 2 rfl; go_simp; exact hK.out _ _ (J.st 25 rfl rfl)
    · rintro L a U ho J hn hd KK hK; refine .pos (s := 26) rfl rfl (J.vals 16 _ _ rfl (hd 16 rfl)) ?_; have r35 := J.read 25 rfl (hd 25 rfl); go_simp; exact hK.out _ _ (J.st 26 rfl rfl)
    · rintro L a U ho J hn hd KK hK; refine .pos (s := 26) rfl rfl (J.vals 16 _ _ rfl (hd 16 rfl)) ?_; have r36 := J.read 26 rfl (hd 26 rfl); have kb := (J.eld 0 rfl); have c11 := kb.at_ 11 _ rfl; clear kb; go_simp; exact hK.out _ _ (J.st 27 rfl rfl)
    · rintro L a U ho J hn hd KK hK; refine .pos (s := 26) rfl rfl (J.vals 16 _ _ rfl (hd 16 rfl)) ?_; have r37 := J.read 27 rfl (hd 27 rfl); go_simp; exact hK.out _ _ (J.st 28 rfl rfl)
    · rintro L a U ho J hn hd KK hK; refine .pos (s := 26) rfl rfl (J.vals 16 _ _ rfl (hd 16 rfl)) ?_; have r3 : a.tmps[(3 : Nat)]?.getD undef = .pointer (some ⟨g1_1, 0, none⟩) := ho.slot 3 rfl; go_simp; exact hK.out _ _ (J.st 29 rfl rfl)
    · rintro L a U ho J hn hd KK hK; refine .pos (s := 26) rfl rfl (J.vals 16 _ _ rfl (hd 16 rfl)) ?_; have r39 := J.read 29 rfl (hd 29 rfl); have kb := (J.eld 1 rfl); have c0 := kb.at_ 0 _ rfl; clear kb; go_simp; exact hK.out _ _ (J.st 30 rfl rfl)
    · rintro L a U ho J hn hd KK hK; refine .pos (s := 26) rfl rfl (J.vals 16 _ _ rfl (hd 16 rfl)) ?_; have r40 := J.read 30 rfl (hd 30 rfl); go_simp; exact hK.out _ _ (J.st 31 rfl rfl)
    · rintro L a U ho J hn hd KK hK; refine .pos (s := 26) rfl rfl (J.vals 16 _ _ rfl (hd 16 rfl)) ?_; have r3 : a.tmps[(3 : Nat)]?.getD undef = .pointer (some ⟨g1_1, 0, none⟩) := ho.slot 3 rfl; go_simp; exact hK.out _ _ (J.st 32 rfl rfl)
    · rintro L a U ho J hn hd KK hK; refine .pos (s := 26) rfl rfl (J.vals 16 _ _ rfl (hd 16 rfl)) ?_; have r42 := J.read 32 rfl (hd 32 rfl); have kb := (J.eld 1 rfl); have c1 := kb.at_ 1 _ rfl; clear kb; go_simp; exact hK.out _ _ (J.st 33 rfl rfl)
    · rintro L a U ho J hn hd KK hK; refine .pos (s := 26) rfl rfl (J.vals 16 _ _ rfl (hd 16 rfl)) ?_; have r43 := J.read 33 rfl (hd 33 rfl); go_simp; exact hK.out _ _ (J.st 34 rfl rfl)
    · rintro L a U ho J hn hd KK hK; refine .pos (s := 26) rfl rfl (J.vals 16 _ _ rfl (hd 16 rfl)) ?_; have r30 := J.read 20 rfl (hd 20 rfl); have r34 := J.read 24 rfl (hd 24 rfl); have r38 := J.read 28 rfl (hd 28 rfl); have r41 := J.read 31 rfl (hd 31 rfl); have r44 := J.read 34 rfl (hd 34 rfl); go_simp; exact hK.out _ _ (J.st 35 rfl rfl)
    · rintro L a U ho J hn hd KK hK; refine .pos (s := 26) rfl rfl (J.vals 16 _ _ rfl (hd 16 rfl)) ?_; have r45 := J.read 35 rfl (hd 35 rfl); go_simp; exact hK.out _ _ (J.st 36 rfl rfl)
    · rintro L a U ho J hn hd KK hK; refine .free rfl ?_; have r26 := J.read 16 rfl (hd 16 rfl); have r46 := J.read 36 rfl (hd 36 rfl); go_simp; exact hK.out _ _ (J.st 37 rfl rfl)
  rintro L σ W2 J hL
  have hf := J.fin rfl hL
  simp only [finR] at hf
  obtain ⟨e2, l2, k2⟩ := J.nw 0 rfl (hL 12 (by decide))
  replace K0 := Lib.hid (J.eld 0 rfl)
  replace K1 := Lib.hid (J.eld 1 rfl)
  have low := J.low
  replace B := Lib.hid J.bb
  clear J hL
  try dsimp only at e2
  generalize blkOf (σ 22) = g2_12 at *
  have K2 := Lib.hid k2
  have L2 := Lib.hid (Nat.le_trans low l2)
  clear lt0 lt1 l2 k2 low
  rw [show List.map σ [10, 11, 12, 13, 14, 15, 16, 17, 18, 19, 20, 21, 22, 23, 24, 25, 26, 27, 28, 29, 30, 31, 32, 33, 34, 35, 36, 37, 38, 39, 40, 41, 42, 43, 44, 45, 46, 47] = _ from hf, e2]
  clear hf e2
  simp only [putAll, List.map, Act.put, List.setIfInBounds_toArray, List.set_cons_succ, List.set_cons_zero]
  generalize (if (M2.size : Int) > (if (M1.size : Int) > (if (D0.size : Int) > (if (C0.size : Int) > (A0.size : Int) then (C0.size : Int) else (A0.size : Int)) then (D0.size : Int) else (if (C0.size : Int) > (A0.size : Int) then (C0.size : Int) else (A0.size : Int))) then (M1.size : Int) else (if (D0.size : Int) > (if (C0.size : Int) > (A0.size : Int) then (C0.size : Int) else (A0.size : Int)) then (D0.size : Int) else (if (C0.size : Int) > (A0.size : Int) then (C0.size : Int) else (A0.size : Int)))) then (M2.size : Int) else (if (M1.size : Int) > (if (D0.size : Int) > (if (C0.size : Int) > (A0.size : Int) then (C0.size : Int) else (A0.size : Int)) then (D0.size : Int) else (if (C0.size : Int) > (A0.size : Int) then (C0.size : Int) else (A0.size : Int))) then (M1.size : Int) else (if (D0.size : Int) > (if (C0.size : Int) > (A0.size : Int) then (C0.size : Int) else (A0.size : Int)) then (D0.size : Int) else (if (C0.size : Int) > (A0.size : Int) then (C0.size : Int) else (A0.size : Int))))) = mx
  go_upto_region 3 with (fail)
  by_cases hok : ok = true
  · skip
    obtain ⟨hnu, haz⟩ := g1 hok
    have ht := g2 hok
    have ho1 := g3 hok
    have ho2 := g4 hok
    have H_SO := Lib.hid (h_so hok)
    have H_NU := Lib.hid (h_nu hnu)
    have H_AZ := Lib.hid (h_az ⟨hnu, haz⟩)
    have H_CX := Lib.hid (h_cx ⟨hnu, haz⟩)
    have H_DX := Lib.hid (h_dx ⟨hnu, haz⟩)
    have H_RI := Lib.hid (h_ri hok)
    have H_D0 := Lib.hid (h_d0 hok)
    have H_D1 := Lib.hid (h_d1 hok)
    have H_D2 := Lib.hid (h_d2 hok)
    have H_U1 := Lib.hid (h_u1 hok)
    have H_U2 := Lib.hid (h_u2 hok)
    clear h_so h_nu h_az h_cx h_dx h_ri h_d0 h_d1 h_d2 h_u1 h_u2
    go_upto_region 3 with (fail)
    have lt0 := K0.out.lt
    have lt1 := K1.out.lt
    have lt2 := K2.out.lt
    refine wp_region_seq2 [50, 51, 52, 53, 54, 55, 56, 57, 58, 59, 60, 61, 62, 49, 63, 64, 5, 6] (RJ w W2.heap.size [.v 50 (.pointer (some ⟨g1_0, 0, none⟩)), .v 51 (.agg #[.string A1, .string A2, .string A3, .string A0]), .v 52 (.pointer (some ⟨g1_0, 4, none⟩)), .v 53 (.agg #[.string C1, .string C2, .string C3, .string C0]), .v 54 (.pointer (some ⟨g1_1, 0, none⟩)), .v 55 (.string M1), .v 56 (.agg #[.string C1, .string C2, .string C3, .string C0, .string M1]), .v 57 (.pointer (some ⟨g1_0, 8, none⟩)), .v 58 (.agg #[.string D1, .string D2, .string D3, .string D0]), .v 59 (.pointer (some ⟨g1_1, 1, none⟩)), .v 60 (.string M2), .v 61 (.agg #[.string D1, .string D2, .string D3, .string D0, .string M2]), .v 62 (.tuple #[.agg #[.string O1, .string O2, .string O3], .int .i64 0]), .v 49 (.tuple #[.agg #[.string O1, .string O2, .string O3], .int .i64 0]), .v 63 (.agg #[.string O1, .string O2, .string O3]), .v 64 (.int .i64 0), .n 5, .z, .v 6 (.int .i64 0)] [⟨16, 5, fun g => .pointer (some ⟨g, 0, none⟩), #[.string ⟨#[]⟩, .string ⟨#[]⟩, .string ⟨#[]⟩], 24, some (17, #[.string O1, .string O2, .string O3])⟩] [⟨g1_0, #[.string A1, .string A2, .string A3, .string A0, .string C1, .string C2, .string C3, .string C0, .string D1, .string D2, .string D3, .string D0], 27, none⟩, ⟨g1_1, #[.string M1, .string M2], 28, none⟩, ⟨g2_12, #[.string A1, .string A2, .string A3, .string C1, .string C2, .string C3, .string D1, .string D2, .string D3], 24, none⟩] [] [(17, 16)] [] []) (by kernel_rfl) (by kernel_rfl) ?_ ?_ ?_
    · exact RJ.start rfl B.out (by exact ⟨K0.out, K1.out, K2.out, trivial⟩)
    · refine ⟨?_, ?_, ?_, ?_, ?_, ?_, ?_, ?_, ?_, ?_, ?_, ?_, ?_, ?_, ?_, ?_, ?_, ?_, ?_, trivial⟩
      · rintro L a U ho J hn hd KK hK; refine .free rfl ?_; have r2 : a.tmps[(2 : Nat)]?.getD undef = .pointer (some ⟨g1_0, 0, none⟩) := ho.slot 2 rfl; go_simp; exact hK.out _ _ (J.st 0 rfl rfl)
      · rintro L a U ho J hn hd KK hK; refine .free rfl ?_; have r50 := J.read 0 rfl (hd 0 rfl); have kb := (J.eld 0 rfl); have c0 := kb.at_ 0 _ rfl; have c1 := kb.at_ 1 _ rfl; have c2 := kb.at_ 2 _ rfl; have c3 := kb.at_ 3 _ rfl; clear kb; go_simp; exact hK.out _ _ (J.st 1 rfl rfl)
      · rintro L a U ho J hn hd KK hK; refine .free rfl ?_; have r2 : a.tmps[(2 : Nat)]?.getD undef = .pointer (some ⟨g1_0, 0, none⟩) := ho.slot 2 rfl; go_simp; exact hK.out _ _ (J.st 2 rfl rfl)
      · rintro L a U ho J hn hd KK hK; refine .free rfl ?_; have r52 := J.read 2 rfl (hd 2 rfl); have kb := (J.eld 0 rfl); have c4 := kb.at_ 4 _ rfl; have c5 := kb.at_ 5 _ rfl; have c6 := kb.at_ 6 _ rfl; have c7 := kb.at_ 7 _ rfl; clear kb; go_simp; exact hK.out _ _ (J.st 3 rfl rfl)
      · rintro L a U ho J hn hd KK hK; refine .free rfl ?_; have r3 : a.tmps[(3 : Nat)]?.getD undef = .pointer (some ⟨g1_1, 0, none⟩) := ho.slot 3 rfl; go_simp; exact hK.out _ _ (J.st 4 rfl rfl)
      · rintro L a U ho J hn hd KK hK; refine .free rfl ?_; have r54 := J.read 4 rfl (hd 4 rfl); have kb := (J.eld 1 rfl); have c0 := kb.at_ 0 _ rfl; clear kb; go_simp; exact hK.out _ _ (J.st 5 rfl rfl)
      · rintro L a U ho J hn hd KK hK; refine .free rfl ?_; have r53 := J.read 3 rfl (hd 3 rfl); have r55 := J.read 5 rfl (hd 5 rfl); go_simp; exact hK.out _ _ (J.st 6 rfl rfl)
      · rintro L a U ho J hn hd KK hK; refine .free rfl ?_; have r2 : a.tmps[(2 : Nat)]?.getD undef = .pointer (some ⟨g1_0, 0, none⟩) := ho.slot 2 rfl; go_simp; exact hK.out _ _ (J.st 7 rfl rfl)
      · rintro L a U ho J hn hd KK hK; refine .free rfl ?_; have r57 := J.read 7 rfl (hd 7 rfl); have kb := (J.eld 0 rfl); have c8 := kb.at_ 8 _ rfl; have c9 := kb.at_ 9 _ rfl; have c10 := kb.at_ 10 _ rfl; have c11 := kb.at_ 11 _ rfl; clear kb; go_simp; exact hK.out _ _ (J.st 8 rfl rfl)
      · rintro L a U ho J hn hd KK hK; refine .free rfl ?_; have r3 : a.tmps[(3 : Nat)]?.getD undef = .pointer (some ⟨g1_1, 0, none⟩) := ho.slot 3 rfl; go_simp; exact hK.out _ _ (J.st 9 rfl rfl)
      · rintro L a U ho J hn hd KK hK; refine .free rfl ?_; have r59 := J.read 9 rfl (hd 9 rfl); have kb := (J.eld 1 rfl); have c1 := kb.at_ 1 _ rfl; clear kb; go_simp; exact hK.out _ _ (J.st 10 rfl rfl)
      · rintro L a U ho J hn hd KK hK; refine .free rfl ?_; have r58 := J.read 8 rfl (hd 8 rfl); have r60 := J.read 10 rfl (hd 10 rfl); go_simp; exact hK.out _ _ (J.st 11 rfl rfl)
      · rintro L a U ho J hn hd KK hK; refine .free rfl ?_; have r51 := J.read 1 rfl (hd 1 rfl); have r56 := J.read 6 rfl (hd 6 rfl); have r61 := J.read 11 rfl (hd 11 rfl); go_simp; go_at_call 13; (with_reducible refine (H_SO.out _ J.bb).mono ?_); rintro e wy ⟨rfl, q⟩; go_simp; exact hK.out _ _ (J.sq 12 rfl rfl q)
      · rintro L a U ho J hn hd KK hK; refine .free rfl ?_; have r62 := J.read 12 rfl (hd 12 rfl); go_simp; exact hK.out _ _ (J.st 13 rfl rfl)
      · rintro L a U ho J hn hd KK hK; refine .free rfl ?_; have r49 := J.read 13 rfl (hd 13 rfl); go_simp; exact hK.out _ _ (J.st 14 rfl rfl)
      · rintro L a U ho J hn hd KK hK; refine .free rfl ?_; have r49 := J.read 13 rfl (hd 13 rfl); go_simp; exact hK.out _ _ (J.st 15 rfl rfl)
      · rintro L a U ho J hn hd KK hK; refine .free rfl ?_; go_simp; exact hK.out _ _ (J.mf 16 0 rfl rfl rfl rfl rfl hn)
      · rintro L a U ho J hn hd KK hK; refine .free rfl ?_; have r5 : a.tmps[(5 : Nat)]?.getD undef = .pointer (some ⟨(blkOf (slotOf a 5)), 0, none⟩) := J.readN 0 rfl (hd 16 rfl); have r63 := J.read 14 rfl (hd 14 rfl); have kb := (J.nwB 0 rfl (hd 16 rfl) hn).blk; have c0 := kb.at_ 0 _ rfl; have z0 := kb.free 0; have c1 := kb.at_ 1 _ rfl; have z1 := kb.free 1; have c2 := kb.at_ 2 _ rfl; have z2 := kb.free 2; clear kb; go_simp; exact hK.out undef _ (J.storedN 17 0 rfl rfl rfl rfl rfl 0 [.string O1, .string O2, .string O3] rfl ⟨lt0, lt1, lt2, trivial⟩ (hd 16 rfl) hn ⟨.inr (hd 16 rfl), trivial⟩)
      · rintro L a U ho J hn hd KK hK; refine .free rfl ?_; have r64 := J.read 15 rfl (hd 15 rfl); go_simp; exact hK.out _ _ (J.st 18 rfl rfl)
    rintro L σ W3 J hL
    have hf := J.fin rfl hL
    simp only [finR] at hf
    obtain ⟨e3, l3, k3⟩ := J.nwW 0 rfl (hL 16 (by decide)) (hL 17 (by decide))
    replace K0 := Lib.hid (J.eld 0 rfl)
    replace K1 := Lib.hid (J.eld 1 rfl)
    replace K2 := Lib.hid (J.eld 2 rfl)
    have low := J.low
    replace B := Lib.hid J.bb
    clear J hL
    try dsimp only at e3
    generalize blkOf (σ 5) = g3_16 at *
    have K3 := Lib.hid k3
    have L3 := Lib.hid (Nat.le_trans low l3)
    clear lt0 lt1 lt2 l3 k3 low
    rw [show List.map σ [50, 51, 52, 53, 54, 55, 56, 57, 58, 59, 60, 61, 62, 49, 63, 64, 5, 6] = _ from hf, e3]
    clear hf e3
    simp only [putAll, List.map, Act.put, List.setIfInBounds_toArray, List.set_cons_succ, List.set_cons_zero]
    have c3_0 := K3.out.at_ 0 _ rfl
    have c3_1 := K3.out.at_ 1 _ rfl
    have c3_2 := K3.out.at_ 2 _ rfl
    go_upto_region 5 with (fail)
    clear c3_0 c3_1 c3_2
    have lt0 := K0.out.lt
    have lt1 := K1.out.lt
    have lt2 := K2.out.lt
    have lt3 := K3.out.lt
    refine wp_region_seq2 [68, 69, 70, 71, 72, 73, 74, 75, 76, 77, 8] (RJ w W3.heap.size [.v 68 (.pointer (some ⟨g1_0, 0, none⟩)), .v 69 (.pointer (some ⟨g1_0, 0, none⟩)), .v 70 (.agg #[.string A1, .string A2, .string A3]), .v 71 (.pointer (some ⟨g1_0, 4, none⟩)), .v 72 (.pointer (some ⟨g1_0, 4, none⟩)), .v 73 (.agg #[.string C1, .string C2, .string C3]), .v 74 (.pointer (some ⟨g1_0, 8, none⟩)), .v 75 (.pointer (some ⟨g1_0, 8, none⟩)), .v 76 (.agg #[.string D1, .string D2, .string D3]), .n 77, .n 8] [⟨9, 77, fun g => .slice (some ⟨g, 0, none⟩) 3 3, #[.string A1, .string A2, .string A3, .string C1, .string C2, .string C3, .string D1, .string D2, .string D3], 24, none⟩] [⟨g1_0, #[.string A1, .string A2, .string A3, .string A0, .string C1, .string C2, .string C3, .string C0, .string D1, .string D2, .string D3, .string D0], 27, none⟩, ⟨g1_1, #[.string M1, .string M2], 28, none⟩, ⟨g2_12, #[.string A1, .string A2, .string A3, .string C1, .string C2, .string C3, .string D1, .string D2, .string D3], 24, none⟩, ⟨g3_16, #[.string O1, .string O2, .string O3], 24, none⟩] [⟨10, 8, 77, 9, fun g => .slice (some ⟨g, 0, none⟩) 3 3⟩] [] [] []) (by kernel_rfl) (by kernel_rfl) ?_ ?_ ?_
    · exact RJ.start rfl B.out (by exact ⟨K0.out, K1.out, K2.out, K3.out, trivial⟩)
    · refine ⟨?_, ?_, ?_, ?_, ?_, ?_, ?_, ?_, ?_, ?_, ?_, trivial⟩
      · rintro L a U ho J hn hd KK hK; refine .free rfl ?_; have r2 : a.tmps[(2 : Nat)]?.getD undef = .pointer (some ⟨g1_0, 0, none⟩) := ho.slot 2 rfl; go_simp; exact hK.out _ _ (J.st 0 rfl rfl)
      · rintro L a U ho J hn hd KK hK; refine .free rfl ?_; have r68 := J.read 0 rfl (hd 0 rfl); go_simp; exact hK.out _ _ (J.st 1 rfl rfl)
      · rintro L a U ho J hn hd KK hK; refine .free rfl ?_; have r69 := J.read 1 rfl (hd 1 rfl); have kb := (J.eld 0 rfl); have c0 := kb.at_ 0 _ rfl; have c1 := kb.at_ 1 _ rfl; have c2 := kb.at_ 2 _ rfl; clear kb; go_simp; exact hK.out _ _ (J.st 2 rfl rfl)
      · rintro L a U ho J hn hd KK hK; refine .free rfl ?_; have r2 : a.tmps[(2 : Nat)]?.getD undef = .pointer (some ⟨g1_0, 0, none⟩) := ho.slot 2 rfl; go_simp; exact hK.out _ _ (J.st 3 rfl rfl)
      · rintro L a U ho J hn hd KK hK; refine .free rfl ?_; have r71 := J.read 3 rfl (hd 3 rfl); go_simp; exact hK.out _ _ (J.st 4 rfl rfl)
      · rintro L a U ho J hn hd KK hK; refine .free rfl ?_; have r72 := J.read 4 rfl (hd 4 rfl); have kb := (J.eld 0 rfl); have c4 := kb.at_ 4 _ rfl; have c5 := kb.at_ 5 _ rfl; have c6 := kb.at_ 6 _ rfl; clear kb; go_simp; exact hK.out _ _ (J.st 5 rfl rfl)
      · rintro L a U ho J hn hd KK hK; refine .free rfl ?_; have r2 : a.tmps[(2 : Nat)]?.getD undef = .pointer (some ⟨g1_0, 0, none⟩) := ho.slot 2 rfl; go_simp; exact hK.out _ _ (J.st 6 rfl rfl)
      · rintro L a U ho J hn hd KK hK; refine .free rfl ?_; have r74 := J.read 6 rfl (hd 6 rfl); go_simp; exact hK.out _ _ (J.st 7 rfl rfl)
      · rintro L a U ho J hn hd KK hK; refine .free rfl ?_; have r75 := J.read 7 rfl (hd 7 rfl); have kb := (J.eld 0 rfl); have c8 := kb.at_ 8 _ rfl; have c9 := kb.at_ 9 _ rfl; have c10 := kb.at_ 10 _ rfl; clear kb; go_simp; exact hK.out _ _ (J.st 8 rfl rfl)
      · rintro L a U ho J hn hd KK hK; refine .free rfl ?_; have r70 := J.read 2 rfl (hd 2 rfl); have r73 := J.read 5 rfl (hd 5 rfl); have r76 := J.read 8 rfl (hd 8 rfl); go_simp; exact hK.out _ _ (J.mf 9 0 rfl rfl rfl rfl rfl hn)
      · rintro L a U ho J hn hd KK hK; refine .free rfl ?_; have r77 : a.tmps[(77 : Nat)]?.getD undef = .slice (some ⟨(blkOf (slotOf a 77)), 0, none⟩) 3 3 := J.readN 0 rfl (hd 9 rfl); go_simp; exact hK.out _ _ (J.way 10 0 rfl rfl rfl rfl rfl rfl rfl (hd 9 rfl) hn)
    rintro L σ W4 J hL
    have hf := J.fin rfl hL
    simp only [finR] at hf
    obtain ⟨e4, l4, k4⟩ := J.nw 0 rfl (hL 9 (by decide))
    have ja10 : σ 8 = .slice (some ⟨(blkOf (σ 77)), 0, none⟩) 3 3 := (J.als 0 _ rfl (hL 10 (by decide))).1
    replace K0 := Lib.hid (J.eld 0 rfl)
    replace K1 := Lib.hid (J.eld 1 rfl)
    replace K2 := Lib.hid (J.eld 2 rfl)
    replace K3 := Lib.hid (J.eld 3 rfl)
    have low := J.low
    replace B := Lib.hid J.bb
    clear J hL
    try dsimp only at e4
    generalize blkOf (σ 77) = g4_9 at *
    have K4 := Lib.hid k4
    have L4 := Lib.hid (Nat.le_trans low l4)
    clear lt0 lt1 lt2 lt3 l4 k4 low
    rw [show List.map σ [68, 69, 70, 71, 72, 73, 74, 75, 76, 77, 8] = _ from hf, e4, ja10]
    clear hf e4 ja10
    simp only [putAll, List.map, Act.put, List.setIfInBounds_toArray, List.set_cons_succ, List.set_cons_zero]
    go_upto_region 6 with (fail)
    have lt0 := K0.out.lt
    have lt1 := K1.out.lt
    have lt2 := K2.out.lt
    have lt3 := K3.out.lt
    have lt4 := K4.out.lt
    refine wp_region_seq2 [79, 80, 81, 82, 83, 84, 85, 86, 87, 88, 89, 90, 91, 92, 93, 94, 95, 78] (RJ w W4.heap.size [.v 79 (.slice (some ⟨g4_9, 0, none⟩) 3 3), .v 80 (.pointer (some ⟨g1_0, 0, none⟩)), .v 81 (.pointer (some ⟨g1_0, 3, none⟩)), .v 82 (.string A0), .v 83 (.pointer (some ⟨g1_0, 4, none⟩)), .v 84 (.pointer (some ⟨g1_0, 7, none⟩)), .v 85 (.string C0), .v 86 (.pointer (some ⟨g1_0, 8, none⟩)), .v 87 (.pointer (some ⟨g1_0, 11, none⟩)), .v 88 (.string D0), .v 89 (.pointer (some ⟨g1_1, 0, none⟩)), .v 90 (.string M1), .v 91 (.pointer (some ⟨g1_1, 1, none⟩)), .v 92 (.string M2), .n 93, .v 94 (.bool true), .v 95 (.bool false), .v 78 (.bool false)] [⟨14, 93, fun g => .slice (some ⟨g, 0, none⟩) 5 5, #[.string A0, .string C0, .string D0, .string M1, .string M2], 22, none⟩] [⟨g1_0, #[.string A1, .string A2, .string A3, .string A0, .string C1, .string C2, .string C3, .string C0, .string D1, .string D2, .string D3, .string D0], 27, none⟩, ⟨g1_1, #[.string M1, .string M2], 28, none⟩, ⟨g2_12, #[.string A1, .string A2, .string A3, .string C1, .string C2, .string C3, .string D1, .string D2, .string D3], 24, none⟩, ⟨g3_16, #[.string O1, .string O2, .string O3], 24, none⟩, ⟨g4_9, #[.string A1, .string A2, .string A3, .string C1, .string C2, .string C3, .string D1, .string D2, .string D3], 24, none⟩] [] [] [] []) (by kernel_rfl) (by kernel_rfl) ?_ ?_ ?_
    · exact RJ.start rfl B.out (by exact ⟨K0.out, K1.out, K2.out, K3.out, K4.out, trivial⟩)
    · refine ⟨?_, ?_, ?_, ?_, ?_, ?_, ?_, ?_, ?_, ?_, ?_, ?_, ?_, ?_, ?_, ?_, ?_, ?_, trivial⟩
      · rintro L a U ho J hn hd KK hK; refine .free rfl ?_; have r8 : a.tmps[(8 : Nat)]?.getD undef = .slice (some ⟨g4_9, 0, none⟩) 3 3 := ho.slot 8 rfl; go_simp; exact hK.out _ _ (J.st 0 rfl rfl)
      · rintro L a U ho J hn hd KK hK; refine .free rfl ?_; have r2 : a.tmps[(2 : Nat)]?.getD undef = .pointer (some ⟨g1_0, 0, none⟩) := ho.slot 2 rfl; go_simp; exact hK.out _ _ (J.st 1 rfl rfl)
      · rintro L a U ho J hn hd KK hK; refine .free rfl ?_; have r80 := J.read 1 rfl (hd 1 rfl); go_simp; exact hK.out _ _ (J.st 2 rfl rfl)
      · rintro L a U ho J hn hd KK hK; refine .free rfl ?_; have r81 := J.read 2 rfl (hd 2 rfl); have kb := (J.eld 0 rfl); have c3 := kb.at_ 3 _ rfl; clear kb; go_simp; exact hK.out _ _ (J.st 3 rfl rfl)
      · rintro L a U ho J hn hd KK hK; refine .free rfl ?_; have r2 : a.tmps[(2 : Nat)]?.getD undef = .pointer (some ⟨g1_0, 0, none⟩) := ho.slot 2 rfl; go_simp; exact hK.out _ _ (J.st 4 rfl rfl)
      · rintro L a U ho J hn hd KK hK; refine .free rfl ?_; have r83 := J.read 4 rfl (hd 4 rfl); go_simp; exact hK.out _ _ (J.st 5 rfl rfl)
      · rintro L a U ho J hn hd KK hK; refine .free rfl ?_; have r84 := J.read 5 rfl (hd 5 rfl); have kb := (J.eld 0 rfl); have c7 := kb.at_ 7 _ rfl; clear kb; go_simp; exact hK.out _ _ (J.st 6 rfl rfl)
      · rintro L a U ho J hn hd KK hK; refine .free rfl ?_; have r2 : a.tmps[(2 : Nat)]?.getD undef = .pointer (some ⟨g1_0, 0, none⟩) := ho.slot 2 rfl; go_simp; exact hK.out _ _ (J.st 7 rfl rfl)
      · rintro L a U ho J hn hd KK hK; refine .free rfl ?_; have r86 := J.read 7 rfl (hd 7 rfl); go_simp; exact hK.out _ _ (J.st 8 rfl rfl)
      · rintro L a U ho J hn hd KK hK; refine .free rfl ?_; have r87 := J.read 8 rfl (hd 8 rfl); have kb := (J.eld 0 rfl); have c11 := kb.at_ 11 _ rfl; clear kb; go_simp; exact hK.out _ _ (J.st 9 rfl rfl)
      · rintro L a U ho J hn hd KK hK; refine .free rfl ?_; have r3 : a.tmps[(3 : Nat)]?.getD undef = .pointer (some ⟨g1_1, 0, none⟩) := ho.slot 3 rfl; go_simp; exact hK.out _ _ (J.st 10 rfl rfl)
      · rintro L a U ho J hn hd KK hK; refine .free rfl ?_; have r89 := J.read 10 rfl (hd 10 rfl); have kb := (J.eld 1 rfl); have c0 := kb.at_ 0 _ rfl; clear kb; go_simp; exact hK.out _ _ (J.st 11 rfl rfl)
      · rintro L a U ho J hn hd KK hK; refine .free rfl ?_; have r3 : a.tmps[(3 : Nat)]?.getD undef = .pointer (some ⟨g1_1, 0, none⟩) := ho.slot 3 rfl; go_simp; exact hK.out _ _ (J.st 12 rfl rfl)
      · rintro L a U ho J hn hd KK hK; refine .free rfl ?_; have r91 := J.read 12 rfl (hd 12 rfl); have kb := (J.eld 1 rfl); have c1 := kb.at_ 1 _ rfl; clear kb; go_simp; exact hK.out _ _ (J.st 13 rfl rfl)
      · rintro L a U ho J hn hd KK hK; refine .free rfl ?_; have r82 := J.read 3 rfl (hd 3 rfl); have r85 := J.read 6 rfl (hd 6 rfl); have r88 := J.read 9 rfl (hd 9 rfl); have r90 := J.read 11 rfl (hd 11 rfl); have r92 := J.read 13 rfl (hd 13 rfl); go_simp; exact hK.out _ _ (J.mf 14 0 rfl rfl rfl rfl rfl hn)
      · rintro L a U ho J hn hd KK hK; refine .free rfl ?_; have r79 := J.read 0 rfl (hd 0 rfl); have r93 : a.tmps[(93 : Nat)]?.getD undef = .slice (some ⟨(blkOf (slotOf a 93)), 0, none⟩) 5 5 := J.readN 0 rfl (hd 14 rfl); go_simp; go_at_call 14; (with_reducible refine (H_NU.out _ _ _ (J.eld 4 rfl) (J.nw 0 rfl (hd 14 rfl)).blk J.bb).mono ?_); rintro e wy ⟨rfl, q⟩; go_simp; exact hK.out _ _ (J.sq 15 rfl rfl q)
      · rintro L a U ho J hn hd KK hK; refine .free rfl ?_; have r94 := J.read 15 rfl (hd 15 rfl); go_simp; exact hK.out _ _ (J.st 16 rfl rfl)
      · rintro L a U ho J hn hd KK hK; refine .free rfl ?_; have r95 := J.read 16 rfl (hd 16 rfl); go_simp; exact hK.out _ _ (J.st 17 rfl rfl)
    rintro L σ W5 J hL
    have hf := J.fin rfl hL
    simp only [finR] at hf
    obtain ⟨e5, l5, k5⟩ := J.nw 0 rfl (hL 14 (by decide))
    replace K0 := Lib.hid (J.eld 0 rfl)
    replace K1 := Lib.hid (J.eld 1 rfl)
    replace K2 := Lib.hid (J.eld 2 rfl)
    replace K3 := Lib.hid (J.eld 3 rfl)
    replace K4 := Lib.hid (J.eld 4 rfl)
    have low := J.low
    replace B := Lib.hid J.bb
    clear J hL
    try dsimp only at e5
    generalize blkOf (σ 93) = g5_14 at *
    have K5 := Lib.hid k5
    have L5 := Lib.hid (Nat.le_trans low l5)
    clear lt0 lt1 lt2 lt3 lt4 l5 k5 low
    rw [show List.map σ [79, 80, 81, 82, 83, 84, 85, 86, 87, 88, 89, 90, 91, 92, 93, 94, 95, 78] = _ from hf, e5]
    clear hf e5
    simp only [putAll, List.map, Act.put, List.setIfInBounds_toArray, List.set_cons_succ, List.set_cons_zero]
    go_upto_region 10 with (
     (first
      | (go_at_call 15; with_reducible refine (H_AZ.out _ _ (K4.out.atI) (baseI B.out)).mono ?_)
      | fail "arm"); rintro e wx ⟨rfl, q⟩; replace K0 := Lib.hid (K0.out.nearI q); replace K1 := Lib.hid (K1.out.nearI q); replace K2 := Lib.hid (K2.out.nearI q); replace K3 := Lib.hid (K3.out.nearI q); replace K4 := Lib.hid (K4.out.nearI q); replace K5 := Lib.hid (K5.out.nearI q); replace B := Lib.hid (goI B.out q); clear q)
    have lt0 := K0.out.lt
    have lt1 := K1.out.lt
    have lt2 := K2.out.lt
    have lt3 := K3.out.lt
    have lt4 := K4.out.lt
    have lt5 := K5.out.lt
    refine wp_region_par2 (by kernel_rfl) [110, 111, 112, 113, 114, 115, 116, 117, 118, 119, 120, 121, 109] (RJ w wx.heap.size [.v 110 (.slice (some ⟨g4_9, 0, none⟩) 3 3), .v 111 (.pointer (some ⟨g4_9, 0, none⟩)), .v 112 (.agg #[.string A1, .string A2, .string A3]), .v 113 (.slice (some ⟨g4_9, 0, none⟩) 3 3), .v 114 (.pointer (some ⟨g4_9, 3, none⟩)), .v 115 (.agg #[.string C1, .string C2, .string C3]), .v 116 (.slice (some ⟨g4_9, 0, none⟩) 3 3), .v 117 (.pointer (some ⟨g4_9, 6, none⟩)), .v 118 (.agg #[.string D1, .string D2, .string D3]), .v 119 (.agg #[.string X1, .string X2, .string X3]), .v 120 (.string T), .v 121 (.bool false), .v 109 (.bool false)] [] [⟨g1_0, #[.string A1, .string A2, .string A3, .string A0, .string C1, .string C2, .string C3, .string C0, .string D1, .string D2, .string D3, .string D0], 27, none⟩, ⟨g1_1, #[.string M1, .string M2], 28, none⟩, ⟨g2_12, #[.string A1, .string A2, .string A3, .string C1, .string C2, .string C3, .string D1, .string D2, .string D3], 24, none⟩, ⟨g3_16, #[.string O1, .string O2, .string O3], 24, none⟩, ⟨g4_9, #[.string A1, .string A2, .string A3, .string C1, .string C2, .string C3, .string D1, .string D2, .string D3], 24, none⟩, ⟨g5_14, #[.string A0, .string C0, .string D0, .string M1, .string M2], 22, none⟩] [] [] [] []) (by kernel_rfl) (by kernel_rfl) (by kernel_rfl) ?_ ?_ ?_
    · exact RJ.drew (RJ.start rfl B.out (by exact ⟨K0.out, K1.out, K2.out, K3.out, K4.out, K5.out, trivial⟩))
    · refine ⟨?_, ?_, ?_, ?_, ?_, ?_, ?_, ?_, ?_, ?_, ?_, ?_, ?_, trivial⟩
      · rintro L a U ho J hn hd KK hK; refine .free rfl ?_; have r8 : a.tmps[(8 : Nat)]?.getD undef = .slice (some ⟨g4_9, 0, none⟩) 3 3 := ho.slot 8 rfl; go_simp; exact hK.out _ _ (J.st 0 rfl rfl)
      · rintro L a U ho J hn hd KK hK; refine .free rfl ?_; have r110 := J.read 0 rfl (hd.get 0 rfl); go_simp; exact hK.out _ _ (J.st 1 rfl rfl)
      · rintro L a U ho J hn hd KK hK; refine .free rfl ?_; have r111 := J.read 1 rfl (hd.get 1 rfl); have kb := (J.eld 4 rfl); have c0 := kb.at_ 0 _ rfl; have c1 := kb.at_ 1 _ rfl; have c2 := kb.at_ 2 _ rfl; clear kb; go_simp; exact hK.out _ _ (J.st 2 rfl rfl)
      · rintro L a U ho J hn hd KK hK; refine .free rfl ?_; have r8 : a.tmps[(8 : Nat)]?.getD undef = .slice (some ⟨g4_9, 0, none⟩) 3 3 := ho.slot 8 rfl; go_simp; exact hK.out _ _ (J.st 3 rfl rfl)
      · rintro L a U ho J hn hd KK hK; refine .free rfl ?_; have r113 := J.read 3 rfl (hd.get 3 rfl); go_simp; exact hK.out _ _ (J.st 4 rfl rfl)
      · rintro L a U ho J hn hd KK hK; refine .free rfl ?_; have r114 := J.read 4 rfl (hd.get 4 rfl); have kb := (J.eld 4 rfl); have c3 := kb.at_ 3 _ rfl; have c4 := kb.at_ 4 _ rfl; have c5 := kb.at_ 5 _ rfl; clear kb; go_simp; exact hK.out _ _ (J.st 5 rfl rfl)
      · rintro L a U ho J hn hd KK hK; refine .free rfl ?_; have r8 : a.tmps[(8 : Nat)]?.getD undef = .slice (some ⟨g4_9, 0, none⟩) 3 3 := ho.slot 8 rfl; go_simp; exact hK.out _ _ (J.st 6 rfl rfl)
      · rintro L a U ho J hn hd KK hK; refine .free rfl ?_; have r116 := J.read 6 rfl (hd.get 6 rfl); go_simp; exact hK.out _ _ (J.st 7 rfl rfl)
      · rintro L a U ho J hn hd KK hK; refine .free rfl ?_; have r117 := J.read 7 rfl (hd.get 7 rfl); have kb := (J.eld 4 rfl); have c6 := kb.at_ 6 _ rfl; have c7 := kb.at_ 7 _ rfl; have c8 := kb.at_ 8 _ rfl; clear kb; go_simp; exact hK.out _ _ (J.st 8 rfl rfl)
      · rintro L a U ho J hn hd KK hK; refine .free rfl ?_; have r115 := J.read 5 rfl (hd.get 5 rfl); have r118 := J.read 8 rfl (hd.get 8 rfl); go_simp; go_at_call 18; (with_reducible refine (H_CX.out _ J.bb).mono ?_); rintro e wy ⟨rfl, q⟩; go_simp; exact hK.out _ _ (J.sq 9 rfl rfl q)
      · rintro L a U ho J hn hd KK hK; refine .free rfl ?_; have r112 := J.read 2 rfl (hd.get 2 rfl); have r119 := J.read 9 rfl (hd.get 9 rfl); go_simp; go_at_call 17; (with_reducible refine (H_DX.out _ J.bb).mono ?_); rintro e wy ⟨rfl, q⟩; go_simp; exact hK.out _ _ (J.sq 10 rfl rfl q)
      · rintro L a U ho J hn hd KK hK; refine .free rfl ?_; have r120 := J.read 10 rfl (hd.get 10 rfl); go_simp; exact hK.out _ _ (J.st 11 rfl rfl)
      · rintro L a U ho J hn hd KK hK; refine .free rfl ?_; have r121 := J.read 11 rfl (hd.get 11 rfl); go_simp; exact hK.out _ _ (J.st 12 rfl rfl)
    rintro L σ W6 J hL
    have hf := J.fin rfl hL
    simp only [finR] at hf
    replace K0 := Lib.hid (J.eld 0 rfl)
    replace K1 := Lib.hid (J.eld 1 rfl)
    replace K2 := Lib.hid (J.eld 2 rfl)
    replace K3 := Lib.hid (J.eld 3 rfl)
    replace K4 := Lib.hid (J.eld 4 rfl)
    replace K5 := Lib.hid (J.eld 5 rfl)
    replace B := Lib.hid J.bb
    clear J hL
    clear lt0 lt1 lt2 lt3 lt4 lt5
    rw [show List.map σ [110, 111, 112, 113, 114, 115, 116, 117, 118, 119, 120, 121, 109] = _ from hf]
    clear hf
    simp only [putAll, List.map, Act.put, List.setIfInBounds_toArray, List.set_cons_succ, List.set_cons_zero]
    go_upto_region 12 with (fail)
    have lt0 := K0.out.lt
    have lt1 := K1.out.lt
    have lt2 := K2.out.lt
    have lt3 := K3.out.lt
    have lt4 := K4.out.lt
    have lt5 := K5.out.lt
    refine wp_region_par2 (by kernel_rfl) [127, 128, 129, 130, 131, 132, 133, 134, 135, 136, 137, 138, 139, 140, 141] (RJ w W6.heap.size [.v 127 (.int .i64 0), .v 128 (.bool false), .v 129 (.bool false), .v 130 (.agg #[.string O1, .string O2, .string O3]), .v 131 (.bool true), .v 132 (.bool false), .v 133 (.bool false), .v 134 (.bool false), .v 135 (.slice (some ⟨g4_9, 0, none⟩) 3 3), .v 136 (.pointer (some ⟨g4_9, 0, none⟩)), .v 137 (.agg #[.string A1, .string A2, .string A3]), .v 138 (.agg #[.string O1, .string O2, .string O3]), .v 139 (.string ⟨#[48]⟩), .v 140 (.bool false), .v 141 (.bool false)] [] [⟨g1_0, #[.string A1, .string A2, .string A3, .string A0, .string C1, .string C2, .string C3, .string C0, .string D1, .string D2, .string D3, .string D0], 27, none⟩, ⟨g1_1, #[.string M1, .string M2], 28, none⟩, ⟨g2_12, #[.string A1, .string A2, .string A3, .string C1, .string C2, .string C3, .string D1, .string D2, .string D3], 24, none⟩, ⟨g3_16, #[.string O1, .string O2, .string O3], 24, none⟩, ⟨g4_9, #[.string A1, .string A2, .string A3, .string C1, .string C2, .string C3, .string D1, .string D2, .string D3], 24, none⟩, ⟨g5_14, #[.string A0, .string C0, .string D0, .string M1, .string M2], 22, none⟩] [] [] [] []) (by kernel_rfl) (by kernel_rfl) (by kernel_rfl) ?_ ?_ ?_
    · exact RJ.drew (RJ.start rfl B.out (by exact ⟨K0.out, K1.out, K2.out, K3.out, K4.out, K5.out, trivial⟩))
    · refine ⟨?_, ?_, ?_, ?_, ?_, ?_, ?_, ?_, ?_, ?_, ?_, ?_, ?_, ?_, ?_, trivial⟩
      · rintro L a U ho J hn hd KK hK; refine .free rfl ?_; have r6 : a.tmps[(6 : Nat)]?.getD undef = .int .i64 0 := ho.slot 6 rfl; go_simp; exact hK.out _ _ (J.st 0 rfl rfl)
      · rintro L a U ho J hn hd KK hK; refine .free rfl ?_; have r127 := J.read 0 rfl (hd.get 0 rfl); go_simp; exact hK.out _ _ (J.st 1 rfl rfl)
      · rintro L a U ho J hn hd KK hK; refine .free rfl ?_; have r128 := J.read 1 rfl (hd.get 1 rfl); go_simp; exact hK.out _ _ (J.st 2 rfl rfl)
      · rintro L a U ho J hn hd KK hK; refine .pos (s := 129) rfl rfl (J.vals 2 _ _ rfl (hd.get 2 rfl)) ?_; have r5 : a.tmps[(5 : Nat)]?.getD undef = .pointer (some ⟨g3_16, 0, none⟩) := ho.slot 5 rfl; have kb := (J.eld 3 rfl); have c0 := kb.at_ 0 _ rfl; have c1 := kb.at_ 1 _ rfl; have c2 := kb.at_ 2 _ rfl; clear kb; go_simp; exact hK.out _ _ (J.st 3 rfl rfl)
      · rintro L a U ho J hn hd KK hK; refine .pos (s := 129) rfl rfl (J.vals 2 _ _ rfl (hd.get 2 rfl)) ?_; have r130 := J.read 3 rfl (hd.get 3 rfl); go_simp; go_at_call 19; (with_reducible refine (H_RI.out _ J.bb).mono ?_); rintro e wy ⟨rfl, q⟩; go_simp; exact hK.out _ _ (J.sq 4 rfl rfl q)
      · rintro L a U ho J hn hd KK hK; refine .pos (s := 129) rfl rfl (J.vals 2 _ _ rfl (hd.get 2 rfl)) ?_; have r131 := J.read 4 rfl (hd.get 4 rfl); go_simp; exact hK.out _ _ (J.st 5 rfl rfl)
      · rintro L a U ho J hn hd KK hK; refine .free rfl ?_; have r129 := J.read 2 rfl (hd.get 2 rfl); have r132 := J.read 5 rfl (hd.get 5 rfl); go_simp; exact hK.out _ _ (J.st 6 rfl rfl)
      · rintro L a U ho J hn hd KK hK; refine .free rfl ?_; have r133 := J.read 6 rfl (hd.get 6 rfl); go_simp; exact hK.out _ _ (J.st 7 rfl rfl)
      · rintro L a U ho J hn hd KK hK; refine .pos (s := 134) rfl rfl (J.vals 7 _ _ rfl (hd.get 7 rfl)) ?_; have r8 : a.tmps[(8 : Nat)]?.getD undef = .slice (some ⟨g4_9, 0, none⟩) 3 3 := ho.slot 8 rfl; go_simp; exact hK.out _ _ (J.st 8 rfl rfl)
      · rintro L a U ho J hn hd KK hK; refine .pos (s := 134) rfl rfl (J.vals 7 _ _ rfl (hd.get 7 rfl)) ?_; have r135 := J.read 8 rfl (hd.get 8 rfl); go_simp; exact hK.out _ _ (J.st 9 rfl rfl)
      · rintro L a U ho J hn hd KK hK; refine .pos (s := 134) rfl rfl (J.vals 7 _ _ rfl (hd.get 7 rfl)) ?_; have r136 := J.read 9 rfl (hd.get 9 rfl); have kb := (J.eld 4 rfl); have c0 := kb.at_ 0 _ rfl; have c1 := kb.at_ 1 _ rfl; have c2 := kb.at_ 2 _ rfl; clear kb; go_simp; exact hK.out _ _ (J.st 10 rfl rfl)
      · rintro L a U ho J hn hd KK hK; refine .pos (s := 134) rfl rfl (J.vals 7 _ _ rfl (hd.get 7 rfl)) ?_; have r5 : a.tmps[(5 : Nat)]?.getD undef = .pointer (some ⟨g3_16, 0, none⟩) := ho.slot 5 rfl; have kb := (J.eld 3 rfl); have c0 := kb.at_ 0 _ rfl; have c1 := kb.at_ 1 _ rfl; have c2 := kb.at_ 2 _ rfl; clear kb; go_simp; exact hK.out _ _ (J.st 11 rfl rfl)
      · rintro L a U ho J hn hd KK hK; refine .pos (s := 134) rfl rfl (J.vals 7 _ _ rfl (hd.get 7 rfl)) ?_; have r137 := J.read 10 rfl (hd.get 10 rfl); have r138 := J.read 11 rfl (hd.get 11 rfl); go_simp; go_at_call 17; (with_reducible refine (H_D0.out _ J.bb).mono ?_); rintro e wy ⟨rfl, q⟩; go_simp; exact hK.out _ _ (J.sq 12 rfl rfl q)
      · rintro L a U ho J hn hd KK hK; refine .pos (s := 134) rfl rfl (J.vals 7 _ _ rfl (hd.get 7 rfl)) ?_; have r139 := J.read 12 rfl (hd.get 12 rfl); go_simp; exact hK.out _ _ (J.st 13 rfl rfl)
      · rintro L a U ho J hn hd KK hK; refine .free rfl ?_; have r134 := J.read 7 rfl (hd.get 7 rfl); have r140 := J.read 13 rfl (hd.get 13 rfl); go_simp; exact hK.out _ _ (J.st 14 rfl rfl)
    rintro L σ W7 J hL
    have hf := J.fin rfl hL
    simp only [finR] at hf
    replace K0 := Lib.hid (J.eld 0 rfl)
    replace K1 := Lib.hid (J.eld 1 rfl)
    replace K2 := Lib.hid (J.eld 2 rfl)
    replace K3 := Lib.hid (J.eld 3 rfl)
    replace K4 := Lib.hid (J.eld 4 rfl)
    replace K5 := Lib.hid (J.eld 5 rfl)
    replace B := Lib.hid J.bb
    clear J hL
    clear lt0 lt1 lt2 lt3 lt4 lt5
    rw [show List.map σ [127, 128, 129, 130, 131, 132, 133, 134, 135, 136, 137, 138, 139, 140, 141] = _ from hf]
    clear hf
    simp only [putAll, List.map, Act.put, List.setIfInBounds_toArray, List.set_cons_succ, List.set_cons_zero]
    go_wp2
    refine wp_loop_rounds 3 ?_
    rw [rounds_succ]
    go_upto_region 17 with (fail)
    have lt0 := K0.out.lt
    have lt1 := K1.out.lt
    have lt2 := K2.out.lt
    have lt3 := K3.out.lt
    have lt4 := K4.out.lt
    have lt5 := K5.out.lt
    refine wp_region_par2 (by kernel_rfl) [145, 146, 147, 148, 149, 150, 151, 152, 153, 154, 155, 156, 157, 158, 159, 160, 161] (RJ w W7.heap.size [.v 145 (.slice (some ⟨g4_9, 0, none⟩) 3 3), .v 146 (.int .i64 0), .v 147 (.int .i64 1), .v 148 (.pointer (some ⟨g4_9, 3, none⟩)), .v 149 (.agg #[.string C1, .string C2, .string C3]), .v 150 (.agg #[.string O1, .string O2, .string O3]), .v 151 (.string P), .v 152 (.int .i64 0), .v 153 (.pointer (some ⟨g1_1, 0, none⟩)), .v 154 (.string M1), .v 155 (.int .i64 0), .v 156 (.int .i64 1), .v 157 (.pointer (some ⟨g1_0, 4, none⟩)), .v 158 (.pointer (some ⟨g1_0, 7, none⟩)), .v 159 (.string C0), .v 160 (.string P), .v 161 (.bool false)] [] [⟨g1_0, #[.string A1, .string A2, .string A3, .string A0, .string C1, .string C2, .string C3, .string C0, .string D1, .string D2, .string D3, .string D0], 27, none⟩, ⟨g1_1, #[.string M1, .string M2], 28, none⟩, ⟨g2_12, #[.string A1, .string A2, .string A3, .string C1, .string C2, .string C3, .string D1, .string D2, .string D3], 24, none⟩, ⟨g3_16, #[.string O1, .string O2, .string O3], 24, none⟩, ⟨g4_9, #[.string A1, .string A2, .string A3, .string C1, .string C2, .string C3, .string D1, .string D2, .string D3], 24, none⟩, ⟨g5_14, #[.string A0, .string C0, .string D0, .string M1, .string M2], 22, none⟩] [] [] [] []) (by kernel_rfl) (by kernel_rfl) (by kernel_rfl) ?_ ?_ ?_
    · exact RJ.drew (RJ.start rfl B.out (by exact ⟨K0.out, K1.out, K2.out, K3.out, K4.out, K5.out, trivial⟩))
    · refine ⟨?_, ?_, ?_, ?_, ?_, ?_, ?_, ?_, ?_, ?_, ?_, ?_, ?_, ?_, ?_, ?_, ?_, trivial⟩
      · rintro L a U ho J hn hd KK hK; refine .free rfl ?_; have r8 : a.tmps[(8 : Nat)]?.getD undef = .slice (some ⟨g4_9, 0, none⟩) 3 3 := ho.slot 8 rfl; go_simp; exact hK.out _ _ (J.st 0 rfl rfl)
      · rintro L a U ho J hn hd KK hK; refine .free rfl ?_; have r9 : a.tmps[(9 : Nat)]?.getD undef = .int .i64 0 := ho.slot 9 rfl; go_simp; exact hK.out _ _ (J.st 1 rfl rfl)
      · rintro L a U ho J hn hd KK hK; refine .free rfl ?_; have r146 := J.read 1 rfl (hd.get 1 rfl); go_simp; exact hK.out _ _ (J.st 2 rfl rfl)
      · rintro L a U ho J hn hd KK hK; refine .free rfl ?_; have r145 := J.read 0 rfl (hd.get 0 rfl); have r147 := J.read 2 rfl (hd.get 2 rfl); go_simp; exact hK.out _ _ (J.st 3 rfl rfl)
      · rintro L a U ho J hn hd KK hK; refine .free rfl ?_; have r148 := J.read 3 rfl (hd.get 3 rfl); have kb := (J.eld 4 rfl); have c3 := kb.at_ 3 _ rfl; have c4 := kb.at_ 4 _ rfl; have c5 := kb.at_ 5 _ rfl; clear kb; go_simp; exact hK.out _ _ (J.st 4 rfl rfl)
      · rintro L a U ho J hn hd KK hK; refine .free rfl ?_; have r5 : a.tmps[(5 : Nat)]?.getD undef = .pointer (some ⟨g3_16, 0, none⟩) := ho.slot 5 rfl; have kb := (J.eld 3 rfl); have c0 := kb.at_ 0 _ rfl; have c1 := kb.at_ 1 _ rfl; have c2 := kb.at_ 2 _ rfl; clear kb; go_simp; exact hK.out _ _ (J.st 5 rfl rfl)
      · rintro L a U ho J hn hd KK hK; refine .free rfl ?_; have r149 := J.read 4 rfl (hd.get 4 rfl); have r150 := J.read 5 rfl (hd.get 5 rfl); go_simp; go_at_call 17; (with_reducible refine (H_D1.out _ J.bb).mono ?_); rintro e wy ⟨rfl, q⟩; go_simp; exact hK.out _ _ (J.sq 6 rfl rfl q)
      · rintro L a U ho J hn hd KK hK; refine .free rfl ?_; have r9 : a.tmps[(9 : Nat)]?.getD undef = .int .i64 0 := ho.slot 9 rfl; go_simp; exact hK.out _ _ (J.st 7 rfl rfl)
      · rintro L a U ho J hn hd KK hK; refine .free rfl ?_; have r3 : a.tmps[(3 : Nat)]?.getD undef = .pointer (some ⟨g1_1, 0, none⟩) := ho.slot 3 rfl; have r152 := J.read 7 rfl (hd.get 7 rfl); go_simp; exact hK.out _ _ (J.st 8 rfl rfl)
      · rintro L a U ho J hn hd KK hK; refine .free rfl ?_; have r153 := J.read 8 rfl (hd.get 8 rfl); have kb := (J.eld 1 rfl); have c0 := kb.at_ 0 _ rfl; clear kb; go_simp; exact hK.out _ _ (J.st 9 rfl rfl)
      · rintro L a U ho J hn hd KK hK; refine .free rfl ?_; have r9 : a.tmps[(9 : Nat)]?.getD undef = .int .i64 0 := ho.slot 9 rfl; go_simp; exact hK.out _ _ (J.st 10 rfl rfl)
      · rintro L a U ho J hn hd KK hK; refine .free rfl ?_; have r155 := J.read 10 rfl (hd.get 10 rfl); go_simp; exact hK.out _ _ (J.st 11 rfl rfl)
      · rintro L a U ho J hn hd KK hK; refine .free rfl ?_; have r2 : a.tmps[(2 : Nat)]?.getD undef = .pointer (some ⟨g1_0, 0, none⟩) := ho.slot 2 rfl; have r156 := J.read 11 rfl (hd.get 11 rfl); go_simp; exact hK.out _ _ (J.st 12 rfl rfl)
      · rintro L a U ho J hn hd KK hK; refine .free rfl ?_; have r157 := J.read 12 rfl (hd.get 12 rfl); go_simp; exact hK.out _ _ (J.st 13 rfl rfl)
      · rintro L a U ho J hn hd KK hK; refine .free rfl ?_; have r158 := J.read 13 rfl (hd.get 13 rfl); have kb := (J.eld 0 rfl); have c7 := kb.at_ 7 _ rfl; clear kb; go_simp; exact hK.out _ _ (J.st 14 rfl rfl)
      · rintro L a U ho J hn hd KK hK; refine .free rfl ?_; have r154 := J.read 9 rfl (hd.get 9 rfl); have r159 := J.read 14 rfl (hd.get 14 rfl); go_simp; go_at_call 20; (with_reducible refine (H_U1.out _ J.bb).mono ?_); rintro e wy ⟨rfl, q⟩; go_simp; exact hK.out _ _ (J.sq 15 rfl rfl q)
      · rintro L a U ho J hn hd KK hK; refine .free rfl ?_; have r151 := J.read 6 rfl (hd.get 6 rfl); have r160 := J.read 15 rfl (hd.get 15 rfl); go_simp; exact hK.out _ _ (J.st 16 rfl rfl)
    rintro L σ W8 J hL
    have hf := J.fin rfl hL
    simp only [finR] at hf
    replace K0 := Lib.hid (J.eld 0 rfl)
    replace K1 := Lib.hid (J.eld 1 rfl)
    replace K2 := Lib.hid (J.eld 2 rfl)
    replace K3 := Lib.hid (J.eld 3 rfl)
    replace K4 := Lib.hid (J.eld 4 rfl)
    replace K5 := Lib.hid (J.eld 5 rfl)
    replace B := Lib.hid J.bb
    clear J hL
    clear lt0 lt1 lt2 lt3 lt4 lt5
    rw [show List.map σ [145, 146, 147, 148, 149, 150, 151, 152, 153, 154, 155, 156, 157, 158, 159, 160, 161] = _ from hf]
    clear hf
    simp only [putAll, List.map, Act.put, List.setIfInBounds_toArray, List.set_cons_succ, List.set_cons_zero]
    go_wp2
    rw [rounds_succ]
    go_upto_region 17 with (fail)
    have lt0 := K0.out.lt
    have lt1 := K1.out.lt
    have lt2 := K2.out.lt
    have lt3 := K3.out.lt
    have lt4 := K4.out.lt
    have lt5 := K5.out.lt
    refine wp_region_par2 (by kernel_rfl) [145, 146, 147, 148, 149, 150, 151, 152, 153, 154, 155, 156, 157, 158, 159, 160, 161] (RJ w W8.heap.size [.v 145 (.slice (some ⟨g4_9, 0, none⟩) 3 3), .v 146 (.int .i64 1), .v 147 (.int .i64 2), .v 148 (.pointer (some ⟨g4_9, 6, none⟩)), .v 149 (.agg #[.string D1, .string D2, .string D3]), .v 150 (.agg #[.string O1, .string O2, .string O3]), .v 151 (.string Q), .v 152 (.int .i64 1), .v 153 (.pointer (some ⟨g1_1, 1, none⟩)), .v 154 (.string M2), .v 155 (.int .i64 1), .v 156 (.int .i64 2), .v 157 (.pointer (some ⟨g1_0, 8, none⟩)), .v 158 (.pointer (some ⟨g1_0, 11, none⟩)), .v 159 (.string D0), .v 160 (.string Q), .v 161 (.bool false)] [] [⟨g1_0, #[.string A1, .string A2, .string A3, .string A0, .string C1, .string C2, .string C3, .string C0, .string D1, .string D2, .string D3, .string D0], 27, none⟩, ⟨g1_1, #[.string M1, .string M2], 28, none⟩, ⟨g2_12, #[.string A1, .string A2, .string A3, .string C1, .string C2, .string C3, .string D1, .string D2, .string D3], 24, none⟩, ⟨g3_16, #[.string O1, .string O2, .string O3], 24, none⟩, ⟨g4_9, #[.string A1, .string A2, .string A3, .string C1, .string C2, .string C3, .string D1, .string D2, .string D3], 24, none⟩, ⟨g5_14, #[.string A0, .string C0, .string D0, .string M1, .string M2], 22, none⟩] [] [] [] []) (by kernel_rfl) (by kernel_rfl) (by kernel_rfl) ?_ ?_ ?_
    · exact RJ.drew (RJ.start rfl B.out (by exact ⟨K0.out, K1.out, K2.out, K3.out, K4.out, K5.out, trivial⟩))
    · refine ⟨?_, ?_, ?_, ?_, ?_, ?_, ?_, ?_, ?_, ?_, ?_, ?_, ?_, ?_, ?_, ?_, ?_, trivial⟩
      · rintro L a U ho J hn hd KK hK; refine .free rfl ?_; have r8 : a.tmps[(8 : Nat)]?.getD undef = .slice (some ⟨g4_9, 0, none⟩) 3 3 := ho.slot 8 rfl; go_simp; exact hK.out _ _ (J.st 0 rfl rfl)
      · rintro L a U ho J hn hd KK hK; refine .free rfl ?_; have r9 : a.tmps[(9 : Nat)]?.getD undef = .int .i64 1 := ho.slot 9 rfl; go_simp; exact hK.out _ _ (J.st 1 rfl rfl)
      · rintro L a U ho J hn hd KK hK; refine .free rfl ?_; have r146 := J.read 1 rfl (hd.get 1 rfl); go_simp; exact hK.out _ _ (J.st 2 rfl rfl)
      · rintro L a U ho J hn hd KK hK; refine .free rfl ?_; have r145 := J.read 0 rfl (hd.get 0 rfl); have r147 := J.read 2 rfl (hd.get 2 rfl); go_simp; exact hK.out _ _ (J.st 3 rfl rfl)
      · rintro L a U ho J hn hd KK hK; refine .free rfl ?_; have r148 := J.read 3 rfl (hd.get 3 rfl); have kb := (J.eld 4 rfl); have c6 := kb.at_ 6 _ rfl; have c7 := kb.at_ 7 _ rfl; have c8 := kb.at_ 8 _ rfl; clear kb; go_simp; exact hK.out _ _ (J.st 4 rfl rfl)
      · rintro L a U ho J hn hd KK hK; refine .free rfl ?_; have r5 : a.tmps[(5 : Nat)]?.getD undef = .pointer (some ⟨g3_16, 0, none⟩) := ho.slot 5 rfl; have kb := (J.eld 3 rfl); have c0 := kb.at_ 0 _ rfl; have c1 := kb.at_ 1 _ rfl; have c2 := kb.at_ 2 _ rfl; clear kb; go_simp; exact hK.out _ _ (J.st 5 rfl rfl)
      · rintro L a U ho J hn hd KK hK; refine .free rfl ?_; have r149 := J.read 4 rfl (hd.get 4 rfl); have r150 := J.read 5 rfl (hd.get 5 rfl); go_simp; go_at_call 17; (with_reducible refine (H_D2.out _ J.bb).mono ?_); rintro e wy ⟨rfl, q⟩; go_simp; exact hK.out _ _ (J.sq 6 rfl rfl q)
      · rintro L a U ho J hn hd KK hK; refine .free rfl ?_; have r9 : a.tmps[(9 : Nat)]?.getD undef = .int .i64 1 := ho.slot 9 rfl; go_simp; exact hK.out _ _ (J.st 7 rfl rfl)
      · rintro L a U ho J hn hd KK hK; refine .free rfl ?_; have r3 : a.tmps[(3 : Nat)]?.getD undef = .pointer (some ⟨g1_1, 0, none⟩) := ho.slot 3 rfl; have r152 := J.read 7 rfl (hd.get 7 rfl); go_simp; exact hK.out _ _ (J.st 8 rfl rfl)
      · rintro L a U ho J hn hd KK hK; refine .free rfl ?_; have r153 := J.read 8 rfl (hd.get 8 rfl); have kb := (J.eld 1 rfl); have c1 := kb.at_ 1 _ rfl; clear kb; go_simp; exact hK.out _ _ (J.st 9 rfl rfl)
      · rintro L a U ho J hn hd KK hK; refine .free rfl ?_; have r9 : a.tmps[(9 : Nat)]?.getD undef = .int .i64 1 := ho.slot 9 rfl; go_simp; exact hK.out _ _ (J.st 10 rfl rfl)
      · rintro L a U ho J hn hd KK hK; refine .free rfl ?_; have r155 := J.read 10 rfl (hd.get 10 rfl); go_simp; exact hK.out _ _ (J.st 11 rfl rfl)
      · rintro L a U ho J hn hd KK hK; refine .free rfl ?_; have r2 : a.tmps[(2 : Nat)]?.getD undef = .pointer (some ⟨g1_0, 0, none⟩) := ho.slot 2 rfl; have r156 := J.read 11 rfl (hd.get 11 rfl); go_simp; exact hK.out _ _ (J.st 12 rfl rfl)
      · rintro L a U ho J hn hd KK hK; refine .free rfl ?_; have r157 := J.read 12 rfl (hd.get 12 rfl); go_simp; exact hK.out _ _ (J.st 13 rfl rfl)
      · rintro L a U ho J hn hd KK hK; refine .free rfl ?_; have r158 := J.read 13 rfl (hd.get 13 rfl); have kb := (J.eld 0 rfl); have c11 := kb.at_ 11 _ rfl; clear kb; go_simp; exact hK.out _ _ (J.st 14 rfl rfl)
      · rintro L a U ho J hn hd KK hK; refine .free rfl ?_; have r154 := J.read 9 rfl (hd.get 9 rfl); have r159 := J.read 14 rfl (hd.get 14 rfl); go_simp; go_at_call 20; (with_reducible refine (H_U2.out _ J.bb).mono ?_); rintro e wy ⟨rfl, q⟩; go_simp; exact hK.out _ _ (J.sq 15 rfl rfl q)
      · rintro L a U ho J hn hd KK hK; refine .free rfl ?_; have r151 := J.read 6 rfl (hd.get 6 rfl); have r160 := J.read 15 rfl (hd.get 15 rfl); go_simp; exact hK.out _ _ (J.st 16 rfl rfl)
    rintro L σ W9 J hL
    have hf := J.fin rfl hL
    simp only [finR] at hf
    replace K0 := Lib.hid (J.eld 0 rfl)
    replace K1 := Lib.hid (J.eld 1 rfl)
    replace K2 := Lib.hid (J.eld 2 rfl)
    replace K3 := Lib.hid (J.eld 3 rfl)
    replace K4 := Lib.hid (J.eld 4 rfl)
    replace K5 := Lib.hid (J.eld 5 rfl)
    replace B := Lib.hid J.bb
    clear J hL
    clear lt0 lt1 lt2 lt3 lt4 lt5
    rw [show List.map σ [145, 146, 147, 148, 149, 150, 151, 152, 153, 154, 155, 156, 157, 158, 159, 160, 161] = _ from hf]
    clear hf
    simp only [putAll, List.map, Act.put, List.setIfInBounds_toArray, List.set_cons_succ, List.set_cons_zero]
    go_wp2
    rw [rounds_succ]
    go_wp2
    go_ret
    exact ⟨rfl, B.out⟩
  · skip
    have H_SE := Lib.hid (h_se hok)
    clear h_se
    go_upto_region 3 with (fail)
    have lt0 := K0.out.lt
    have lt1 := K1.out.lt
    have lt2 := K2.out.lt
    refine wp_region_seq2 [50, 51, 52, 53, 54, 55, 56, 57, 58, 59, 60, 61, 62, 49, 63, 64, 5, 6] (RJ w W2.heap.size [.v 50 (.pointer (some ⟨g1_0, 0, none⟩)), .v 51 (.agg #[.string A1, .string A2, .string A3, .string A0]), .v 52 (.pointer (some ⟨g1_0, 4, none⟩)), .v 53 (.agg #[.string C1, .string C2, .string C3, .string C0]), .v 54 (.pointer (some ⟨g1_1, 0, none⟩)), .v 55 (.string M1), .v 56 (.agg #[.string C1, .string C2, .string C3, .string C0, .string M1]), .v 57 (.pointer (some ⟨g1_0, 8, none⟩)), .v 58 (.agg #[.string D1, .string D2, .string D3, .string D0]), .v 59 (.pointer (some ⟨g1_1, 1, none⟩)), .v 60 (.string M2), .v 61 (.agg #[.string D1, .string D2, .string D3, .string D0, .string M2]), .v 62 (.tuple #[.agg #[.string ⟨#[]⟩, .string ⟨#[]⟩, .string ⟨#[]⟩], .int .i64 er]), .v 49 (.tuple #[.agg #[.string ⟨#[]⟩, .string ⟨#[]⟩, .string ⟨#[]⟩], .int .i64 er]), .v 63 (.agg #[.string ⟨#[]⟩, .string ⟨#[]⟩, .string ⟨#[]⟩]), .v 64 (.int .i64 er), .n 5, .z, .v 6 (.int .i64 er)] [⟨16, 5, fun g => .pointer (some ⟨g, 0, none⟩), #[.string ⟨#[]⟩, .string ⟨#[]⟩, .string ⟨#[]⟩], 24, some (17, #[.string ⟨#[]⟩, .string ⟨#[]⟩, .string ⟨#[]⟩])⟩] [⟨g1_0, #[.string A1, .string A2, .string A3, .string A0, .string C1, .string C2, .string C3, .string C0, .string D1, .string D2, .string D3, .string D0], 27, none⟩, ⟨g1_1, #[.string M1, .string M2], 28, none⟩, ⟨g2_12, #[.string A1, .string A2, .string A3, .string C1, .string C2, .string C3, .string D1, .string D2, .string D3], 24, none⟩] [] [(17, 16)] [] []) (by kernel_rfl) (by kernel_rfl) ?_ ?_ ?_
    · exact RJ.start rfl B.out (by exact ⟨K0.out, K1.out, K2.out, trivial⟩)
    · refine ⟨?_, ?_, ?_, ?_, ?_, ?_, ?_, ?_, ?_, ?_, ?_, ?_, ?_, ?_, ?_, ?_, ?_, ?_, ?_, trivial⟩
      · rintro L a U ho J hn hd KK hK; refine .free rfl ?_; have r2 : a.tmps[(2 : Nat)]?.getD undef = .pointer (some ⟨g1_0, 0, none⟩) := ho.slot 2 rfl; go_simp; exact hK.out _ _ (J.st 0 rfl rfl)
      · rintro L a U ho J hn hd KK hK; refine .free rfl ?_; have r50 := J.read 0 rfl (hd 0 rfl); have kb := (J.eld 0 rfl); have c0 := kb.at_ 0 _ rfl; have c1 := kb.at_ 1 _ rfl; have c2 := kb.at_ 2 _ rfl; have c3 := kb.at_ 3 _ rfl; clear kb; go_simp; exact hK.out _ _ (J.st 1 rfl rfl)
      · rintro L a U ho J hn hd KK hK; refine .free rfl ?_; have r2 : a.tmps[(2 : Nat)]?.getD undef = .pointer (some ⟨g1_0, 0, none⟩) := ho.slot 2 rfl; go_simp; exact hK.out _ _ (J.st 2 rfl rfl)
      · rintro L a U ho J hn hd KK hK; refine .free rfl ?_; have r52 := J.read 2 rfl (hd 2 rfl); have kb := (J.eld 0 rfl); have c4 := kb.at_ 4 _ rfl; have c5 := kb.at_ 5 _ rfl; have c6 := kb.at_ 6 _ rfl; have c7 := kb.at_ 7 _ rfl; clear kb; go_simp; exact hK.out _ _ (J.st 3 rfl rfl)
      · rintro L a U ho J hn hd KK hK; refine .free rfl ?_; have r3 : a.tmps[(3 : Nat)]?.getD undef = .pointer (some ⟨g1_1, 0, none⟩) := ho.slot 3 rfl; go_simp; exact hK.out _ _ (J.st 4 rfl rfl)
      · rintro L a U ho J hn hd KK hK; refine .free rfl ?_; have r54 := J.read 4 rfl (hd 4 rfl); have kb := (J.eld 1 rfl); have c0 := kb.at_ 0 _ rfl; clear kb; go_simp; exact hK.out _ _ (J.st 5 rfl rfl)
      · rintro L a U ho J hn hd KK hK; refine .free rfl ?_; have r53 := J.read 3 rfl (hd 3 rfl); have r55 := J.read 5 rfl (hd 5 rfl); go_simp; exact hK.out _ _ (J.st 6 rfl rfl)
      · rintro L a U ho J hn hd KK hK; refine .free rfl ?_; have r2 : a.tmps[(2 : Nat)]?.getD undef = .pointer (some ⟨g1_0, 0, none⟩) := ho.slot 2 rfl; go_simp; exact hK.out _ _ (J.st 7 rfl rfl)
      · rintro L a U ho J hn hd KK hK; refine .free rfl ?_; have r57 := J.read 7 rfl (hd 7 rfl); have kb := (J.eld 0 rfl); have c8 := kb.at_ 8 _ rfl; have c9 := kb.at_ 9 _ rfl; have c10 := kb.at_ 10 _ rfl; have c11 := kb.at_ 11 _ rfl; clear kb; go_simp; exact hK.out _ _ (J.st 8 rfl rfl)
      · rintro L a U ho J hn hd KK hK; refine .free rfl ?_; have r3 : a.tmps[(3 : Nat)]?.getD undef = .pointer (some ⟨g1_1, 0, none⟩) := ho.slot 3 rfl; go_simp; exact hK.out _ _ (J.st 9 rfl rfl)
      · rintro L a U ho J hn hd KK hK; refine .free rfl ?_; have r59 := J.read 9 rfl (hd 9 rfl); have kb := (J.eld 1 rfl); have c1 := kb.at_ 1 _ rfl; clear kb; go_simp; exact hK.out _ _ (J.st 10 rfl rfl)
      · rintro L a U ho J hn hd KK hK; refine .free rfl ?_; have r58 := J.read 8 rfl (hd 8 rfl); have r60 := J.read 10 rfl (hd 10 rfl); go_simp; exact hK.out _ _ (J.st 11 rfl rfl)
      · rintro L a U ho J hn hd KK hK; refine .free rfl ?_; have r51 := J.read 1 rfl (hd 1 rfl); have r56 := J.read 6 rfl (hd 6 rfl); have r61 := J.read 11 rfl (hd 11 rfl); go_simp; go_at_call 13; (with_reducible refine (H_SE.out _ J.bb).mono ?_); rintro e wy ⟨rfl, q⟩; go_simp; exact hK.out _ _ (J.sq 12 rfl rfl q)
      · rintro L a U ho J hn hd KK hK; refine .free rfl ?_; have r62 := J.read 12 rfl (hd 12 rfl); go_simp; exact hK.out _ _ (J.st 13 rfl rfl)
      · rintro L a U ho J hn hd KK hK; refine .free rfl ?_; have r49 := J.read 13 rfl (hd 13 rfl); go_simp; exact hK.out _ _ (J.st 14 rfl rfl)
      · rintro L a U ho J hn hd KK hK; refine .free rfl ?_; have r49 := J.read 13 rfl (hd 13 rfl); go_simp; exact hK.out _ _ (J.st 15 rfl rfl)
      · rintro L a U ho J hn hd KK hK; refine .free rfl ?_; go_simp; exact hK.out _ _ (J.mf 16 0 rfl rfl rfl rfl rfl hn)
      · rintro L a U ho J hn hd KK hK; refine .free rfl ?_; have r5 : a.tmps[(5 : Nat)]?.getD undef = .pointer (some ⟨(blkOf (slotOf a 5)), 0, none⟩) := J.readN 0 rfl (hd 16 rfl); have r63 := J.read 14 rfl (hd 14 rfl); have kb := (J.nwB 0 rfl (hd 16 rfl) hn).blk; have c0 := kb.at_ 0 _ rfl; have z0 := kb.free 0; have c1 := kb.at_ 1 _ rfl; have z1 := kb.free 1; have c2 := kb.at_ 2 _ rfl; have z2 := kb.free 2; clear kb; go_simp; exact hK.out undef _ (J.storedN 17 0 rfl rfl rfl rfl rfl 0 [.string ⟨#[]⟩, .string ⟨#[]⟩, .string ⟨#[]⟩] rfl ⟨lt0, lt1, lt2, trivial⟩ (hd 16 rfl) hn ⟨.inr (hd 16 rfl), trivial⟩)
      · rintro L a U ho J hn hd KK hK; refine .free rfl ?_; have r64 := J.read 15 rfl (hd 15 rfl); go_simp; exact hK.out _ _ (J.st 18 rfl rfl)
    rintro L σ W3 J hL
    have hf := J.fin rfl hL
    simp only [finR] at hf
    obtain ⟨e3, l3, k3⟩ := J.nwW 0 rfl (hL 16 (by decide)) (hL 17 (by decide))
    replace K0 := Lib.hid (J.eld 0 rfl)
    replace K1 := Lib.hid (J.eld 1 rfl)
    replace K2 := Lib.hid (J.eld 2 rfl)
    have low := J.low
    replace B := Lib.hid J.bb
    clear J hL
    try dsimp only at e3
    generalize blkOf (σ 5) = g3_16 at *
    have K3 := Lib.hid k3
    have L3 := Lib.hid (Nat.le_trans low l3)
    clear lt0 lt1 lt2 l3 k3 low
    rw [show List.map σ [50, 51, 52, 53, 54, 55, 56, 57, 58, 59, 60, 61, 62, 49, 63, 64, 5, 6] = _ from hf, e3]
    clear hf e3
    simp only [putAll, List.map, Act.put, List.setIfInBounds_toArray, List.set_cons_succ, List.set_cons_zero]
    have c3_0 := K3.out.at_ 0 _ rfl
    have c3_1 := K3.out.at_ 1 _ rfl
    have c3_2 := K3.out.at_ 2 _ rfl
    go_upto_region 5 with (fail)
    clear c3_0 c3_1 c3_2
    have lt0 := K0.out.lt
    have lt1 := K1.out.lt
    have lt2 := K2.out.lt
    have lt3 := K3.out.lt
    refine wp_region_seq2 [68, 69, 70, 71, 72, 73, 74, 75, 76, 77, 8] (RJ w W3.heap.size [.v 68 (.pointer (some ⟨g1_0, 0, none⟩)), .v 69 (.pointer (some ⟨g1_0, 0, none⟩)), .v 70 (.agg #[.string A1, .string A2, .string A3]), .v 71 (.pointer (some ⟨g1_0, 4, none⟩)), .v 72 (.pointer (some ⟨g1_0, 4, none⟩)), .v 73 (.agg #[.string C1, .string C2, .string C3]), .v 74 (.pointer (some ⟨g1_0, 8, none⟩)), .v 75 (.pointer (some ⟨g1_0, 8, none⟩)), .v 76 (.agg #[.string D1, .string D2, .string D3]), .n 77, .n 8] [⟨9, 77, fun g => .slice (some ⟨g, 0, none⟩) 3 3, #[.string A1, .string A2, .string A3, .string C1, .string C2, .string C3, .string D1, .string D2, .string D3], 24, none⟩] [⟨g1_0, #[.string A1, .string A2, .string A3, .string A0, .string C1, .string C2, .string C3, .string C0, .string D1, .string D2, .string D3, .string D0], 27, none⟩, ⟨g1_1, #[.string M1, .string M2], 28, none⟩, ⟨g2_12, #[.string A1, .string A2, .string A3, .string C1, .string C2, .string C3, .string D1, .string D2, .string D3], 24, none⟩, ⟨g3_16, #[.string ⟨#[]⟩, .string ⟨#[]⟩, .string ⟨#[]⟩], 24, none⟩] [⟨10, 8, 77, 9, fun g => .slice (some ⟨g, 0, none⟩) 3 3⟩] [] [] []) (by kernel_rfl) (by kernel_rfl) ?_ ?_ ?_
    · exact RJ.start rfl B.out (by exact ⟨K0.out, K1.out, K2.out, K3.out, trivial⟩)
    · refine ⟨?_, ?_, ?_, ?_, ?_, ?_, ?_, ?_, ?_, ?_, ?_, trivial⟩
      · rintro L a U ho J hn hd KK hK; refine .free rfl ?_; have r2 : a.tmps[(2 : Nat)]?.getD undef = .pointer (some ⟨g1_0, 0, none⟩) := ho.slot 2 rfl; go_simp; exact hK.out _ _ (J.st 0 rfl rfl)
      · rintro L a U ho J hn hd KK hK; refine .free rfl ?_; have r68 := J.read 0 rfl (hd 0 rfl); go_simp; exact hK.out _ _ (J.st 1 rfl rfl)
      · rintro L a U ho J hn hd KK hK; refine .free rfl ?_; have r69 := J.read 1 rfl (hd 1 rfl); have kb := (J.eld 0 rfl); have c0 := kb.at_ 0 _ rfl; have c1 := kb.at_ 1 _ rfl; have c2 := kb.at_ 2 _ rfl; clear kb; go_simp; exact hK.out _ _ (J.st 2 rfl rfl)
      · rintro L a U ho J hn hd KK hK; refine .free rfl ?_; have r2 : a.tmps[(2 : Nat)]?.getD undef = .pointer (some ⟨g1_0, 0, none⟩) := ho.slot 2 rfl; go_simp; exact hK.out _ _ (J.st 3 rfl rfl)
      · rintro L a U ho J hn hd KK hK; refine .free rfl ?_; have r71 := J.read 3 rfl (hd 3 rfl); go_simp; exact hK.out _ _ (J.st 4 rfl rfl)
      · rintro L a U ho J hn hd KK hK; refine .free rfl ?_; have r72 := J.read 4 rfl (hd 4 rfl); have kb := (J.eld 0 rfl); have c4 := kb.at_ 4 _ rfl; have c5 := kb.at_ 5 _ rfl; have c6 := kb.at_ 6 _ rfl; clear kb; go_simp; exact hK.out _ _ (J.st 5 rfl rfl)
      · rintro L a U ho J hn hd KK hK; refine .free rfl ?_; have r2 : a.tmps[(2 : Nat)]?.getD undef = .pointer (some ⟨g1_0, 0, none⟩) := ho.slot 2 rfl; go_simp; exact hK.out _ _ (J.st 6 rfl rfl)
      · rintro L a U ho J hn hd KK hK; refine .free rfl ?_; have r74 := J.read 6 rfl (hd 6 rfl); go_simp; exact hK.out _ _ (J.st 7 rfl rfl)
      · rintro L a U ho J hn hd KK hK; refine .free rfl ?_; have r75 := J.read 7 rfl (hd 7 rfl); have kb := (J.eld 0 rfl); have c8 := kb.at_ 8 _ rfl; have c9 := kb.at_ 9 _ rfl; have c10 := kb.at_ 10 _ rfl; clear kb; go_simp; exact hK.out _ _ (J.st 8 rfl rfl)
      · rintro L a U ho J hn hd KK hK; refine .free rfl ?_; have r70 := J.read 2 rfl (hd 2 rfl); have r73 := J.read 5 rfl (hd 5 rfl); have r76 := J.read 8 rfl (hd 8 rfl); go_simp; exact hK.out _ _ (J.mf 9 0 rfl rfl rfl rfl rfl hn)
      · rintro L a U ho J hn hd KK hK; refine .free rfl ?_; have r77 : a.tmps[(77 : Nat)]?.getD undef = .slice (some ⟨(blkOf (slotOf a 77)), 0, none⟩) 3 3 := J.readN 0 rfl (hd 9 rfl); go_simp; exact hK.out _ _ (J.way 10 0 rfl rfl rfl rfl rfl rfl rfl (hd 9 rfl) hn)
    rintro L σ W4 J hL
    have hf := J.fin rfl hL
    simp only [finR] at hf
    obtain ⟨e4, l4, k4⟩ := J.nw 0 rfl (hL 9 (by decide))
    have ja10 : σ 8 = .slice (some ⟨(blkOf (σ 77)), 0, none⟩) 3 3 := (J.als 0 _ rfl (hL 10 (by decide))).1
    replace K0 := Lib.hid (J.eld 0 rfl)
    replace K1 := Lib.hid (J.eld 1 rfl)
    replace K2 := Lib.hid (J.eld 2 rfl)
    replace K3 := Lib.hid (J.eld 3 rfl)
    have low := J.low
    replace B := Lib.hid J.bb
    clear J hL
    try dsimp only at e4
    generalize blkOf (σ 77) = g4_9 at *
    have K4 := Lib.hid k4
    have L4 := Lib.hid (Nat.le_trans low l4)
    clear lt0 lt1 lt2 lt3 l4 k4 low
    rw [show List.map σ [68, 69, 70, 71, 72, 73, 74, 75, 76, 77, 8] = _ from hf, e4, ja10]
    clear hf e4 ja10
    simp only [putAll, List.map, Act.put, List.setIfInBounds_toArray, List.set_cons_succ, List.set_cons_zero]
    go_upto_region 6 with (fail)
    by_cases hnu : nu = true
    · skip
      have H_NU := Lib.hid (h_nu hnu)
      clear h_nu
      go_upto_region 6 with (fail)
      have lt0 := K0.out.lt
      have lt1 := K1.out.lt
      have lt2 := K2.out.lt
      have lt3 := K3.out.lt
      have lt4 := K4.out.lt
      refine wp_region_seq2 [79, 80, 81, 82, 83, 84, 85, 86, 87, 88, 89, 90, 91, 92, 93, 94, 95, 78] (RJ w W4.heap.size [.v 79 (.slice (some ⟨g4_9, 0, none⟩) 3 3), .v 80 (.pointer (some ⟨g1_0, 0, none⟩)), .v 81 (.pointer (some ⟨g1_0, 3, none⟩)), .v 82 (.string A0), .v 83 (.pointer (some ⟨g1_0, 4, none⟩)), .v 84 (.pointer (some ⟨g1_0, 7, none⟩)), .v 85 (.string C0), .v 86 (.pointer (some ⟨g1_0, 8, none⟩)), .v 87 (.pointer (some ⟨g1_0, 11, none⟩)), .v 88 (.string D0), .v 89 (.pointer (some ⟨g1_1, 0, none⟩)), .v 90 (.string M1), .v 91 (.pointer (some ⟨g1_1, 1, none⟩)), .v 92 (.string M2), .n 93, .v 94 (.bool true), .v 95 (.bool false), .v 78 (.bool false)] [⟨14, 93, fun g => .slice (some ⟨g, 0, none⟩) 5 5, #[.string A0, .string C0, .string D0, .string M1, .string M2], 22, none⟩] [⟨g1_0, #[.string A1, .string A2, .string A3, .string A0, .string C1, .string C2, .string C3, .string C0, .string D1, .string D2, .string D3, .string D0], 27, none⟩, ⟨g1_1, #[.string M1, .string M2], 28, none⟩, ⟨g2_12, #[.string A1, .string A2, .string A3, .string C1, .string C2, .string C3, .string D1, .string D2, .string D3], 24, none⟩, ⟨g3_16, #[.string ⟨#[]⟩, .string ⟨#[]⟩, .string ⟨#[]⟩], 24, none⟩, ⟨g4_9, #[.string A1, .string A2, .string A3, .string C1, .string C2, .string C3, .string D1, .string D2, .string D3], 24, none⟩] [] [] [] []) (by kernel_rfl) (by kernel_rfl) ?_ ?_ ?_
      · exact RJ.start rfl B.out (by exact ⟨K0.out, K1.out, K2.out, K3.out, K4.out, trivial⟩)
      · refine ⟨?_, ?_, ?_, ?_, ?_, ?_, ?_, ?_, ?_, ?_, ?_, ?_, ?_, ?_, ?_, ?_, ?_, ?_, trivial⟩
        · rintro L a U ho J hn hd KK hK; refine .free rfl ?_; have r8 : a.tmps[(8 : Nat)]?.getD undef = .slice (some ⟨g4_9, 0, none⟩) 3 3 := ho.slot 8 rfl; go_simp; exact hK.out _ _ (J.st 0 rfl rfl)
        · rintro L a U ho J hn hd KK hK; refine .free rfl ?_; have r2 : a.tmps[(2 : Nat)]?.getD undef = .pointer (some ⟨g1_0, 0, none⟩) := ho.slot 2 rfl; go_simp; exact hK.out _ _ (J.st 1 rfl rfl)
        · rintro L a U ho J hn hd KK hK; refine .free rfl ?_; have r80 := J.read 1 rfl (hd 1 rfl); go_simp; exact hK.out _ _ (J.st 2 rfl rfl)
        · rintro L a U ho J hn hd KK hK; refine .free rfl ?_; have r81 := J.read 2 rfl (hd 2 rfl); have kb := (J.eld 0 rfl); have c3 := kb.at_ 3 _ rfl; clear kb; go_simp; exact hK.out _ _ (J.st 3 rfl rfl)
        · rintro L a U ho J hn hd KK hK; refine .free rfl ?_; have r2 : a.tmps[(2 : Nat)]?.getD undef = .pointer (some ⟨g1_0, 0, none⟩) := ho.slot 2 rfl; go_simp; exact hK.out _ _ (J.st 4 rfl rfl)
        · rintro L a U ho J hn hd KK hK; refine .free rfl ?_; have r83 := J.read 4 rfl (hd 4 rfl); go_simp; exact hK.out _ _ (J.st 5 rfl rfl)
        · rintro L a U ho J hn hd KK hK; refine .free rfl ?_; have r84 := J.read 5 rfl (hd 5 rfl); have kb := (J.eld 0 rfl); have c7 := kb.at_ 7 _ rfl; clear kb; go_simp; exact hK.out _ _ (J.st 6 rfl rfl)
        · rintro L a U ho J hn hd KK hK; refine .free rfl ?_; have r2 : a.tmps[(2 : Nat)]?.getD undef = .pointer (some ⟨g1_0, 0, none⟩) := ho.slot 2 rfl; go_simp; exact hK.out _ _ (J.st 7 rfl rfl)
        · rintro L a U ho J hn hd KK hK; refine .free rfl ?_; have r86 := J.read 7 rfl (hd 7 rfl); go_simp; exact hK.out _ _ (J.st 8 rfl rfl)
        · rintro L a U ho J hn hd KK hK; refine .free rfl ?_; have r87 := J.read 8 rfl (hd 8 rfl); have kb := (J.eld 0 rfl); have c11 := kb.at_ 11 _ rfl; clear kb; go_simp; exact hK.out _ _ (J.st 9 rfl rfl)
        · rintro L a U ho J hn hd KK hK; refine .free rfl ?_; have r3 : a.tmps[(3 : Nat)]?.getD undef = .pointer (some ⟨g1_1, 0, none⟩) := ho.slot 3 rfl; go_simp; exact hK.out _ _ (J.st 10 rfl rfl)
        · rintro L a U ho J hn hd KK hK; refine .free rfl ?_; have r89 := J.read 10 rfl (hd 10 rfl); have kb := (J.eld 1 rfl); have c0 := kb.at_ 0 _ rfl; clear kb; go_simp; exact hK.out _ _ (J.st 11 rfl rfl)
        · rintro L a U ho J hn hd KK hK; refine .free rfl ?_; have r3 : a.tmps[(3 : Nat)]?.getD undef = .pointer (some ⟨g1_1, 0, none⟩) := ho.slot 3 rfl; go_simp; exact hK.out _ _ (J.st 12 rfl rfl)
        · rintro L a U ho J hn hd KK hK; refine .free rfl ?_; have r91 := J.read 12 rfl (hd 12 rfl); have kb := (J.eld 1 rfl); have c1 := kb.at_ 1 _ rfl; clear kb; go_simp; exact hK.out _ _ (J.st 13 rfl rfl)
        · rintro L a U ho J hn hd KK hK; refine .free rfl ?_; have r82 := J.read 3 rfl (hd 3 rfl); have r85 := J.read 6 rfl (hd 6 rfl); have r88 := J.read 9 rfl (hd 9 rfl); have r90 := J.read 11 rfl (hd 11 rfl); have r92 := J.read 13 rfl (hd 13 rfl); go_simp; exact hK.out _ _ (J.mf 14 0 rfl rfl rfl rfl rfl hn)
        · rintro L a U ho J hn hd KK hK; refine .free rfl ?_; have r79 := J.read 0 rfl (hd 0 rfl); have r93 : a.tmps[(93 : Nat)]?.getD undef = .slice (some ⟨(blkOf (slotOf a 93)), 0, none⟩) 5 5 := J.readN 0 rfl (hd 14 rfl); go_simp; go_at_call 14; (with_reducible refine (H_NU.out _ _ _ (J.eld 4 rfl) (J.nw 0 rfl (hd 14 rfl)).blk J.bb).mono ?_); rintro e wy ⟨rfl, q⟩; go_simp; exact hK.out _ _ (J.sq 15 rfl rfl q)
        · rintro L a U ho J hn hd KK hK; refine .free rfl ?_; have r94 := J.read 15 rfl (hd 15 rfl); go_simp; exact hK.out _ _ (J.st 16 rfl rfl)
        · rintro L a U ho J hn hd KK hK; refine .free rfl ?_; have r95 := J.read 16 rfl (hd 16 rfl); go_simp; exact hK.out _ _ (J.st 17 rfl rfl)
      rintro L σ W5 J hL
      have hf := J.fin rfl hL
      simp only [finR] at hf
      obtain ⟨e5, l5, k5⟩ := J.nw 0 rfl (hL 14 (by decide))
      replace K0 := Lib.hid (J.eld 0 rfl)
      replace K1 := Lib.hid (J.eld 1 rfl)
      replace K2 := Lib.hid (J.eld 2 rfl)
      replace K3 := Lib.hid (J.eld 3 rfl)
      replace K4 := Lib.hid (J.eld 4 rfl)
      have low := J.low
      replace B := Lib.hid J.bb
      clear J hL
      try dsimp only at e5
      generalize blkOf (σ 93) = g5_14 at *
      have K5 := Lib.hid k5
      have L5 := Lib.hid (Nat.le_trans low l5)
      clear lt0 lt1 lt2 lt3 lt4 l5 k5 low
      rw [show List.map σ [79, 80, 81, 82, 83, 84, 85, 86, 87, 88, 89, 90, 91, 92, 93, 94, 95, 78] = _ from hf, e5]
      clear hf e5
      simp only [putAll, List.map, Act.put, List.setIfInBounds_toArray, List.set_cons_succ, List.set_cons_zero]
      go_upto_region 8 with (fail)
      by_cases haz : az = true
      · skip
        have q := f2 hok hnu haz
        have H_AT := Lib.hid (h_at ⟨hnu, haz⟩)
        clear h_at
        go_wp2_with (
         (first
          | (go_at_call 15; with_reducible refine (H_AT.out _ _ (K4.out.atI) (baseI B.out)).mono ?_)
          | fail "arm"); rintro e wx ⟨rfl, q⟩; replace K0 := Lib.hid (K0.out.nearI q); replace K1 := Lib.hid (K1.out.nearI q); replace K2 := Lib.hid (K2.out.nearI q); replace K3 := Lib.hid (K3.out.nearI q); replace K4 := Lib.hid (K4.out.nearI q); replace K5 := Lib.hid (K5.out.nearI q); replace B := Lib.hid (goI B.out q); clear q)
        go_ret
        exact ⟨rfl, B.out⟩
      · skip
        have q := f3 hok hnu haz
        have ht := f4 hok hnu haz
        have H_AZ := Lib.hid (h_az ⟨hnu, haz⟩)
        have H_CX := Lib.hid (h_cx ⟨hnu, haz⟩)
        have H_DX := Lib.hid (h_dx ⟨hnu, haz⟩)
        clear h_az h_cx h_dx
        go_upto_region 10 with (
         (first
          | (go_at_call 15; with_reducible refine (H_AZ.out _ _ (K4.out.atI) (baseI B.out)).mono ?_)
          | fail "arm"); rintro e wx ⟨rfl, q⟩; replace K0 := Lib.hid (K0.out.nearI q); replace K1 := Lib.hid (K1.out.nearI q); replace K2 := Lib.hid (K2.out.nearI q); replace K3 := Lib.hid (K3.out.nearI q); replace K4 := Lib.hid (K4.out.nearI q); replace K5 := Lib.hid (K5.out.nearI q); replace B := Lib.hid (goI B.out q); clear q)
        have lt0 := K0.out.lt
        have lt1 := K1.out.lt
        have lt2 := K2.out.lt
        have lt3 := K3.out.lt
        have lt4 := K4.out.lt
        have lt5 := K5.out.lt
        refine wp_region_par2 (by kernel_rfl) [110, 111, 112, 113, 114, 115, 116, 117, 118, 119, 120, 121, 109] (RJ w wx.heap.size [.v 110 (.slice (some ⟨g4_9, 0, none⟩) 3 3), .v 111 (.pointer (some ⟨g4_9, 0, none⟩)), .v 112 (.agg #[.string A1, .string A2, .string A3]), .v 113 (.slice (some ⟨g4_9, 0, none⟩) 3 3), .v 114 (.pointer (some ⟨g4_9, 3, none⟩)), .v 115 (.agg #[.string C1, .string C2, .string C3]), .v 116 (.slice (some ⟨g4_9, 0, none⟩) 3 3), .v 117 (.pointer (some ⟨g4_9, 6, none⟩)), .v 118 (.agg #[.string D1, .string D2, .string D3]), .v 119 (.agg #[.string X1, .string X2, .string X3]), .v 120 (.string T), .v 121 (.bool true), .v 109 (.bool true)] [] [⟨g1_0, #[.string A1, .string A2, .string A3, .string A0, .string C1, .string C2, .string C3, .string C0, .string D1, .string D2, .string D3, .string D0], 27, none⟩, ⟨g1_1, #[.string M1, .string M2], 28, none⟩, ⟨g2_12, #[.string A1, .string A2, .string A3, .string C1, .string C2, .string C3, .string D1, .string D2, .string D3], 24, none⟩, ⟨g3_16, #[.string ⟨#[]⟩, .string ⟨#[]⟩, .string ⟨#[]⟩], 24, none⟩, ⟨g4_9, #[.string A1, .string A2, .string A3, .string C1, .string C2, .string C3, .string D1, .string D2, .string D3], 24, none⟩, ⟨g5_14, #[.string A0, .string C0, .string D0, .string M1, .string M2], 22, none⟩] [] [] [] []) (by kernel_rfl) (by kernel_rfl) (by kernel_rfl) ?_ ?_ ?_
        · exact RJ.drew (RJ.start rfl B.out (by exact ⟨K0.out, K1.out, K2.out, K3.out, K4.out, K5.out, trivial⟩))
        · refine ⟨?_, ?_, ?_, ?_, ?_, ?_, ?_, ?_, ?_, ?_, ?_, ?_, ?_, trivial⟩
          · rintro L a U ho J hn hd KK hK; refine .free rfl ?_; have r8 : a.tmps[(8 : Nat)]?.getD undef = .slice (some ⟨g4_9, 0, none⟩) 3 3 := ho.slot 8 rfl; go_simp; exact hK.out _ _ (J.st 0 rfl rfl)
          · rintro L a U ho J hn hd KK hK; refine .free rfl ?_; have r110 := J.read 0 rfl (hd.get 0 rfl); go_simp; exact hK.out _ _ (J.st 1 rfl rfl)
          · rintro L a U ho J hn hd KK hK; refine .free rfl ?_; have r111 := J.read 1 rfl (hd.get 1 rfl); have kb := (J.eld 4 rfl); have c0 := kb.at_ 0 _ rfl; have c1 := kb.at_ 1 _ rfl; have c2 := kb.at_ 2 _ rfl; clear kb; go_simp; exact hK.out _ _ (J.st 2 rfl rfl)
          · rintro L a U ho J hn hd KK hK; refine .free rfl ?_; have r8 : a.tmps[(8 : Nat)]?.getD undef = .slice (some ⟨g4_9, 0, none⟩) 3 3 := ho.slot 8 rfl; go_simp; exact hK.out _ _ (J.st 3 rfl rfl)
          · rintro L a U ho J hn hd KK hK; refine .free rfl ?_; have r113 := J.read 3 rfl (hd.get 3 rfl); go_simp; exact hK.out _ _ (J.st 4 rfl rfl)
          · rintro L a U ho J hn hd KK hK; refine .free rfl ?_; have r114 := J.read 4 rfl (hd.get 4 rfl); have kb := (J.eld 4 rfl); have c3 := kb.at_ 3 _ rfl; have c4 := kb.at_ 4 _ rfl; have c5 := kb.at_ 5 _ rfl; clear kb; go_simp; exact hK.out _ _ (J.st 5 rfl rfl)
          · rintro L a U ho J hn hd KK hK; refine .free rfl ?_; have r8 : a.tmps[(8 : Nat)]?.getD undef = .slice (some ⟨g4_9, 0, none⟩) 3 3 := ho.slot 8 rfl; go_simp; exact hK.out _ _ (J.st 6 rfl rfl)
          · rintro L a U ho J hn hd KK hK; refine .free rfl ?_; have r116 := J.read 6 rfl (hd.get 6 rfl); go_simp; exact hK.out _ _ (J.st 7 rfl rfl)
          · rintro L a U ho J hn hd KK hK; refine .free rfl ?_; have r117 := J.read 7 rfl (hd.get 7 rfl); have kb := (J.eld 4 rfl); have c6 := kb.at_ 6 _ rfl; have c7 := kb.at_ 7 _ rfl; have c8 := kb.at_ 8 _ rfl; clear kb; go_simp; exact hK.out _ _ (J.st 8 rfl rfl)
          · rintro L a U ho J hn hd KK hK; refine .free rfl ?_; have r115 := J.read 5 rfl (hd.get 5 rfl); have r118 := J.read 8 rfl (hd.get 8 rfl); go_simp; go_at_call 18; (with_reducible refine (H_CX.out _ J.bb).mono ?_); rintro e wy ⟨rfl, q⟩; go_simp; exact hK.out _ _ (J.sq 9 rfl rfl q)
          · rintro L a U ho J hn hd KK hK; refine .free rfl ?_; have r112 := J.read 2 rfl (hd.get 2 rfl); have r119 := J.read 9 rfl (hd.get 9 rfl); go_simp; go_at_call 17; (with_reducible refine (H_DX.out _ J.bb).mono ?_); rintro e wy ⟨rfl, q⟩; go_simp; exact hK.out _ _ (J.sq 10 rfl rfl q)
          · rintro L a U ho J hn hd KK hK; refine .free rfl ?_; have r120 := J.read 10 rfl (hd.get 10 rfl); go_simp; exact hK.out _ _ (J.st 11 rfl rfl)
          · rintro L a U ho J hn hd KK hK; refine .free rfl ?_; have r121 := J.read 11 rfl (hd.get 11 rfl); go_simp; exact hK.out _ _ (J.st 12 rfl rfl)
        rintro L σ W6 J hL
        have hf := J.fin rfl hL
        simp only [finR] at hf
        replace K0 := Lib.hid (J.eld 0 rfl)
        replace K1 := Lib.hid (J.eld 1 rfl)
        replace K2 := Lib.hid (J.eld 2 rfl)
        replace K3 := Lib.hid (J.eld 3 rfl)
        replace K4 := Lib.hid (J.eld 4 rfl)
        replace K5 := Lib.hid (J.eld 5 rfl)
        replace B := Lib.hid J.bb
        clear J hL
        clear lt0 lt1 lt2 lt3 lt4 lt5
        rw [show List.map σ [110, 111, 112, 113, 114, 115, 116, 117, 118, 119, 120, 121, 109] = _ from hf]
        clear hf
        simp only [putAll, List.map, Act.put, List.setIfInBounds_toArray, List.set_cons_succ, List.set_cons_zero]
        go_wp2
        go_ret
        exact ⟨rfl, B.out⟩
    · skip
      have q := f1 hok hnu
      have H_NF := Lib.hid (h_nf hnu)
      clear h_nf
      go_upto_region 6 with (fail)
      have lt0 := K0.out.lt
      have lt1 := K1.out.lt
      have lt2 := K2.out.lt
      have lt3 := K3.out.lt
      have lt4 := K4.out.lt
      refine wp_region_seq2 [79, 80, 81, 82, 83, 84, 85, 86, 87, 88, 89, 90, 91, 92, 93, 94, 95, 78] (RJ w W4.heap.size [.v 79 (.slice (some ⟨g4_9, 0, none⟩) 3 3), .v 80 (.pointer (some ⟨g1_0, 0, none⟩)), .v 81 (.pointer (some ⟨g1_0, 3, none⟩)), .v 82 (.string A0), .v 83 (.pointer (some ⟨g1_0, 4, none⟩)), .v 84 (.pointer (some ⟨g1_0, 7, none⟩)), .v 85 (.string C0), .v 86 (.pointer (some ⟨g1_0, 8, none⟩)), .v 87 (.pointer (some ⟨g1_0, 11, none⟩)), .v 88 (.string D0), .v 89 (.pointer (some ⟨g1_1, 0, none⟩)), .v 90 (.string M1), .v 91 (.pointer (some ⟨g1_1, 1, none⟩)), .v 92 (.string M2), .n 93, .v 94 (.bool false), .v 95 (.bool true), .v 78 (.bool true)] [⟨14, 93, fun g => .slice (some ⟨g, 0, none⟩) 5 5, #[.string A0, .string C0, .string D0, .string M1, .string M2], 22, none⟩] [⟨g1_0, #[.string A1, .string A2, .string A3, .string A0, .string C1, .string C2, .string C3, .string C0, .string D1, .string D2, .string D3, .string D0], 27, none⟩, ⟨g1_1, #[.string M1, .string M2], 28, none⟩, ⟨g2_12, #[.string A1, .string A2, .string A3, .string C1, .string C2, .string C3, .string D1, .string D2, .string D3], 24, none⟩, ⟨g3_16, #[.string ⟨#[]⟩, .string ⟨#[]⟩, .string ⟨#[]⟩], 24, none⟩, ⟨g4_9, #[.string A1, .string A2, .string A3, .string C1, .string C2, .string C3, .string D1, .string D2, .string D3], 24, none⟩] [] [] [] []) (by kernel_rfl) (by kernel_rfl) ?_ ?_ ?_
      · exact RJ.start rfl B.out (by exact ⟨K0.out, K1.out, K2.out, K3.out, K4.out, trivial⟩)
      · refine ⟨?_, ?_, ?_, ?_, ?_, ?_, ?_, ?_, ?_, ?_, ?_, ?_, ?_, ?_, ?_, ?_, ?_, ?_, trivial⟩
        · rintro L a U ho J hn hd KK hK; refine .free rfl ?_; have r8 : a.tmps[(8 : Nat)]?.getD undef = .slice (some ⟨g4_9, 0, none⟩) 3 3 := ho.slot 8 rfl; go_simp; exact hK.out _ _ (J.st 0 rfl rfl)
        · rintro L a U ho J hn hd KK hK; refine .free rfl ?_; have r2 : a.tmps[(2 : Nat)]?.getD undef = .pointer (some ⟨g1_0, 0, none⟩) := ho.slot 2 rfl; go_simp; exact hK.out _ _ (J.st 1 rfl rfl)
        · rintro L a U ho J hn hd KK hK; refine .free rfl ?_; have r80 := J.read 1 rfl (hd 1 rfl); go_simp; exact hK.out _ _ (J.st 2 rfl rfl)
        · rintro L a U ho J hn hd KK hK; refine .free rfl ?_; have r81 := J.read 2 rfl (hd 2 rfl); have kb := (J.eld 0 rfl); have c3 := kb.at_ 3 _ rfl; clear kb; go_simp; exact hK.out _ _ (J.st 3 rfl rfl)
        · rintro L a U ho J hn hd KK hK; refine .free rfl ?_; have r2 : a.tmps[(2 : Nat)]?.getD undef = .pointer (some ⟨g1_0, 0, none⟩) := ho.slot 2 rfl; go_simp; exact hK.out _ _ (J.st 4 rfl rfl)
        · rintro L a U ho J hn hd KK hK; refine .free rfl ?_; have r83 := J.read 4 rfl (hd 4 rfl); go_simp; exact hK.out _ _ (J.st 5 rfl rfl)
        · rintro L a U ho J hn hd KK hK; refine .free rfl ?_; have r84 := J.read 5 rfl (hd 5 rfl); have kb := (J.eld 0 rfl); have c7 := kb.at_ 7 _ rfl; clear kb; go_simp; exact hK.out _ _ (J.st 6 rfl rfl)
        · rintro L a U ho J hn hd KK hK; refine .free rfl ?_; have r2 : a.tmps[(2 : Nat)]?.getD undef = .pointer (some ⟨g1_0, 0, none⟩) := ho.slot 2 rfl; go_simp; exact hK.out _ _ (J.st 7 rfl rfl)
        · rintro L a U ho J hn hd KK hK; refine .free rfl ?_; have r86 := J.read 7 rfl (hd 7 rfl); go_simp; exact hK.out _ _ (J.st 8 rfl rfl)
        · rintro L a U ho J hn hd KK hK; refine .free rfl ?_; have r87 := J.read 8 rfl (hd 8 rfl); have kb := (J.eld 0 rfl); have c11 := kb.at_ 11 _ rfl; clear kb; go_simp; exact hK.out _ _ (J.st 9 rfl rfl)
        · rintro L a U ho J hn hd KK hK; refine .free rfl ?_; have r3 : a.tmps[(3 : Nat)]?.getD undef = .pointer (some ⟨g1_1, 0, none⟩) := ho.slot 3 rfl; go_simp; exact hK.out _ _ (J.st 10 rfl rfl)
        · rintro L a U ho J hn hd KK hK; refine .free rfl ?_; have r89 := J.read 10 rfl (hd 10 rfl); have kb := (J.eld 1 rfl); have c0 := kb.at_ 0 _ rfl; clear kb; go_simp; exact hK.out _ _ (J.st 11 rfl rfl)
        · rintro L a U ho J hn hd KK hK; refine .free rfl ?_; have r3 : a.tmps[(3 : Nat)]?.getD undef = .pointer (some ⟨g1_1, 0, none⟩) := ho.slot 3 rfl; go_simp; exact hK.out _ _ (J.st 12 rfl rfl)
        · rintro L a U ho J hn hd KK hK; refine .free rfl ?_; have r91 := J.read 12 rfl (hd 12 rfl); have kb := (J.eld 1 rfl); have c1 := kb.at_ 1 _ rfl; clear kb; go_simp; exact hK.out _ _ (J.st 13 rfl rfl)
        · rintro L a U ho J hn hd KK hK; refine .free rfl ?_; have r82 := J.read 3 rfl (hd 3 rfl); have r85 := J.read 6 rfl (hd 6 rfl); have r88 := J.read 9 rfl (hd 9 rfl); have r90 := J.read 11 rfl (hd 11 rfl); have r92 := J.read 13 rfl (hd 13 rfl); go_simp; exact hK.out _ _ (J.mf 14 0 rfl rfl rfl rfl rfl hn)
        · rintro L a U ho J hn hd KK hK; refine .free rfl ?_; have r79 := J.read 0 rfl (hd 0 rfl); have r93 : a.tmps[(93 : Nat)]?.getD undef = .slice (some ⟨(blkOf (slotOf a 93)), 0, none⟩) 5 5 := J.readN 0 rfl (hd 14 rfl); go_simp; go_at_call 14; (with_reducible refine (H_NF.out _ _ _ (J.eld 4 rfl) (J.nw 0 rfl (hd 14 rfl)).blk J.bb).mono ?_); rintro e wy ⟨rfl, q⟩; go_simp; exact hK.out _ _ (J.sq 15 rfl rfl q)
        · rintro L a U ho J hn hd KK hK; refine .free rfl ?_; have r94 := J.read 15 rfl (hd 15 rfl); go_simp; exact hK.out _ _ (J.st 16 rfl rfl)
        · rintro L a U ho J hn hd KK hK; refine .free rfl ?_; have r95 := J.read 16 rfl (hd 16 rfl); go_simp; exact hK.out _ _ (J.st 17 rfl rfl)
      rintro L σ W5 J hL
      have hf := J.fin rfl hL
      simp only [finR] at hf
      obtain ⟨e5, l5, k5⟩ := J.nw 0 rfl (hL 14 (by decide))
      replace K0 := Lib.hid (J.eld 0 rfl)
      replace K1 := Lib.hid (J.eld 1 rfl)
      replace K2 := Lib.hid (J.eld 2 rfl)
      replace K3 := Lib.hid (J.eld 3 rfl)
      replace K4 := Lib.hid (J.eld 4 rfl)
      have low := J.low
      replace B := Lib.hid J.bb
      clear J hL
      try dsimp only at e5
      generalize blkOf (σ 93) = g5_14 at *
      have K5 := Lib.hid k5
      have L5 := Lib.hid (Nat.le_trans low l5)
      clear lt0 lt1 lt2 lt3 lt4 l5 k5 low
      rw [show List.map σ [79, 80, 81, 82, 83, 84, 85, 86, 87, 88, 89, 90, 91, 92, 93, 94, 95, 78] = _ from hf, e5]
      clear hf e5
      simp only [putAll, List.map, Act.put, List.setIfInBounds_toArray, List.set_cons_succ, List.set_cons_zero]
      go_wp2
      go_ret
      exact ⟨rfl, B.out⟩

end Go.Proofs.YtopilnlniidejaaGreatDoor
