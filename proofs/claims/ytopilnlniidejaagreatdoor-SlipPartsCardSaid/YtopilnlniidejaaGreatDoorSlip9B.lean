/- The walks of the laws of klippelaw42, over texts: check, kind. -/
import Derived.Test.YtopilnlniidejaaGreatDoorShelf
import Derived.Test.YtopilnlniidejaaGreatDoorGPar
import Derived.Deep.RegionHeld3
import Derived.Laws.ResultCell
import Derived.Deep.Cut
import Derived.Deep.CutRange
import Derived.Deep.DeepCutAuto
import Derived.Outline
namespace Go.Proofs.YtopilnlniidejaaGreatDoor
set_option linter.all false
open Go.RowKit

set_option maxRecDepth 100000 in
set_option maxHeartbeats 20000000 in
theorem lcheck_of {A1 A2 A3 A0 S1 S2 S3 R : ByteArray} {nu za td : Bool} {res : Value} (w : World)
  (h1 : nu = true → za = false → td = true → (R.toList == [48]) = true := by intros; contradiction)
  (h2 : nu = true → za = false → td = false → (R.toList == [48]) = false := by intros; contradiction)
  (r1 : nu = false → res = .int .i64 2 := by intros; contradiction)
  (r2 : nu = true → za = true → res = .int .i64 17 := by intros; contradiction)
  (r3 : nu = true → za = false → td = true → res = .int .i64 0 := by intros; contradiction)
  (r4 : nu = true → za = false → td = false → res = .int .i64 7 := by intros; contradiction)
  (h_nu : ∀ (W : World) (b0 : Nat) (b1 : Nat), Blk W b0 #[.string A1, .string A2, .string A3, .string S1, .string S2, .string S3] 24 → Blk W b1 #[.string A0] 22 → Below w.heap.size w W → Calls Tryz.prog 14 #[.slice (some ⟨b0, 0, none⟩) 2 2, .slice (some ⟨b1, 0, none⟩) 1 1] W fun e w' => e = .returned (.bool nu) ∧ Below W.heap.size W w')
  (h_za : Ret Tryz.prog w 16 #[.agg #[.string A1, .string A2, .string A3]] (.bool za))
  (h_do : nu = true → Ret Tryz.prog w 17 #[.agg #[.string A1, .string A2, .string A3], .agg #[.string S1, .string S2, .string S3]] (.string R) := by intros; contradiction) :
  Calls Tryz.prog 31 #[.agg #[.string A1, .string A2, .string A3, .string A0, .string S1, .string S2, .string S3]] w fun e w' => e = .returned (res) ∧ Below w.heap.size w w' := by
 have H_NU := Lib.hid h_nu
 have H_ZA := Lib.hid h_za
 clear h_nu h_za
 have B := Lib.hid (Below.refl w.heap.size w)
 go_enter Tryz.func31, Tryz.ntmps31
 go_upto_region 0 with (fail)
 refine wp_tab [.n 1, .v 2 (.int .i64 0)] [⟨0, 1, fun g => .pointer (some ⟨g, 0, none⟩), #[.string A1, .string A2, .string A3, .string A0, .string S1, .string S2, .string S3], 58, none⟩] [] [] [] [] [] [] (by kernel_rfl) B.out trivial trivial ⟨ml 0, pu, trivial⟩ ?_
 clear B
 rintro σ W1 ⟨⟨L0, K0⟩, _⟩ _ _ _ B
 simp only [slotsOf, finX, nval, nvalN, nvalA, Nat.reduceBEq, cond_true, cond_false, putAll, Act.put, List.setIfInBounds_toArray, List.set_cons_succ, List.set_cons_zero]
 generalize blkOf (σ 1) = g1_0 at *
 go_upto_region 1 with (fail)
 cases nu
 ·
  clear h_do
  clear h1
  clear h2
  have q_r1 := Lib.hid (r1 rfl)
  clear r1
  clear r2
  clear r3
  clear r4
  go_upto_region 1 with (fail)
  refine wp_tab [.v 4 (.pointer (some ⟨g1_0, 0, none⟩)), .v 5 (.pointer (some ⟨g1_0, 0, none⟩)), .v 6 (.agg #[.string A1, .string A2, .string A3]), .v 7 (.pointer (some ⟨g1_0, 4, none⟩)), .v 8 (.agg #[.string S1, .string S2, .string S3]), .n 9, .v 10 (.pointer (some ⟨g1_0, 0, none⟩)), .v 11 (.pointer (some ⟨g1_0, 3, none⟩)), .v 12 (.string A0), .n 13, .v 14 (.bool false), .v 15 (.bool true), .v 3 (.bool true)] [⟨5, 9, fun g => .slice (some ⟨g, 0, none⟩) 2 2, #[.string A1, .string A2, .string A3, .string S1, .string S2, .string S3], 24, none⟩, ⟨9, 13, fun g => .slice (some ⟨g, 0, none⟩) 1 1, #[.string A0], 22, none⟩] [⟨g1_0, #[.string A1, .string A2, .string A3, .string A0, .string S1, .string S2, .string S3], 58, none⟩] [] [] [] [] [] (by kernel_rfl) B.out ⟨K0.out, trivial⟩ trivial ⟨pu, pu, ld 0 0, pu, ld 0 4, ml 0, pu, pu, ld 0 3, ml 1, c2 0 1 H_NU.out, pu, pu, trivial⟩ ?_
  clear K0 B
  rintro σ W2 ⟨⟨L1, K1⟩, ⟨L2, K2⟩, _⟩ ⟨K0, _⟩ _ _ B
  simp only [slotsOf, finX, nval, nvalN, nvalA, Nat.reduceBEq, cond_true, cond_false, putAll, Act.put, List.setIfInBounds_toArray, List.set_cons_succ, List.set_cons_zero]
  generalize blkOf (σ 9) = g2_5 at *
  generalize blkOf (σ 13) = g2_9 at *
  go_wp2
  go_ret
  exact ⟨by first | rfl | exact congrArg Ending.returned (q_r1.out).symm, B.out⟩
 ·
  have H_DO := Lib.hid (h_do rfl)
  clear h_do
  replace h1 := h1 rfl
  replace h2 := h2 rfl
  clear r1
  replace r2 := r2 rfl
  replace r3 := r3 rfl
  replace r4 := r4 rfl
  go_upto_region 1 with (fail)
  refine wp_tab [.v 4 (.pointer (some ⟨g1_0, 0, none⟩)), .v 5 (.pointer (some ⟨g1_0, 0, none⟩)), .v 6 (.agg #[.string A1, .string A2, .string A3]), .v 7 (.pointer (some ⟨g1_0, 4, none⟩)), .v 8 (.agg #[.string S1, .string S2, .string S3]), .n 9, .v 10 (.pointer (some ⟨g1_0, 0, none⟩)), .v 11 (.pointer (some ⟨g1_0, 3, none⟩)), .v 12 (.string A0), .n 13, .v 14 (.bool true), .v 15 (.bool false), .v 3 (.bool false)] [⟨5, 9, fun g => .slice (some ⟨g, 0, none⟩) 2 2, #[.string A1, .string A2, .string A3, .string S1, .string S2, .string S3], 24, none⟩, ⟨9, 13, fun g => .slice (some ⟨g, 0, none⟩) 1 1, #[.string A0], 22, none⟩] [⟨g1_0, #[.string A1, .string A2, .string A3, .string A0, .string S1, .string S2, .string S3], 58, none⟩] [] [] [] [] [] (by kernel_rfl) B.out ⟨K0.out, trivial⟩ trivial ⟨pu, pu, ld 0 0, pu, ld 0 4, ml 0, pu, pu, ld 0 3, ml 1, c2 0 1 H_NU.out, pu, pu, trivial⟩ ?_
  clear K0 B
  rintro σ W2 ⟨⟨L1, K1⟩, ⟨L2, K2⟩, _⟩ ⟨K0, _⟩ _ _ B
  simp only [slotsOf, finX, nval, nvalN, nvalA, Nat.reduceBEq, cond_true, cond_false, putAll, Act.put, List.setIfInBounds_toArray, List.set_cons_succ, List.set_cons_zero]
  generalize blkOf (σ 9) = g2_5 at *
  generalize blkOf (σ 13) = g2_9 at *
  go_upto_region 3 with (fail)
  cases za
  ·
   replace h1 := h1 rfl
   replace h2 := h2 rfl
   clear r2
   replace r3 := r3 rfl
   replace r4 := r4 rfl
   have c0_0 := K0.out.at_ 0 _ rfl
   have c0_1 := K0.out.at_ 1 _ rfl
   have c0_2 := K0.out.at_ 2 _ rfl
   go_upto_region 5 with (
    (first
    | (go_at_call 16; with_reducible refine (H_ZA.out _ (baseI B.out)).mono ?_)
    | fail "arm"); rintro e wx ⟨rfl, q⟩; replace K0 := Lib.hid (K0.out.nearI q); replace K1 := Lib.hid (K1.out.nearI q); replace K2 := Lib.hid (K2.out.nearI q); replace B := Lib.hid (goI B.out q); clear q; replace c0_0 := K0.out.at_ 0 _ rfl; replace c0_1 := K0.out.at_ 1 _ rfl; replace c0_2 := K0.out.at_ 2 _ rfl)
   clear c0_0 c0_1 c0_2
   cases td
   ·
    clear h1
    have q_h2 := h2 rfl
    clear h2
    clear r3
    have q_r4 := Lib.hid (r4 rfl)
    clear r4
    have c0_0 := K0.out.at_ 0 _ rfl
    have c0_1 := K0.out.at_ 1 _ rfl
    have c0_2 := K0.out.at_ 2 _ rfl
    have c0_4 := K0.out.at_ 4 _ rfl
    have c0_5 := K0.out.at_ 5 _ rfl
    have c0_6 := K0.out.at_ 6 _ rfl
    go_wp2_with (
     (first
     | (go_at_call 17; with_reducible refine (H_DO.out _ (baseI B.out)).mono ?_)
     | fail "arm"); rintro e wx ⟨rfl, q⟩; replace K0 := Lib.hid (K0.out.nearI q); replace K1 := Lib.hid (K1.out.nearI q); replace K2 := Lib.hid (K2.out.nearI q); replace B := Lib.hid (goI B.out q); clear q; replace c0_0 := K0.out.at_ 0 _ rfl; replace c0_1 := K0.out.at_ 1 _ rfl; replace c0_2 := K0.out.at_ 2 _ rfl; replace c0_4 := K0.out.at_ 4 _ rfl; replace c0_5 := K0.out.at_ 5 _ rfl; replace c0_6 := K0.out.at_ 6 _ rfl)
    clear c0_0 c0_1 c0_2 c0_4 c0_5 c0_6
    go_ret
    exact ⟨by first | rfl | exact congrArg Ending.returned (q_r4.out).symm, B.out⟩
   ·
    have q_h1 := h1 rfl
    clear h1
    clear h2
    have q_r3 := Lib.hid (r3 rfl)
    clear r3
    clear r4
    have c0_0 := K0.out.at_ 0 _ rfl
    have c0_1 := K0.out.at_ 1 _ rfl
    have c0_2 := K0.out.at_ 2 _ rfl
    have c0_4 := K0.out.at_ 4 _ rfl
    have c0_5 := K0.out.at_ 5 _ rfl
    have c0_6 := K0.out.at_ 6 _ rfl
    go_wp2_with (
     (first
     | (go_at_call 17; with_reducible refine (H_DO.out _ (baseI B.out)).mono ?_)
     | fail "arm"); rintro e wx ⟨rfl, q⟩; replace K0 := Lib.hid (K0.out.nearI q); replace K1 := Lib.hid (K1.out.nearI q); replace K2 := Lib.hid (K2.out.nearI q); replace B := Lib.hid (goI B.out q); clear q; replace c0_0 := K0.out.at_ 0 _ rfl; replace c0_1 := K0.out.at_ 1 _ rfl; replace c0_2 := K0.out.at_ 2 _ rfl; replace c0_4 := K0.out.at_ 4 _ rfl; replace c0_5 := K0.out.at_ 5 _ rfl; replace c0_6 := K0.out.at_ 6 _ rfl)
    clear c0_0 c0_1 c0_2 c0_4 c0_5 c0_6
    go_ret
    exact ⟨by first | rfl | exact congrArg Ending.returned (q_r3.out).symm, B.out⟩
  ·
   clear h1
   clear h2
   have q_r2 := Lib.hid (r2 rfl)
   clear r2
   clear r3
   clear r4
   have c0_0 := K0.out.at_ 0 _ rfl
   have c0_1 := K0.out.at_ 1 _ rfl
   have c0_2 := K0.out.at_ 2 _ rfl
   go_wp2_with (
    (first
    | (go_at_call 16; with_reducible refine (H_ZA.out _ (baseI B.out)).mono ?_)
    | fail "arm"); rintro e wx ⟨rfl, q⟩; replace K0 := Lib.hid (K0.out.nearI q); replace K1 := Lib.hid (K1.out.nearI q); replace K2 := Lib.hid (K2.out.nearI q); replace B := Lib.hid (goI B.out q); clear q; replace c0_0 := K0.out.at_ 0 _ rfl; replace c0_1 := K0.out.at_ 1 _ rfl; replace c0_2 := K0.out.at_ 2 _ rfl)
   clear c0_0 c0_1 c0_2
   go_ret
   exact ⟨by first | rfl | exact congrArg Ending.returned (q_r2.out).symm, B.out⟩

set_option maxRecDepth 100000 in
set_option maxHeartbeats 20000000 in
theorem lkind_of {A1 A2 A3 A0 S1 S2 S3 : ByteArray} {up sz : Int} {zs ax ay bu bz bl : Bool} {res : Value} (w : World)
  (hu : (up == 0) = bu)
  (hz : (sz == 0) = bz)
  (hl : decide (up * sz < 0) = bl)
  (h1 : ax = true → (A1.toList == [48]) = true := by intros; contradiction)
  (h2 : ax = false → (A1.toList == [48]) = false := by intros; contradiction)
  (h3 : ax = true → ay = true → (A2.toList == [48]) = true := by intros; contradiction)
  (h4 : ax = true → ay = false → (A2.toList == [48]) = false := by intros; contradiction)
  (r0 : zs = true → res = .int .i64 0 := by intros; contradiction)
  (r1 : zs = false → ax = true → ay = true → res = .int .i64 5 := by intros; contradiction)
  (r2x : zs = false → ax = false → bu = true → res = .int .i64 4 := by intros; contradiction)
  (r3x : zs = false → ax = false → bu = false → bz = true → res = .int .i64 3 := by intros; contradiction)
  (r4x : zs = false → ax = false → bu = false → bz = false → bl = true → res = .int .i64 1 := by intros; contradiction)
  (r5x : zs = false → ax = false → bu = false → bz = false → bl = false → res = .int .i64 2 := by intros; contradiction)
  (r2y : zs = false → ax = true → ay = false → bu = true → res = .int .i64 4 := by intros; contradiction)
  (r3y : zs = false → ax = true → ay = false → bu = false → bz = true → res = .int .i64 3 := by intros; contradiction)
  (r4y : zs = false → ax = true → ay = false → bu = false → bz = false → bl = true → res = .int .i64 1 := by intros; contradiction)
  (r5y : zs = false → ax = true → ay = false → bu = false → bz = false → bl = false → res = .int .i64 2 := by intros; contradiction)
  (kw0 : IntKind.i64.wrap (up * sz) = up * sz)
  (h_s1 : Ret Tryz.prog w 46 #[.string A3] (.int .i64 up))
  (h_s2 : Ret Tryz.prog w 46 #[.string S3] (.int .i64 sz))
  (h_zs : Ret Tryz.prog w 16 #[.agg #[.string S1, .string S2, .string S3]] (.bool zs)) :
  Calls Tryz.prog 38 #[.agg #[.string A1, .string A2, .string A3, .string A0, .string S1, .string S2, .string S3]] w fun e w' => e = .returned (res) ∧ Below w.heap.size w w' := by
 have H_S1 := Lib.hid h_s1
 have H_S2 := Lib.hid h_s2
 have H_ZS := Lib.hid h_zs
 clear h_s1 h_s2 h_zs
 have B := Lib.hid (Below.refl w.heap.size w)
 go_enter Tryz.func38, Tryz.ntmps38
 go_upto_region 0 with (fail)
 refine wp_tab [.n 1, .v 2 (.int .i64 0)] [⟨0, 1, fun g => .pointer (some ⟨g, 0, none⟩), #[.string A1, .string A2, .string A3, .string A0, .string S1, .string S2, .string S3], 58, none⟩] [] [] [] [] [] [] (by kernel_rfl) B.out trivial trivial ⟨ml 0, pu, trivial⟩ ?_
 clear B
 rintro σ W1 ⟨⟨L0, K0⟩, _⟩ _ _ _ B
 simp only [slotsOf, finX, nval, nvalN, nvalA, Nat.reduceBEq, cond_true, cond_false, putAll, Act.put, List.setIfInBounds_toArray, List.set_cons_succ, List.set_cons_zero]
 generalize blkOf (σ 1) = g1_0 at *
 go_upto_region 1 with (fail)
 have lt0 := K0.out.lt
 refine wp_tab [.v 6 (.pointer (some ⟨g1_0, 0, none⟩)), .v 7 (.pointer (some ⟨g1_0, 0, none⟩)), .v 8 (.agg #[.string A1, .string A2, .string A3]), .n 3, .z] [⟨3, 3, fun g => .pointer (some ⟨g, 0, none⟩), #[.string ⟨#[]⟩, .string ⟨#[]⟩, .string ⟨#[]⟩], 24, some (4, #[.string A1, .string A2, .string A3])⟩] [⟨g1_0, #[.string A1, .string A2, .string A3, .string A0, .string S1, .string S2, .string S3], 58, none⟩] [] [(4, 3)] [] [] [] (by kernel_rfl) B.out ⟨K0.out, trivial⟩ trivial ⟨pu, pu, ld 0 0, ml 0, ?_, trivial⟩ ?_
 · intro L a U ho J hn d KK k; refine .free rfl ?_; have r3 : a.tmps[(3 : Nat)]?.getD undef = .pointer (some ⟨(blkOf (slotOf a 3)), 0, none⟩) := J.readN 0 rfl (d.get 3 rfl); have r8 := J.read 2 rfl (d.get 2 rfl); have kb := (J.nwB 0 rfl (d.get 3 rfl) hn).blk; have c0 := kb.at_ 0 _ rfl; have z0 := kb.free 0; have c1 := kb.at_ 1 _ rfl; have z1 := kb.free 1; have c2 := kb.at_ 2 _ rfl; have z2 := kb.free 2; clear kb; go_simp; exact k.out undef _ (J.storedN 4 0 rfl rfl rfl rfl rfl 0 [.string A1, .string A2, .string A3] rfl ⟨lt0, trivial⟩ (d.get 3 rfl) hn ⟨.inr (d.get 3 rfl), trivial⟩)
 clear K0 B lt0
 rintro σ W2 ⟨⟨L1, K1⟩, _⟩ ⟨K0, _⟩ _ _ B
 simp only [slotsOf, finX, nval, nvalN, nvalA, Nat.reduceBEq, cond_true, cond_false, putAll, Act.put, List.setIfInBounds_toArray, List.set_cons_succ, List.set_cons_zero]
 generalize blkOf (σ 3) = g2_3 at *
 go_upto_region 2 with (fail)
 refine wp_tab [.v 9 (.pointer (some ⟨g2_3, 2, none⟩)), .v 10 (.string A3), .v 11 (.int .i64 up), .v 12 (.pointer (some ⟨g1_0, 4, none⟩)), .v 13 (.pointer (some ⟨g1_0, 6, none⟩)), .v 14 (.string S3), .v 15 (.int .i64 sz), .v 4 (.int .i64 up), .v 5 (.int .i64 sz)] [] [⟨g1_0, #[.string A1, .string A2, .string A3, .string A0, .string S1, .string S2, .string S3], 58, none⟩, ⟨g2_3, #[.string A1, .string A2, .string A3], 24, none⟩] [] [] [] [] [] (by kernel_rfl) B.out ⟨K0.out, K1.out, trivial⟩ trivial ⟨pu, ld 1 2, cl H_S1.out, pu, pu, ld 0 6, cl H_S2.out, pu, pu, trivial⟩ ?_
 clear K0 K1 B
 rintro σ W3 _ ⟨K0, K1, _⟩ _ _ B
 simp only [slotsOf, finX, nval, nvalN, nvalA, Nat.reduceBEq, cond_true, cond_false, putAll, Act.put, List.setIfInBounds_toArray, List.set_cons_succ, List.set_cons_zero]
 go_upto_region 3 with (fail)
 cases zs
 ·
  clear r0
  replace r1 := r1 rfl
  replace r2x := r2x rfl
  replace r3x := r3x rfl
  replace r4x := r4x rfl
  replace r5x := r5x rfl
  replace r2y := r2y rfl
  replace r3y := r3y rfl
  replace r4y := r4y rfl
  replace r5y := r5y rfl
  have c0_4 := K0.out.at_ 4 _ rfl
  have c0_5 := K0.out.at_ 5 _ rfl
  have c0_6 := K0.out.at_ 6 _ rfl
  go_upto_region 5 with (
   (first
   | (go_at_call 16; with_reducible refine (H_ZS.out _ (baseI B.out)).mono ?_)
   | fail "arm"); rintro e wx ⟨rfl, q⟩; replace K0 := Lib.hid (K0.out.nearI q); replace K1 := Lib.hid (K1.out.nearI q); replace B := Lib.hid (goI B.out q); clear q; replace c0_4 := K0.out.at_ 4 _ rfl; replace c0_5 := K0.out.at_ 5 _ rfl; replace c0_6 := K0.out.at_ 6 _ rfl)
  clear c0_4 c0_5 c0_6
  cases ax
  ·
   clear h1
   have q_h2 := h2 rfl
   clear h2
   clear h3
   clear h4
   clear r1
   replace r2x := r2x rfl
   replace r3x := r3x rfl
   replace r4x := r4x rfl
   replace r5x := r5x rfl
   clear r2y
   clear r3y
   clear r4y
   clear r5y
   have c1_0 := K1.out.at_ 0 _ rfl
   go_upto_region 7 with (fail)
   clear c1_0
   cases bu
   ·
    clear r2x
    replace r3x := r3x rfl
    replace r4x := r4x rfl
    replace r5x := r5x rfl
    go_upto_region 9 with (fail)
    cases bz
    ·
     clear r3x
     replace r4x := r4x rfl
     replace r5x := r5x rfl
     go_upto_region 11 with (fail)
     cases bl
     ·
      clear r4x
      have q_r5x := Lib.hid (r5x rfl)
      clear r5x
      go_wp2
      go_ret
      exact ⟨by first | rfl | exact congrArg Ending.returned (q_r5x.out).symm, B.out⟩
     ·
      have q_r4x := Lib.hid (r4x rfl)
      clear r4x
      clear r5x
      go_wp2
      go_ret
      exact ⟨by first | rfl | exact congrArg Ending.returned (q_r4x.out).symm, B.out⟩
    ·
     have q_r3x := Lib.hid (r3x rfl)
     clear r3x
     clear r4x
     clear r5x
     go_wp2
     go_ret
     exact ⟨by first | rfl | exact congrArg Ending.returned (q_r3x.out).symm, B.out⟩
   ·
    have q_r2x := Lib.hid (r2x rfl)
    clear r2x
    clear r3x
    clear r4x
    clear r5x
    go_wp2
    go_ret
    exact ⟨by first | rfl | exact congrArg Ending.returned (q_r2x.out).symm, B.out⟩
  ·
   have q_h1 := h1 rfl
   clear h1
   clear h2
   replace h3 := h3 rfl
   replace h4 := h4 rfl
   replace r1 := r1 rfl
   clear r2x
   clear r3x
   clear r4x
   clear r5x
   replace r2y := r2y rfl
   replace r3y := r3y rfl
   replace r4y := r4y rfl
   replace r5y := r5y rfl
   cases ay
   ·
    clear h3
    have q_h4 := h4 rfl
    clear h4
    clear r1
    replace r2y := r2y rfl
    replace r3y := r3y rfl
    replace r4y := r4y rfl
    replace r5y := r5y rfl
    have c1_0 := K1.out.at_ 0 _ rfl
    have c1_1 := K1.out.at_ 1 _ rfl
    go_upto_region 7 with (fail)
    clear c1_0 c1_1
    cases bu
    ·
     clear r2y
     replace r3y := r3y rfl
     replace r4y := r4y rfl
     replace r5y := r5y rfl
     go_upto_region 9 with (fail)
     cases bz
     ·
      clear r3y
      replace r4y := r4y rfl
      replace r5y := r5y rfl
      go_upto_region 11 with (fail)
      cases bl
      ·
       clear r4y
       have q_r5y := Lib.hid (r5y rfl)
       clear r5y
       go_wp2
       go_ret
       exact ⟨by first | rfl | exact congrArg Ending.returned (q_r5y.out).symm, B.out⟩
      ·
       have q_r4y := Lib.hid (r4y rfl)
       clear r4y
       clear r5y
       go_wp2
       go_ret
       exact ⟨by first | rfl | exact congrArg Ending.returned (q_r4y.out).symm, B.out⟩
     ·
      have q_r3y := Lib.hid (r3y rfl)
      clear r3y
      clear r4y
      clear r5y
      go_wp2
      go_ret
      exact ⟨by first | rfl | exact congrArg Ending.returned (q_r3y.out).symm, B.out⟩
    ·
     have q_r2y := Lib.hid (r2y rfl)
     clear r2y
     clear r3y
     clear r4y
     clear r5y
     go_wp2
     go_ret
     exact ⟨by first | rfl | exact congrArg Ending.returned (q_r2y.out).symm, B.out⟩
   ·
    have q_h3 := h3 rfl
    clear h3
    clear h4
    have q_r1 := Lib.hid (r1 rfl)
    clear r1
    clear r2y
    clear r3y
    clear r4y
    clear r5y
    have c1_0 := K1.out.at_ 0 _ rfl
    have c1_1 := K1.out.at_ 1 _ rfl
    go_wp2
    clear c1_0 c1_1
    go_ret
    exact ⟨by first | rfl | exact congrArg Ending.returned (q_r1.out).symm, B.out⟩
 ·
  have q_r0 := Lib.hid (r0 rfl)
  clear r0
  clear r1
  clear r2x
  clear r3x
  clear r4x
  clear r5x
  clear r2y
  clear r3y
  clear r4y
  clear r5y
  have c0_4 := K0.out.at_ 4 _ rfl
  have c0_5 := K0.out.at_ 5 _ rfl
  have c0_6 := K0.out.at_ 6 _ rfl
  go_wp2_with (
   (first
   | (go_at_call 16; with_reducible refine (H_ZS.out _ (baseI B.out)).mono ?_)
   | fail "arm"); rintro e wx ⟨rfl, q⟩; replace K0 := Lib.hid (K0.out.nearI q); replace K1 := Lib.hid (K1.out.nearI q); replace B := Lib.hid (goI B.out q); clear q; replace c0_4 := K0.out.at_ 4 _ rfl; replace c0_5 := K0.out.at_ 5 _ rfl; replace c0_6 := K0.out.at_ 6 _ rfl)
  clear c0_4 c0_5 c0_6
  go_ret
  exact ⟨by first | rfl | exact congrArg Ending.returned (q_r0.out).symm, B.out⟩

end Go.Proofs.YtopilnlniidejaaGreatDoor
