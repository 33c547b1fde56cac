/- The walks of the laws of klippelaw42, over texts: SlipChecks. -/
import Derived.Test.YtopilnlniidejaaGreatDoorShelf
import Derived.Test.YtopilnlniidejaaGreatDoorGPar
import Derived.Deep.RegionHeld3
import Derived.Laws.ResultCell
import Derived.Deep.Cut
import Derived.Deep.CutRange
import Derived.Deep.DeepCutAuto
import Derived.Outline
namespace Go.Proofs.YtopilnlniidejaaGreatDoor
set_option linter.all false
open Go.RowKit

set_option maxRecDepth 100000 in
set_option maxHeartbeats 4000000 in
theorem checks_long1 (A1 A2 A3 A0 S1 S2 S3 : ByteArray) (w : World)
  (h_kn : Ret Tryz.prog w 11 #[] (.bool true))
  (h_br : ∀ (W : World) (b0 : Nat), Blk W b0 #[.string A1, .string A2, .string A3, .string S1, .string S2, .string S3] 24 → Below w.heap.size w W → Calls Tryz.prog 12 #[.slice (some ⟨b0, 0, none⟩) 2 2] W fun e w' => e = .returned (.bool false) ∧ Below W.heap.size W w') :
  Calls Tryz.prog 6 #[.agg #[.string A1, .string A2, .string A3, .string A0, .string S1, .string S2, .string S3]] w fun e w' => e = .returned (.bool true) ∧ Below w.heap.size w w' := by
 have H_KN := Lib.hid h_kn
 have H_BR := Lib.hid h_br
 clear h_kn h_br
 have B := Lib.hid (Below.refl w.heap.size w)
 go_enter Tryz.func6, Tryz.ntmps6
 go_upto_region 0 with (fail)
 refine wp_tab [.n 1, .v 2 (.bool false)] [⟨0, 1, fun g => .pointer (some ⟨g, 0, none⟩), #[.string A1, .string A2, .string A3, .string A0, .string S1, .string S2, .string S3], 58, none⟩] [] [] [] [] [] [] (by kernel_rfl) B.out trivial trivial ⟨ml 0, pu, trivial⟩ ?_
 clear B
 rintro σ W1 ⟨⟨L0, K0⟩, _⟩ _ _ _ B
 simp only [slotsOf, finX, nval, nvalN, nvalA, Nat.reduceBEq, cond_true, cond_false, putAll, Act.put, List.setIfInBounds_toArray, List.set_cons_succ, List.set_cons_zero]
 generalize blkOf (σ 1) = g1_0 at *
 go_upto_region 1 with (fail)
 refine wp_tab [.v 13 (.bool true), .v 14 (.bool false), .v 15 (.bool false), .v 16 (.pointer (some ⟨g1_0, 0, none⟩)), .v 17 (.pointer (some ⟨g1_0, 0, none⟩)), .v 18 (.agg #[.string A1, .string A2, .string A3]), .v 19 (.pointer (some ⟨g1_0, 4, none⟩)), .v 20 (.agg #[.string S1, .string S2, .string S3]), .n 21, .v 22 (.bool false), .v 23 (.bool true), .v 24 (.bool true), .v 25 (.bool true), .v 26 (undef), .v 27 (undef), .v 28 (undef), .v 29 (undef), .v 30 (undef), .v 31 (.bool true)] [⟨8, 21, fun g => .slice (some ⟨g, 0, none⟩) 2 2, #[.string A1, .string A2, .string A3, .string S1, .string S2, .string S3], 24, none⟩] [⟨g1_0, #[.string A1, .string A2, .string A3, .string A0, .string S1, .string S2, .string S3], 58, none⟩] [] [] [] [] [] (by kernel_rfl) B.out ⟨K0.out, trivial⟩ trivial ⟨cl H_KN.out, pu, pu, pu, pu, ld 0 0, pu, ld 0 4, ml 0, c1 0 H_BR.out, pu, pu, pu, sk, sk, sk, sk, sk, pu, trivial⟩ ?_
 clear K0 B
 rintro σ W2 ⟨⟨L1, K1⟩, _⟩ ⟨K0, _⟩ _ _ B
 simp only [slotsOf, finX, nval, nvalN, nvalA, Nat.reduceBEq, cond_true, cond_false, putAll, Act.put, List.setIfInBounds_toArray, List.set_cons_succ, List.set_cons_zero]
 generalize blkOf (σ 21) = g2_8 at *
 go_wp2_with (
  (first
  | (go_at_call 11; with_reducible refine (H_KN.out _ (baseI B.out)).mono ?_)
  | fail "arm"); rintro e wx ⟨rfl, q⟩; replace K0 := Lib.hid (K0.out.nearI q); replace K1 := Lib.hid (K1.out.nearI q); replace B := Lib.hid (goI B.out q); clear q)
 go_ret
 exact ⟨rfl, B.out⟩

set_option maxRecDepth 100000 in
set_option maxHeartbeats 4000000 in
theorem checks_long2 (A1 A2 A3 A0 S1 S2 S3 : ByteArray) (w : World)
  (hm : decide ((8 : Int) < (A0.size : Int)) = true)
  (h_kn : Ret Tryz.prog w 11 #[] (.bool true))
  (h_br : ∀ (W : World) (b0 : Nat), Blk W b0 #[.string A1, .string A2, .string A3, .string S1, .string S2, .string S3] 24 → Below w.heap.size w W → Calls Tryz.prog 12 #[.slice (some ⟨b0, 0, none⟩) 2 2] W fun e w' => e = .returned (.bool true) ∧ Below W.heap.size W w') :
  Calls Tryz.prog 6 #[.agg #[.string A1, .string A2, .string A3, .string A0, .string S1, .string S2, .string S3]] w fun e w' => e = .returned (.bool true) ∧ Below w.heap.size w w' := by
 have H_KN := Lib.hid h_kn
 have H_BR := Lib.hid h_br
 clear h_kn h_br
 have B := Lib.hid (Below.refl w.heap.size w)
 go_enter Tryz.func6, Tryz.ntmps6
 go_upto_region 0 with (fail)
 refine wp_tab [.n 1, .v 2 (.bool false)] [⟨0, 1, fun g => .pointer (some ⟨g, 0, none⟩), #[.string A1, .string A2, .string A3, .string A0, .string S1, .string S2, .string S3], 58, none⟩] [] [] [] [] [] [] (by kernel_rfl) B.out trivial trivial ⟨ml 0, pu, trivial⟩ ?_
 clear B
 rintro σ W1 ⟨⟨L0, K0⟩, _⟩ _ _ _ B
 simp only [slotsOf, finX, nval, nvalN, nvalA, Nat.reduceBEq, cond_true, cond_false, putAll, Act.put, List.setIfInBounds_toArray, List.set_cons_succ, List.set_cons_zero]
 generalize blkOf (σ 1) = g1_0 at *
 go_upto_region 1 with (fail)
 refine wp_tab [.v 13 (.bool true), .v 14 (.bool false), .v 15 (.bool false), .v 16 (.pointer (some ⟨g1_0, 0, none⟩)), .v 17 (.pointer (some ⟨g1_0, 0, none⟩)), .v 18 (.agg #[.string A1, .string A2, .string A3]), .v 19 (.pointer (some ⟨g1_0, 4, none⟩)), .v 20 (.agg #[.string S1, .string S2, .string S3]), .n 21, .v 22 (.bool true), .v 23 (.bool false), .v 24 (.bool false), .v 25 (.bool false), .v 26 (.pointer (some ⟨g1_0, 0, none⟩)), .v 27 (.pointer (some ⟨g1_0, 3, none⟩)), .v 28 (.string A0), .v 29 (.int .i64 (A0.size : Int)), .v 30 (.bool true), .v 31 (.bool true)] [⟨8, 21, fun g => .slice (some ⟨g, 0, none⟩) 2 2, #[.string A1, .string A2, .string A3, .string S1, .string S2, .string S3], 24, none⟩] [⟨g1_0, #[.string A1, .string A2, .string A3, .string A0, .string S1, .string S2, .string S3], 58, none⟩] [] [] [] [] [] (by kernel_rfl) B.out ⟨K0.out, trivial⟩ trivial ⟨cl H_KN.out, pu, pu, pu, pu, ld 0 0, pu, ld 0 4, ml 0, c1 0 H_BR.out, pu, pu, pu, pu, pu, ld 0 3, ?_, ?_, pu, trivial⟩ ?_
 · intro L a U ho J hn d KK k; refine .pos (s := 25) rfl rfl (J.vals 12 _ _ rfl (d.get 12 rfl)) ?_; have r28 := J.read 15 rfl (d.get 15 rfl); go_simp; exact k.out _ _ (J.st 16 rfl rfl)
 · intro L a U ho J hn d KK k; refine .pos (s := 25) rfl rfl (J.vals 12 _ _ rfl (d.get 12 rfl)) ?_; have r29 := J.read 16 rfl (d.get 16 rfl); go_simp; exact k.out _ _ (J.st 17 rfl rfl)
 clear K0 B
 rintro σ W2 ⟨⟨L1, K1⟩, _⟩ ⟨K0, _⟩ _ _ B
 simp only [slotsOf, finX, nval, nvalN, nvalA, Nat.reduceBEq, cond_true, cond_false, putAll, Act.put, List.setIfInBounds_toArray, List.set_cons_succ, List.set_cons_zero]
 generalize blkOf (σ 21) = g2_8 at *
 go_wp2_with (
  (first
  | (go_at_call 11; with_reducible refine (H_KN.out _ (baseI B.out)).mono ?_)
  | fail "arm"); rintro e wx ⟨rfl, q⟩; replace K0 := Lib.hid (K0.out.nearI q); replace K1 := Lib.hid (K1.out.nearI q); replace B := Lib.hid (goI B.out q); clear q)
 go_ret
 exact ⟨rfl, B.out⟩

set_option maxRecDepth 100000 in
set_option maxHeartbeats 20000000 in
theorem checks_of {A1 A2 A3 A0 S1 S2 S3 : ByteArray} {wt : Int} {ok : Bool} (w : World)
  (hm : decide ((8 : Int) < (A0.size : Int)) = false)
  (h1 : ok = true → (wt == 0) = true := by intros; contradiction)
  (h2 : ok = false → (wt == 0) = false := by intros; contradiction)
  (h_kn : Ret Tryz.prog w 11 #[] (.bool true))
  (h_br : ∀ (W : World) (b0 : Nat), Blk W b0 #[.string A1, .string A2, .string A3, .string S1, .string S2, .string S3] 24 → Below w.heap.size w W → Calls Tryz.prog 12 #[.slice (some ⟨b0, 0, none⟩) 2 2] W fun e w' => e = .returned (.bool true) ∧ Below W.heap.size W w')
  (h_lc : Ret Tryz.prog w 31 #[.agg #[.string A1, .string A2, .string A3, .string A0, .string S1, .string S2, .string S3]] (.int .i64 wt))
  (h_sc : Ret Tryz.prog w 32 #[.agg #[.string A1, .string A2, .string A3, .string A0, .string S1, .string S2, .string S3]] (.int .i64 wt))
  (h_pa : ok = false → Ret Tryz.prog w 33 #[.agg #[.string A1, .string A2, .string A3, .string A0, .string S1, .string S2, .string S3]] (.tuple #[.string ⟨#[]⟩, .string ⟨#[]⟩, .int .i64 wt]) := by intros; contradiction)
  (h_ki : ok = false → Ret Tryz.prog w 34 #[.agg #[.string A1, .string A2, .string A3, .string A0, .string S1, .string S2, .string S3]] (.tuple #[.int .i64 0, .int .i64 wt]) := by intros; contradiction)
  (h_th : ok = false → Ret Tryz.prog w 35 #[.agg #[.string A1, .string A2, .string A3, .string A0, .string S1, .string S2, .string S3]] (.tuple #[.string ⟨#[]⟩, .int .i64 wt]) := by intros; contradiction)
  (h_he : ok = false → Ret Tryz.prog w 36 #[.agg #[.string A1, .string A2, .string A3, .string A0, .string S1, .string S2, .string S3]] (.tuple #[.string ⟨#[]⟩, .int .i64 wt]) := by intros; contradiction) :
  Calls Tryz.prog 6 #[.agg #[.string A1, .string A2, .string A3, .string A0, .string S1, .string S2, .string S3]] w fun e w' => e = .returned (.bool true) ∧ Below w.heap.size w w' := by
 have H_KN := Lib.hid h_kn
 have H_BR := Lib.hid h_br
 have H_LC := Lib.hid h_lc
 have H_SC := Lib.hid h_sc
 clear h_kn h_br h_lc h_sc
 have B := Lib.hid (Below.refl w.heap.size w)
 go_enter Tryz.func6, Tryz.ntmps6
 go_upto_region 0 with (fail)
 refine wp_tab [.n 1, .v 2 (.bool false)] [⟨0, 1, fun g => .pointer (some ⟨g, 0, none⟩), #[.string A1, .string A2, .string A3, .string A0, .string S1, .string S2, .string S3], 58, none⟩] [] [] [] [] [] [] (by kernel_rfl) B.out trivial trivial ⟨ml 0, pu, trivial⟩ ?_
 clear B
 rintro σ W1 ⟨⟨L0, K0⟩, _⟩ _ _ _ B
 simp only [slotsOf, finX, nval, nvalN, nvalA, Nat.reduceBEq, cond_true, cond_false, putAll, Act.put, List.setIfInBounds_toArray, List.set_cons_succ, List.set_cons_zero]
 generalize blkOf (σ 1) = g1_0 at *
 go_upto_region 1 with (fail)
 refine wp_tab [.v 13 (.bool true), .v 14 (.bool false), .v 15 (.bool false), .v 16 (.pointer (some ⟨g1_0, 0, none⟩)), .v 17 (.pointer (some ⟨g1_0, 0, none⟩)), .v 18 (.agg #[.string A1, .string A2, .string A3]), .v 19 (.pointer (some ⟨g1_0, 4, none⟩)), .v 20 (.agg #[.string S1, .string S2, .string S3]), .n 21, .v 22 (.bool true), .v 23 (.bool false), .v 24 (.bool false), .v 25 (.bool false), .v 26 (.pointer (some ⟨g1_0, 0, none⟩)), .v 27 (.pointer (some ⟨g1_0, 3, none⟩)), .v 28 (.string A0), .v 29 (.int .i64 (A0.size : Int)), .v 30 (.bool false), .v 31 (.bool false)] [⟨8, 21, fun g => .slice (some ⟨g, 0, none⟩) 2 2, #[.string A1, .string A2, .string A3, .string S1, .string S2, .string S3], 24, none⟩] [⟨g1_0, #[.string A1, .string A2, .string A3, .string A0, .string S1, .string S2, .string S3], 58, none⟩] [] [] [] [] [] (by kernel_rfl) B.out ⟨K0.out, trivial⟩ trivial ⟨cl H_KN.out, pu, pu, pu, pu, ld 0 0, pu, ld 0 4, ml 0, c1 0 H_BR.out, pu, pu, pu, pu, pu, ld 0 3, ?_, ?_, pu, trivial⟩ ?_
 · intro L a U ho J hn d KK k; refine .pos (s := 25) rfl rfl (J.vals 12 _ _ rfl (d.get 12 rfl)) ?_; have r28 := J.read 15 rfl (d.get 15 rfl); go_simp; exact k.out _ _ (J.st 16 rfl rfl)
 · intro L a U ho J hn d KK k; refine .pos (s := 25) rfl rfl (J.vals 12 _ _ rfl (d.get 12 rfl)) ?_; have r29 := J.read 16 rfl (d.get 16 rfl); go_simp; exact k.out _ _ (J.st 17 rfl rfl)
 clear K0 B
 rintro σ W2 ⟨⟨L1, K1⟩, _⟩ ⟨K0, _⟩ _ _ B
 simp only [slotsOf, finX, nval, nvalN, nvalA, Nat.reduceBEq, cond_true, cond_false, putAll, Act.put, List.setIfInBounds_toArray, List.set_cons_succ, List.set_cons_zero]
 generalize blkOf (σ 21) = g2_8 at *
 have c0_0 := K0.out.at_ 0 _ rfl
 have c0_1 := K0.out.at_ 1 _ rfl
 have c0_2 := K0.out.at_ 2 _ rfl
 have c0_3 := K0.out.at_ 3 _ rfl
 have c0_4 := K0.out.at_ 4 _ rfl
 have c0_5 := K0.out.at_ 5 _ rfl
 have c0_6 := K0.out.at_ 6 _ rfl
 go_upto_region 6 with (
  (first
  | (go_at_call 31; with_reducible refine (H_LC.out _ (baseI B.out)).mono ?_)
  | (go_at_call 32; with_reducible refine (H_SC.out _ (baseI B.out)).mono ?_)
  | fail "arm"); rintro e wx ⟨rfl, q⟩; replace K0 := Lib.hid (K0.out.nearI q); replace K1 := Lib.hid (K1.out.nearI q); replace B := Lib.hid (goI B.out q); clear q; replace c0_0 := K0.out.at_ 0 _ rfl; replace c0_1 := K0.out.at_ 1 _ rfl; replace c0_2 := K0.out.at_ 2 _ rfl; replace c0_3 := K0.out.at_ 3 _ rfl; replace c0_4 := K0.out.at_ 4 _ rfl; replace c0_5 := K0.out.at_ 5 _ rfl; replace c0_6 := K0.out.at_ 6 _ rfl)
 clear c0_0 c0_1 c0_2 c0_3 c0_4 c0_5 c0_6
 cases ok
 ·
  have H_PA := Lib.hid (h_pa rfl)
  clear h_pa
  have H_KI := Lib.hid (h_ki rfl)
  clear h_ki
  have H_TH := Lib.hid (h_th rfl)
  clear h_th
  have H_HE := Lib.hid (h_he rfl)
  clear h_he
  clear h1
  have q_h2 := h2 rfl
  clear h2
  have c0_0 := K0.out.at_ 0 _ rfl
  have c0_1 := K0.out.at_ 1 _ rfl
  have c0_2 := K0.out.at_ 2 _ rfl
  have c0_3 := K0.out.at_ 3 _ rfl
  have c0_4 := K0.out.at_ 4 _ rfl
  have c0_5 := K0.out.at_ 5 _ rfl
  have c0_6 := K0.out.at_ 6 _ rfl
  go_wp2_with (
   (first
   | (go_at_call 33; with_reducible refine (H_PA.out _ (baseI B.out)).mono ?_)
   | (go_at_call 34; with_reducible refine (H_KI.out _ (baseI B.out)).mono ?_)
   | (go_at_call 35; with_reducible refine (H_TH.out _ (baseI B.out)).mono ?_)
   | (go_at_call 36; with_reducible refine (H_HE.out _ (baseI B.out)).mono ?_)
   | fail "arm"); rintro e wx ⟨rfl, q⟩; replace K0 := Lib.hid (K0.out.nearI q); replace K1 := Lib.hid (K1.out.nearI q); replace B := Lib.hid (goI B.out q); clear q; replace c0_0 := K0.out.at_ 0 _ rfl; replace c0_1 := K0.out.at_ 1 _ rfl; replace c0_2 := K0.out.at_ 2 _ rfl; replace c0_3 := K0.out.at_ 3 _ rfl; replace c0_4 := K0.out.at_ 4 _ rfl; replace c0_5 := K0.out.at_ 5 _ rfl; replace c0_6 := K0.out.at_ 6 _ rfl)
  clear c0_0 c0_1 c0_2 c0_3 c0_4 c0_5 c0_6
  go_ret
  exact ⟨rfl, B.out⟩
 ·
  clear h_pa
  clear h_ki
  clear h_th
  clear h_he
  have q_h1 := h1 rfl
  clear h1
  clear h2
  go_wp2
  go_ret
  exact ⟨rfl, B.out⟩

end Go.Proofs.YtopilnlniidejaaGreatDoor
