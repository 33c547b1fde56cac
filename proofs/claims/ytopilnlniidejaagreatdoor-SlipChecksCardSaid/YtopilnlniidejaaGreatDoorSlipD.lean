/- The walks of package slip, over texts: Throw, Heave. -/
import Derived.Test.YtopilnlniidejaaGreatDoorShelf
import Derived.Test.YtopilnlniidejaaGreatDoorGPar
import Derived.Deep.RegionHeld3
import Derived.Laws.ResultCell
import Derived.Deep.Cut
import Derived.Deep.CutRange
import Derived.Deep.DeepCutAuto
import Derived.Outline
namespace Go.Proofs.YtopilnlniidejaaGreatDoor
set_option linter.all false
open Go.RowKit

set_option maxRecDepth 100000 in
set_option maxHeartbeats 4000000 in
theorem sthrow_err (A1 A2 A3 A0 S1 S2 S3 : ByteArray) (ec : Int) (w : World)
  (hz : (ec != 0) = true)
  (h_ck : Ret Tryz.prog w 32 #[.agg #[.string A1, .string A2, .string A3, .string A0, .string S1, .string S2, .string S3]] (.int .i64 ec)) :
  Calls Tryz.prog 35 #[.agg #[.string A1, .string A2, .string A3, .string A0, .string S1, .string S2, .string S3]] w fun e w' => e = .returned (.tuple #[.string ⟨#[]⟩, .int .i64 ec]) ∧ Below w.heap.size w w' := by
 have H_CK := Lib.hid h_ck
 clear h_ck
 have B := Lib.hid (Below.refl w.heap.size w)
 go_enter Tryz.func35, Tryz.ntmps35
 go_upto_region 0 with (fail)
 refine wp_tab [.n 1, .v 2 (.string ⟨#[]⟩), .v 3 (.int .i64 0)] [⟨0, 1, fun g => .pointer (some ⟨g, 0, none⟩), #[.string A1, .string A2, .string A3, .string A0, .string S1, .string S2, .string S3], 58, none⟩] [] [] [] [] [] [] (by kernel_rfl) B.out trivial trivial ⟨ml 0, pu, pu, trivial⟩ ?_
 clear B
 rintro σ W1 ⟨⟨L0, K0⟩, _⟩ _ _ _ B
 simp only [slotsOf, finX, nval, nvalN, nvalA, Nat.reduceBEq, cond_true, cond_false, putAll, Act.put, List.setIfInBounds_toArray, List.set_cons_succ, List.set_cons_zero]
 generalize blkOf (σ 1) = g1_0 at *
 have c0_0 := K0.out.at_ 0 _ rfl
 have c0_1 := K0.out.at_ 1 _ rfl
 have c0_2 := K0.out.at_ 2 _ rfl
 have c0_3 := K0.out.at_ 3 _ rfl
 have c0_4 := K0.out.at_ 4 _ rfl
 have c0_5 := K0.out.at_ 5 _ rfl
 have c0_6 := K0.out.at_ 6 _ rfl
 go_wp2_with (
  (first
  | (go_at_call 32; with_reducible refine (H_CK.out _ (baseI B.out)).mono ?_)
  | fail "arm"); rintro e wx ⟨rfl, q⟩; replace K0 := Lib.hid (K0.out.nearI q); replace B := Lib.hid (goI B.out q); clear q; replace c0_0 := K0.out.at_ 0 _ rfl; replace c0_1 := K0.out.at_ 1 _ rfl; replace c0_2 := K0.out.at_ 2 _ rfl; replace c0_3 := K0.out.at_ 3 _ rfl; replace c0_4 := K0.out.at_ 4 _ rfl; replace c0_5 := K0.out.at_ 5 _ rfl; replace c0_6 := K0.out.at_ 6 _ rfl)
 clear c0_0 c0_1 c0_2 c0_3 c0_4 c0_5 c0_6
 go_ret2
 exact ⟨rfl, B.out⟩

set_option maxRecDepth 100000 in
set_option maxHeartbeats 4000000 in
theorem sthrow_ok (A1 A2 A3 A0 S1 S2 S3 : ByteArray) (w : World)
  (h_ck : Ret Tryz.prog w 32 #[.agg #[.string A1, .string A2, .string A3, .string A0, .string S1, .string S2, .string S3]] (.int .i64 0)) :
  Calls Tryz.prog 35 #[.agg #[.string A1, .string A2, .string A3, .string A0, .string S1, .string S2, .string S3]] w fun e w' => e = .returned (.tuple #[.string S3, .int .i64 0]) ∧ Below w.heap.size w w' := by
 have H_CK := Lib.hid h_ck
 clear h_ck
 have B := Lib.hid (Below.refl w.heap.size w)
 go_enter Tryz.func35, Tryz.ntmps35
 go_upto_region 0 with (fail)
 refine wp_tab [.n 1, .v 2 (.string ⟨#[]⟩), .v 3 (.int .i64 0)] [⟨0, 1, fun g => .pointer (some ⟨g, 0, none⟩), #[.string A1, .string A2, .string A3, .string A0, .string S1, .string S2, .string S3], 58, none⟩] [] [] [] [] [] [] (by kernel_rfl) B.out trivial trivial ⟨ml 0, pu, pu, trivial⟩ ?_
 clear B
 rintro σ W1 ⟨⟨L0, K0⟩, _⟩ _ _ _ B
 simp only [slotsOf, finX, nval, nvalN, nvalA, Nat.reduceBEq, cond_true, cond_false, putAll, Act.put, List.setIfInBounds_toArray, List.set_cons_succ, List.set_cons_zero]
 generalize blkOf (σ 1) = g1_0 at *
 have c0_0 := K0.out.at_ 0 _ rfl
 have c0_1 := K0.out.at_ 1 _ rfl
 have c0_2 := K0.out.at_ 2 _ rfl
 have c0_3 := K0.out.at_ 3 _ rfl
 have c0_4 := K0.out.at_ 4 _ rfl
 have c0_5 := K0.out.at_ 5 _ rfl
 have c0_6 := K0.out.at_ 6 _ rfl
 go_wp2_with (
  (first
  | (go_at_call 32; with_reducible refine (H_CK.out _ (baseI B.out)).mono ?_)
  | fail "arm"); rintro e wx ⟨rfl, q⟩; replace K0 := Lib.hid (K0.out.nearI q); replace B := Lib.hid (goI B.out q); clear q; replace c0_0 := K0.out.at_ 0 _ rfl; replace c0_1 := K0.out.at_ 1 _ rfl; replace c0_2 := K0.out.at_ 2 _ rfl; replace c0_3 := K0.out.at_ 3 _ rfl; replace c0_4 := K0.out.at_ 4 _ rfl; replace c0_5 := K0.out.at_ 5 _ rfl; replace c0_6 := K0.out.at_ 6 _ rfl)
 clear c0_0 c0_1 c0_2 c0_3 c0_4 c0_5 c0_6
 go_ret2
 exact ⟨rfl, B.out⟩

set_option maxRecDepth 100000 in
set_option maxHeartbeats 4000000 in
theorem sheave_err (A1 A2 A3 A0 S1 S2 S3 : ByteArray) (ec : Int) (w : World)
  (hz : (ec != 0) = true)
  (h_ck : Ret Tryz.prog w 32 #[.agg #[.string A1, .string A2, .string A3, .string A0, .string S1, .string S2, .string S3]] (.int .i64 ec)) :
  Calls Tryz.prog 36 #[.agg #[.string A1, .string A2, .string A3, .string A0, .string S1, .string S2, .string S3]] w fun e w' => e = .returned (.tuple #[.string ⟨#[]⟩, .int .i64 ec]) ∧ Below w.heap.size w w' := by
 have H_CK := Lib.hid h_ck
 clear h_ck
 have B := Lib.hid (Below.refl w.heap.size w)
 go_enter Tryz.func36, Tryz.ntmps36
 go_upto_region 0 with (fail)
 refine wp_tab [.n 1, .v 2 (.string ⟨#[]⟩), .v 3 (.int .i64 0)] [⟨0, 1, fun g => .pointer (some ⟨g, 0, none⟩), #[.string A1, .string A2, .string A3, .string A0, .string S1, .string S2, .string S3], 58, none⟩] [] [] [] [] [] [] (by kernel_rfl) B.out trivial trivial ⟨ml 0, pu, pu, trivial⟩ ?_
 clear B
 rintro σ W1 ⟨⟨L0, K0⟩, _⟩ _ _ _ B
 simp only [slotsOf, finX, nval, nvalN, nvalA, Nat.reduceBEq, cond_true, cond_false, putAll, Act.put, List.setIfInBounds_toArray, List.set_cons_succ, List.set_cons_zero]
 generalize blkOf (σ 1) = g1_0 at *
 have c0_0 := K0.out.at_ 0 _ rfl
 have c0_1 := K0.out.at_ 1 _ rfl
 have c0_2 := K0.out.at_ 2 _ rfl
 have c0_3 := K0.out.at_ 3 _ rfl
 have c0_4 := K0.out.at_ 4 _ rfl
 have c0_5 := K0.out.at_ 5 _ rfl
 have c0_6 := K0.out.at_ 6 _ rfl
 go_wp2_with (
  (first
  | (go_at_call 32; with_reducible refine (H_CK.out _ (baseI B.out)).mono ?_)
  | fail "arm"); rintro e wx ⟨rfl, q⟩; replace K0 := Lib.hid (K0.out.nearI q); replace B := Lib.hid (goI B.out q); clear q; replace c0_0 := K0.out.at_ 0 _ rfl; replace c0_1 := K0.out.at_ 1 _ rfl; replace c0_2 := K0.out.at_ 2 _ rfl; replace c0_3 := K0.out.at_ 3 _ rfl; replace c0_4 := K0.out.at_ 4 _ rfl; replace c0_5 := K0.out.at_ 5 _ rfl; replace c0_6 := K0.out.at_ 6 _ rfl)
 clear c0_0 c0_1 c0_2 c0_3 c0_4 c0_5 c0_6
 go_ret2
 exact ⟨rfl, B.out⟩

set_option maxRecDepth 100000 in
set_option maxHeartbeats 4000000 in
theorem sheave_ok (A1 A2 A3 A0 S1 S2 S3 P Q R : ByteArray) (w : World)
  (h_ck : Ret Tryz.prog w 32 #[.agg #[.string A1, .string A2, .string A3, .string A0, .string S1, .string S2, .string S3]] (.int .i64 0))
  (h_m1 : Ret Tryz.prog w 82 #[.string S1, .string S1] (.string P))
  (h_m2 : Ret Tryz.prog w 82 #[.string S2, .string S2] (.string Q))
  (h_m3 : Ret Tryz.prog w 81 #[.string P, .string Q] (.string R))
  (h_h1 : Ret Tryz.prog w 80 #[.string R] (.tuple #[.string R, .int .i64 0])) :
  Calls Tryz.prog 36 #[.agg #[.string A1, .string A2, .string A3, .string A0, .string S1, .string S2, .string S3]] w fun e w' => e = .returned (.tuple #[.string R, .int .i64 0]) ∧ Below w.heap.size w w' := by
 have H_CK := Lib.hid h_ck
 have H_M1 := Lib.hid h_m1
 have H_M2 := Lib.hid h_m2
 have H_M3 := Lib.hid h_m3
 have H_H1 := Lib.hid h_h1
 clear h_ck h_m1 h_m2 h_m3 h_h1
 have B := Lib.hid (Below.refl w.heap.size w)
 go_enter Tryz.func36, Tryz.ntmps36
 go_upto_region 0 with (fail)
 refine wp_tab [.n 1, .v 2 (.string ⟨#[]⟩), .v 3 (.int .i64 0)] [⟨0, 1, fun g => .pointer (some ⟨g, 0, none⟩), #[.string A1, .string A2, .string A3, .string A0, .string S1, .string S2, .string S3], 58, none⟩] [] [] [] [] [] [] (by kernel_rfl) B.out trivial trivial ⟨ml 0, pu, pu, trivial⟩ ?_
 clear B
 rintro σ W1 ⟨⟨L0, K0⟩, _⟩ _ _ _ B
 simp only [slotsOf, finX, nval, nvalN, nvalA, Nat.reduceBEq, cond_true, cond_false, putAll, Act.put, List.setIfInBounds_toArray, List.set_cons_succ, List.set_cons_zero]
 generalize blkOf (σ 1) = g1_0 at *
 have c0_0 := K0.out.at_ 0 _ rfl
 have c0_1 := K0.out.at_ 1 _ rfl
 have c0_2 := K0.out.at_ 2 _ rfl
 have c0_3 := K0.out.at_ 3 _ rfl
 have c0_4 := K0.out.at_ 4 _ rfl
 have c0_5 := K0.out.at_ 5 _ rfl
 have c0_6 := K0.out.at_ 6 _ rfl
 go_upto_region 4 with (
  (first
  | (go_at_call 32; with_reducible refine (H_CK.out _ (baseI B.out)).mono ?_)
  | fail "arm"); rintro e wx ⟨rfl, q⟩; replace K0 := Lib.hid (K0.out.nearI q); replace B := Lib.hid (goI B.out q); clear q; replace c0_0 := K0.out.at_ 0 _ rfl; replace c0_1 := K0.out.at_ 1 _ rfl; replace c0_2 := K0.out.at_ 2 _ rfl; replace c0_3 := K0.out.at_ 3 _ rfl; replace c0_4 := K0.out.at_ 4 _ rfl; replace c0_5 := K0.out.at_ 5 _ rfl; replace c0_6 := K0.out.at_ 6 _ rfl)
 clear c0_0 c0_1 c0_2 c0_3 c0_4 c0_5 c0_6
 refine wp_tab [.v 10 (.pointer (some ⟨g1_0, 4, none⟩)), .v 11 (.pointer (some ⟨g1_0, 4, none⟩)), .v 12 (.string S1), .v 13 (.pointer (some ⟨g1_0, 4, none⟩)), .v 14 (.pointer (some ⟨g1_0, 4, none⟩)), .v 15 (.string S1), .v 16 (.string P), .v 17 (.pointer (some ⟨g1_0, 4, none⟩)), .v 18 (.pointer (some ⟨g1_0, 5, none⟩)), .v 19 (.string S2), .v 20 (.pointer (some ⟨g1_0, 4, none⟩)), .v 21 (.pointer (some ⟨g1_0, 5, none⟩)), .v 22 (.string S2), .v 23 (.string Q), .v 24 (.string R), .v 25 (.tuple #[.string R, .int .i64 0]), .v 26 (.string R), .v 27 (.int .i64 0), .v 2 (.string R), .v 3 (.int .i64 0)] [] [⟨g1_0, #[.string A1, .string A2, .string A3, .string A0, .string S1, .string S2, .string S3], 58, none⟩] [] [] [] [] [] (by kernel_rfl) B.out ⟨K0.out, trivial⟩ trivial ⟨pu, pu, ld 0 4, pu, pu, ld 0 4, cl H_M1.out, pu, pu, ld 0 5, pu, pu, ld 0 5, cl H_M2.out, cl H_M3.out, cl H_H1.out, pu, pu, pu, pu, trivial⟩ ?_
 clear K0 B
 rintro σ W2 _ ⟨K0, _⟩ _ _ B
 simp only [slotsOf, finX, nval, nvalN, nvalA, Nat.reduceBEq, cond_true, cond_false, putAll, Act.put, List.setIfInBounds_toArray, List.set_cons_succ, List.set_cons_zero]
 go_wp2
 go_ret2
 exact ⟨rfl, B.out⟩

end Go.Proofs.YtopilnlniidejaaGreatDoor
