/- The walks of package slip, over texts: Separation, Explains. -/
import Derived.Test.YtopilnlniidejaaGreatDoorShelf
import Derived.Test.YtopilnlniidejaaGreatDoorGPar
import Derived.Deep.RegionHeld3
import Derived.Laws.ResultCell
import Derived.Deep.Cut
import Derived.Deep.CutRange
import Derived.Deep.DeepCutAuto
import Derived.Outline
namespace Go.Proofs.YtopilnlniidejaaGreatDoor
set_option linter.all false
open Go.RowKit

set_option maxRecDepth 100000 in
set_option maxHeartbeats 8000000 in
theorem ssep_of {A1 A2 A3 A0 S1 S2 S3 N1 N2 N3 N0 D1 D2 D3 P Q R : ByteArray} {e1 e2 e3 e4 e5 e6 ef ez ed : Int} {res : Value} (w : World)
  (r1 : ¬ ef = 0 → res = .tuple #[.string ⟨#[]⟩, .int .i64 ef])
  (r2 : ef = 0 → ¬ ez = 0 → res = .tuple #[.string ⟨#[]⟩, .int .i64 ez])
  (r3 : ef = 0 → ez = 0 → ¬ ed = 0 → res = .tuple #[.string ⟨#[]⟩, .int .i64 18])
  (r4 : ef = 0 → ez = 0 → ed = 0 → res = .tuple #[.string R, .int .i64 0])
  (h_p1 : Ret Tryz.prog w 50 #[.agg #[.string A1, .string A2, .string A3, .string A0]] (.int .i64 e1))
  (h_v1 : ∀ (W : World) (b0 : Nat), Blk W b0 #[.string S1, .string S2, .string S3] 24 → Below w.heap.size w W → Calls Tryz.prog 62 #[.slice (some ⟨b0, 0, none⟩) 1 1] W fun e w' => e = .returned (.int .i64 e2) ∧ Below W.heap.size W w')
  (h_p2 : Ret Tryz.prog w 50 #[.agg #[.string N1, .string N2, .string N3, .string N0]] (.int .i64 e3))
  (h_v2 : ∀ (W : World) (b0 : Nat), Blk W b0 #[.string D1, .string D2, .string D3] 24 → Below w.heap.size w W → Calls Tryz.prog 62 #[.slice (some ⟨b0, 0, none⟩) 1 1] W fun e w' => e = .returned (.int .i64 e4) ∧ Below W.heap.size W w')
  (h_f1 : ∀ (W : World) (b0 : Nat), Blk W b0 #[.int .i64 e1, .int .i64 e2, .int .i64 e3, .int .i64 e4] 31 → Below w.heap.size w W → Calls Tryz.prog 49 #[.slice (some ⟨b0, 0, none⟩) 4 4] W fun e w' => e = .returned (.int .i64 ef) ∧ Below W.heap.size W w')
  (h_z1 : ef = 0 → ∀ (W : World) (b0 : Nat), Blk W b0 #[.string A1, .string A2, .string A3, .string N1, .string N2, .string N3, .string D1, .string D2, .string D3] 24 → Below w.heap.size w W → Calls Tryz.prog 52 #[.slice (some ⟨b0, 0, none⟩) 3 3] W fun e w' => e = .returned (.int .i64 e5) ∧ Below W.heap.size W w')
  (h_m1 : ef = 0 → Ret Tryz.prog w 75 #[.agg #[.string A1, .string A2, .string A3, .string A0, .string S1, .string S2, .string S3]] (.int .i64 e6))
  (h_f2 : ef = 0 → ∀ (W : World) (b0 : Nat), Blk W b0 #[.int .i64 e5, .int .i64 e6] 31 → Below w.heap.size w W → Calls Tryz.prog 49 #[.slice (some ⟨b0, 0, none⟩) 2 2] W fun e w' => e = .returned (.int .i64 ez) ∧ Below W.heap.size W w')
  (h_d1 : ef = 0 ∧ ez = 0 → Ret Tryz.prog w 64 #[.agg #[.string N1, .string N2, .string N3], .agg #[.string S1, .string S2, .string S3]] (.string P))
  (h_d2 : ef = 0 ∧ ez = 0 → Ret Tryz.prog w 64 #[.agg #[.string N1, .string N2, .string N3], .agg #[.string D1, .string D2, .string D3]] (.string Q))
  (h_di : ef = 0 ∧ ez = 0 → Ret Tryz.prog w 63 #[.string P, .string Q] (.tuple #[.string R, .int .i64 ed]))
  (h_sh : ef = 0 ∧ ez = 0 ∧ ed = 0 → Ret Tryz.prog w 80 #[.string R] (.tuple #[.string R, .int .i64 0])) :
  Calls Tryz.prog 42 #[.agg #[.string A1, .string A2, .string A3, .string A0, .string S1, .string S2, .string S3], .agg #[.string N1, .string N2, .string N3, .string N0], .agg #[.string D1, .string D2, .string D3]] w fun e w' => e = .returned (res) ∧ Below w.heap.size w w' := by
 have H_P1 := Lib.hid h_p1
 have H_V1 := Lib.hid h_v1
 have H_P2 := Lib.hid h_p2
 have H_V2 := Lib.hid h_v2
 have H_F1 := Lib.hid h_f1
 clear h_p1 h_v1 h_p2 h_v2 h_f1
 have B := Lib.hid (Below.refl w.heap.size w)
 go_enter Tryz.func42, Tryz.ntmps42
 go_upto_region 0 with (fail)
 refine wp_tab [.n 3, .n 4, .n 5, .v 6 (.string ⟨#[]⟩), .v 7 (.int .i64 0)] [⟨0, 3, fun g => .pointer (some ⟨g, 0, none⟩), #[.string A1, .string A2, .string A3, .string A0, .string S1, .string S2, .string S3], 58, none⟩, ⟨1, 4, fun g => .pointer (some ⟨g, 0, none⟩), #[.string N1, .string N2, .string N3, .string N0], 26, none⟩, ⟨2, 5, fun g => .pointer (some ⟨g, 0, none⟩), #[.string D1, .string D2, .string D3], 24, none⟩] [] [] [] [] [] [] (by kernel_rfl) B.out trivial trivial ⟨ml 0, ml 1, ml 2, pu, pu, trivial⟩ ?_
 clear B
 rintro σ W1 ⟨⟨L0, K0⟩, ⟨L1, K1⟩, ⟨L2, K2⟩, _⟩ _ _ _ B
 simp only [slotsOf, finX, nval, nvalN, nvalA, Nat.reduceBEq, cond_true, cond_false, putAll, Act.put, List.setIfInBounds_toArray, List.set_cons_succ, List.set_cons_zero]
 generalize blkOf (σ 3) = g1_0 at *
 generalize blkOf (σ 4) = g1_1 at *
 generalize blkOf (σ 5) = g1_2 at *
 go_upto_region 1 with (fail)
 refine wp_tab [.v 12 (.pointer (some ⟨g1_0, 0, none⟩)), .v 13 (.agg #[.string A1, .string A2, .string A3, .string A0]), .v 14 (.int .i64 e1), .v 15 (.pointer (some ⟨g1_0, 4, none⟩)), .v 16 (.agg #[.string S1, .string S2, .string S3]), .n 17, .v 18 (.int .i64 e2), .v 19 (.agg #[.string N1, .string N2, .string N3, .string N0]), .v 20 (.int .i64 e3), .v 21 (.agg #[.string D1, .string D2, .string D3]), .n 22, .v 23 (.int .i64 e4), .n 24, .v 25 (.int .i64 ef), .v 8 (.int .i64 ef)] [⟨5, 17, fun g => .slice (some ⟨g, 0, none⟩) 1 1, #[.string S1, .string S2, .string S3], 24, none⟩, ⟨10, 22, fun g => .slice (some ⟨g, 0, none⟩) 1 1, #[.string D1, .string D2, .string D3], 24, none⟩, ⟨12, 24, fun g => .slice (some ⟨g, 0, none⟩) 4 4, #[.int .i64 e1, .int .i64 e2, .int .i64 e3, .int .i64 e4], 31, none⟩] [⟨g1_0, #[.string A1, .string A2, .string A3, .string A0, .string S1, .string S2, .string S3], 58, none⟩, ⟨g1_1, #[.string N1, .string N2, .string N3, .string N0], 26, none⟩, ⟨g1_2, #[.string D1, .string D2, .string D3], 24, none⟩] [] [] [] [] [] (by kernel_rfl) B.out ⟨K0.out, K1.out, K2.out, trivial⟩ trivial ⟨pu, ld 0 0, cl H_P1.out, pu, ld 0 4, ml 0, c1 0 H_V1.out, ld 1 0, cl H_P2.out, ld 2 0, ml 1, c1 1 H_V2.out, ml 2, c1 2 H_F1.out, pu, trivial⟩ ?_
 clear K0 K1 K2 B
 rintro σ W2 ⟨⟨L3, K3⟩, ⟨L4, K4⟩, ⟨L5, K5⟩, _⟩ ⟨K0, K1, K2, _⟩ _ _ B
 simp only [slotsOf, finX, nval, nvalN, nvalA, Nat.reduceBEq, cond_true, cond_false, putAll, Act.put, List.setIfInBounds_toArray, List.set_cons_succ, List.set_cons_zero]
 generalize blkOf (σ 17) = g2_5 at *
 generalize blkOf (σ 22) = g2_10 at *
 generalize blkOf (σ 24) = g2_12 at *
 go_upto_region 2 with (fail)
 by_cases hef : ef = 0
 ·
  have qef : (ef != 0) = false := by simp [hef]
  have H_Z1 := Lib.hid (h_z1 hef)
  have H_M1 := Lib.hid (h_m1 hef)
  have H_F2 := Lib.hid (h_f2 hef)
  clear h_z1 h_m1 h_f2
  go_upto_region 4 with (fail)
  refine wp_tab [.v 29 (.pointer (some ⟨g1_0, 0, none⟩)), .v 30 (.pointer (some ⟨g1_0, 0, none⟩)), .v 31 (.agg #[.string A1, .string A2, .string A3]), .v 32 (.pointer (some ⟨g1_1, 0, none⟩)), .v 33 (.agg #[.string N1, .string N2, .string N3]), .v 34 (.agg #[.string D1, .string D2, .string D3]), .n 35, .v 36 (.int .i64 e5), .v 37 (.agg #[.string A1, .string A2, .string A3, .string A0, .string S1, .string S2, .string S3]), .v 38 (.int .i64 e6), .n 39, .v 40 (.int .i64 ez), .v 9 (.int .i64 ez)] [⟨6, 35, fun g => .slice (some ⟨g, 0, none⟩) 3 3, #[.string A1, .string A2, .string A3, .string N1, .string N2, .string N3, .string D1, .string D2, .string D3], 24, none⟩, ⟨10, 39, fun g => .slice (some ⟨g, 0, none⟩) 2 2, #[.int .i64 e5, .int .i64 e6], 31, none⟩] [⟨g1_0, #[.string A1, .string A2, .string A3, .string A0, .string S1, .string S2, .string S3], 58, none⟩, ⟨g1_1, #[.string N1, .string N2, .string N3, .string N0], 26, none⟩, ⟨g1_2, #[.string D1, .string D2, .string D3], 24, none⟩, ⟨g2_5, #[.string S1, .string S2, .string S3], 24, none⟩, ⟨g2_10, #[.string D1, .string D2, .string D3], 24, none⟩, ⟨g2_12, #[.int .i64 e1, .int .i64 e2, .int .i64 e3, .int .i64 e4], 31, none⟩] [] [] [] [] [] (by kernel_rfl) B.out ⟨K0.out, K1.out, K2.out, K3.out, K4.out, K5.out, trivial⟩ trivial ⟨pu, pu, ld 0 0, pu, ld 1 0, ld 2 0, ml 0, c1 0 H_Z1.out, ld 0 0, cl H_M1.out, ml 1, c1 1 H_F2.out, pu, trivial⟩ ?_
  clear K0 K1 K2 K3 K4 K5 B
  rintro σ W3 ⟨⟨L6, K6⟩, ⟨L7, K7⟩, _⟩ ⟨K0, K1, K2, K3, K4, K5, _⟩ _ _ B
  simp only [slotsOf, finX, nval, nvalN, nvalA, Nat.reduceBEq, cond_true, cond_false, putAll, Act.put, List.setIfInBounds_toArray, List.set_cons_succ, List.set_cons_zero]
  generalize blkOf (σ 35) = g3_6 at *
  generalize blkOf (σ 39) = g3_10 at *
  go_upto_region 5 with (fail)
  by_cases hez : ez = 0
  ·
   have qez : (ez != 0) = false := by simp [hez]
   have H_D1 := Lib.hid (h_d1 ⟨hef, hez⟩)
   have H_D2 := Lib.hid (h_d2 ⟨hef, hez⟩)
   have H_DI := Lib.hid (h_di ⟨hef, hez⟩)
   clear h_d1 h_d2 h_di
   go_upto_region 7 with (fail)
   refine wp_tab [.v 45 (.pointer (some ⟨g1_1, 0, none⟩)), .v 46 (.agg #[.string N1, .string N2, .string N3]), .v 47 (.pointer (some ⟨g1_0, 4, none⟩)), .v 48 (.agg #[.string S1, .string S2, .string S3]), .v 49 (.string P), .v 50 (.pointer (some ⟨g1_1, 0, none⟩)), .v 51 (.agg #[.string N1, .string N2, .string N3]), .v 52 (.agg #[.string D1, .string D2, .string D3]), .v 53 (.string Q), .v 54 (.tuple #[.string R, .int .i64 ed]), .v 44 (.tuple #[.string R, .int .i64 ed]), .v 55 (.string R), .v 56 (.int .i64 ed), .v 10 (.string R), .v 11 (.int .i64 ed)] [] [⟨g1_0, #[.string A1, .string A2, .string A3, .string A0, .string S1, .string S2, .string S3], 58, none⟩, ⟨g1_1, #[.string N1, .string N2, .string N3, .string N0], 26, none⟩, ⟨g1_2, #[.string D1, .string D2, .string D3], 24, none⟩, ⟨g2_5, #[.string S1, .string S2, .string S3], 24, none⟩, ⟨g2_10, #[.string D1, .string D2, .string D3], 24, none⟩, ⟨g2_12, #[.int .i64 e1, .int .i64 e2, .int .i64 e3, .int .i64 e4], 31, none⟩, ⟨g3_6, #[.string A1, .string A2, .string A3, .string N1, .string N2, .string N3, .string D1, .string D2, .string D3], 24, none⟩, ⟨g3_10, #[.int .i64 e5, .int .i64 e6], 31, none⟩] [] [] [] [] [] (by kernel_rfl) B.out ⟨K0.out, K1.out, K2.out, K3.out, K4.out, K5.out, K6.out, K7.out, trivial⟩ trivial ⟨pu, ld 1 0, pu, ld 0 4, cl H_D1.out, pu, ld 1 0, ld 2 0, cl H_D2.out, cl H_DI.out, pu, pu, pu, pu, pu, trivial⟩ ?_
   clear K0 K1 K2 K3 K4 K5 K6 K7 B
   rintro σ W4 _ ⟨K0, K1, K2, K3, K4, K5, K6, K7, _⟩ _ _ B
   simp only [slotsOf, finX, nval, nvalN, nvalA, Nat.reduceBEq, cond_true, cond_false, putAll, Act.put, List.setIfInBounds_toArray, List.set_cons_succ, List.set_cons_zero]
   go_upto_region 8 with (fail)
   by_cases hed : ed = 0
   ·
    have qed : (ed != 0) = false := by simp [hed]
    have H_SH := Lib.hid (h_sh ⟨hef, hez, hed⟩)
    clear h_sh
    go_wp2_with (
     (first
     | (go_at_call 80; with_reducible refine (H_SH.out _ (baseI B.out)).mono ?_)
     | fail "arm"); rintro e wx ⟨rfl, q⟩; replace K0 := Lib.hid (K0.out.nearI q); replace K1 := Lib.hid (K1.out.nearI q); replace K2 := Lib.hid (K2.out.nearI q); replace K3 := Lib.hid (K3.out.nearI q); replace K4 := Lib.hid (K4.out.nearI q); replace K5 := Lib.hid (K5.out.nearI q); replace K6 := Lib.hid (K6.out.nearI q); replace K7 := Lib.hid (K7.out.nearI q); replace B := Lib.hid (goI B.out q); clear q)
    go_ret2
    exact ⟨by first | rfl | (rw [r4 hef hez hed] <;> rfl), B.out⟩
   ·
    have qed : (ed != 0) = true := by simp [hed]
    go_wp2
    go_ret2
    exact ⟨by first | rfl | (rw [r3 hef hez hed] <;> rfl), B.out⟩
  ·
   have qez : (ez != 0) = true := by simp [hez]
   go_wp2
   go_ret2
   exact ⟨by first | rfl | (rw [r2 hef hez] <;> rfl), B.out⟩
 ·
  have qef : (ef != 0) = true := by simp [hef]
  go_wp2
  go_ret2
  exact ⟨by first | rfl | (rw [r1 hef] <;> rfl), B.out⟩

set_option maxRecDepth 100000 in
set_option maxHeartbeats 4000000 in
theorem sexpl_of {A1 A2 A3 A0 S1 S2 S3 N1 N2 N3 N0 M P Q : ByteArray} {e1 e2 e3 e4 e5 e6 : Int} {bq : Bool} (w : World)
  (hq : (P.toList == Q.toList) = bq)
  (h_p1 : Ret Tryz.prog w 50 #[.agg #[.string A1, .string A2, .string A3, .string A0]] (.int .i64 e1))
  (h_v1 : ∀ (W : World) (b0 : Nat), Blk W b0 #[.string S1, .string S2, .string S3] 24 → Below w.heap.size w W → Calls Tryz.prog 62 #[.slice (some ⟨b0, 0, none⟩) 1 1] W fun e w' => e = .returned (.int .i64 e2) ∧ Below W.heap.size W w')
  (h_p2 : Ret Tryz.prog w 50 #[.agg #[.string N1, .string N2, .string N3, .string N0]] (.int .i64 e3))
  (h_n1 : ∀ (W : World) (b0 : Nat), Blk W b0 #[.string M] 22 → Below w.heap.size w W → Calls Tryz.prog 51 #[.slice (some ⟨b0, 0, none⟩) 1 1] W fun e w' => e = .returned (.int .i64 e4) ∧ Below W.heap.size W w')
  (h_f1 : ∀ (W : World) (b0 : Nat), Blk W b0 #[.int .i64 e1, .int .i64 e2, .int .i64 e3, .int .i64 e4] 31 → Below w.heap.size w W → Calls Tryz.prog 49 #[.slice (some ⟨b0, 0, none⟩) 4 4] W fun e w' => e = .returned (.int .i64 0) ∧ Below W.heap.size W w')
  (h_z1 : ∀ (W : World) (b0 : Nat), Blk W b0 #[.string A1, .string A2, .string A3, .string N1, .string N2, .string N3] 24 → Below w.heap.size w W → Calls Tryz.prog 52 #[.slice (some ⟨b0, 0, none⟩) 2 2] W fun e w' => e = .returned (.int .i64 e5) ∧ Below W.heap.size W w')
  (h_m1 : Ret Tryz.prog w 75 #[.agg #[.string A1, .string A2, .string A3, .string A0, .string S1, .string S2, .string S3]] (.int .i64 e6))
  (h_f2 : ∀ (W : World) (b0 : Nat), Blk W b0 #[.int .i64 e5, .int .i64 e6] 31 → Below w.heap.size w W → Calls Tryz.prog 49 #[.slice (some ⟨b0, 0, none⟩) 2 2] W fun e w' => e = .returned (.int .i64 0) ∧ Below W.heap.size W w')
  (h_d1 : Ret Tryz.prog w 64 #[.agg #[.string N1, .string N2, .string N3], .agg #[.string S1, .string S2, .string S3]] (.string P))
  (h_su : Ret Tryz.prog w 53 #[.string M, .string N0] (.string Q)) :
  Calls Tryz.prog 43 #[.agg #[.string A1, .string A2, .string A3, .string A0, .string S1, .string S2, .string S3], .agg #[.string N1, .string N2, .string N3, .string N0, .string M]] w fun e w' => e = .returned (.tuple #[.bool bq, .int .i64 0]) ∧ Below w.heap.size w w' := by
 have H_P1 := Lib.hid h_p1
 have H_V1 := Lib.hid h_v1
 have H_P2 := Lib.hid h_p2
 have H_N1 := Lib.hid h_n1
 have H_F1 := Lib.hid h_f1
 have H_Z1 := Lib.hid h_z1
 have H_M1 := Lib.hid h_m1
 have H_F2 := Lib.hid h_f2
 have H_D1 := Lib.hid h_d1
 have H_SU := Lib.hid h_su
 clear h_p1 h_v1 h_p2 h_n1 h_f1 h_z1 h_m1 h_f2 h_d1 h_su
 have B := Lib.hid (Below.refl w.heap.size w)
 go_enter Tryz.func43, Tryz.ntmps43
 go_upto_region 0 with (fail)
 refine wp_tab [.n 2, .n 3, .v 4 (.bool false), .v 5 (.int .i64 0)] [⟨0, 2, fun g => .pointer (some ⟨g, 0, none⟩), #[.string A1, .string A2, .string A3, .string A0, .string S1, .string S2, .string S3], 58, none⟩, ⟨1, 3, fun g => .pointer (some ⟨g, 0, none⟩), #[.string N1, .string N2, .string N3, .string N0, .string M], 35, none⟩] [] [] [] [] [] [] (by kernel_rfl) B.out trivial trivial ⟨ml 0, ml 1, pu, pu, trivial⟩ ?_
 clear B
 rintro σ W1 ⟨⟨L0, K0⟩, ⟨L1, K1⟩, _⟩ _ _ _ B
 simp only [slotsOf, finX, nval, nvalN, nvalA, Nat.reduceBEq, cond_true, cond_false, putAll, Act.put, List.setIfInBounds_toArray, List.set_cons_succ, List.set_cons_zero]
 generalize blkOf (σ 2) = g1_0 at *
 generalize blkOf (σ 3) = g1_1 at *
 go_upto_region 1 with (fail)
 refine wp_tab [.v 8 (.pointer (some ⟨g1_0, 0, none⟩)), .v 9 (.agg #[.string A1, .string A2, .string A3, .string A0]), .v 10 (.int .i64 e1), .v 11 (.pointer (some ⟨g1_0, 4, none⟩)), .v 12 (.agg #[.string S1, .string S2, .string S3]), .n 13, .v 14 (.int .i64 e2), .v 15 (.pointer (some ⟨g1_1, 0, none⟩)), .v 16 (.agg #[.string N1, .string N2, .string N3, .string N0]), .v 17 (.int .i64 e3), .v 18 (.pointer (some ⟨g1_1, 4, none⟩)), .v 19 (.string M), .n 20, .v 21 (.int .i64 e4), .n 22, .v 23 (.int .i64 0), .v 6 (.int .i64 0)] [⟨5, 13, fun g => .slice (some ⟨g, 0, none⟩) 1 1, #[.string S1, .string S2, .string S3], 24, none⟩, ⟨12, 20, fun g => .slice (some ⟨g, 0, none⟩) 1 1, #[.string M], 22, none⟩, ⟨14, 22, fun g => .slice (some ⟨g, 0, none⟩) 4 4, #[.int .i64 e1, .int .i64 e2, .int .i64 e3, .int .i64 e4], 31, none⟩] [⟨g1_0, #[.string A1, .string A2, .string A3, .string A0, .string S1, .string S2, .string S3], 58, none⟩, ⟨g1_1, #[.string N1, .string N2, .string N3, .string N0, .string M], 35, none⟩] [] [] [] [] [] (by kernel_rfl) B.out ⟨K0.out, K1.out, trivial⟩ trivial ⟨pu, ld 0 0, cl H_P1.out, pu, ld 0 4, ml 0, c1 0 H_V1.out, pu, ld 1 0, cl H_P2.out, pu, ld 1 4, ml 1, c1 1 H_N1.out, ml 2, c1 2 H_F1.out, pu, trivial⟩ ?_
 clear K0 K1 B
 rintro σ W2 ⟨⟨L2, K2⟩, ⟨L3, K3⟩, ⟨L4, K4⟩, _⟩ ⟨K0, K1, _⟩ _ _ B
 simp only [slotsOf, finX, nval, nvalN, nvalA, Nat.reduceBEq, cond_true, cond_false, putAll, Act.put, List.setIfInBounds_toArray, List.set_cons_succ, List.set_cons_zero]
 generalize blkOf (σ 13) = g2_5 at *
 generalize blkOf (σ 20) = g2_12 at *
 generalize blkOf (σ 22) = g2_14 at *
 go_upto_region 4 with (fail)
 refine wp_tab [.v 27 (.pointer (some ⟨g1_0, 0, none⟩)), .v 28 (.pointer (some ⟨g1_0, 0, none⟩)), .v 29 (.agg #[.string A1, .string A2, .string A3]), .v 30 (.pointer (some ⟨g1_1, 0, none⟩)), .v 31 (.pointer (some ⟨g1_1, 0, none⟩)), .v 32 (.agg #[.string N1, .string N2, .string N3]), .n 33, .v 34 (.int .i64 e5), .v 35 (.agg #[.string A1, .string A2, .string A3, .string A0, .string S1, .string S2, .string S3]), .v 36 (.int .i64 e6), .n 37, .v 38 (.int .i64 0), .v 7 (.int .i64 0)] [⟨6, 33, fun g => .slice (some ⟨g, 0, none⟩) 2 2, #[.string A1, .string A2, .string A3, .string N1, .string N2, .string N3], 24, none⟩, ⟨10, 37, fun g => .slice (some ⟨g, 0, none⟩) 2 2, #[.int .i64 e5, .int .i64 e6], 31, none⟩] [⟨g1_0, #[.string A1, .string A2, .string A3, .string A0, .string S1, .string S2, .string S3], 58, none⟩, ⟨g1_1, #[.string N1, .string N2, .string N3, .string N0, .string M], 35, none⟩, ⟨g2_5, #[.string S1, .string S2, .string S3], 24, none⟩, ⟨g2_12, #[.string M], 22, none⟩, ⟨g2_14, #[.int .i64 e1, .int .i64 e2, .int .i64 e3, .int .i64 e4], 31, none⟩] [] [] [] [] [] (by kernel_rfl) B.out ⟨K0.out, K1.out, K2.out, K3.out, K4.out, trivial⟩ trivial ⟨pu, pu, ld 0 0, pu, pu, ld 1 0, ml 0, c1 0 H_Z1.out, ld 0 0, cl H_M1.out, ml 1, c1 1 H_F2.out, pu, trivial⟩ ?_
 clear K0 K1 K2 K3 K4 B
 rintro σ W3 ⟨⟨L5, K5⟩, ⟨L6, K6⟩, _⟩ ⟨K0, K1, K2, K3, K4, _⟩ _ _ B
 simp only [slotsOf, finX, nval, nvalN, nvalA, Nat.reduceBEq, cond_true, cond_false, putAll, Act.put, List.setIfInBounds_toArray, List.set_cons_succ, List.set_cons_zero]
 generalize blkOf (σ 33) = g3_6 at *
 generalize blkOf (σ 37) = g3_10 at *
 go_upto_region 7 with (fail)
 refine wp_tab [.v 42 (.pointer (some ⟨g1_1, 0, none⟩)), .v 43 (.pointer (some ⟨g1_1, 0, none⟩)), .v 44 (.agg #[.string N1, .string N2, .string N3]), .v 45 (.pointer (some ⟨g1_0, 4, none⟩)), .v 46 (.agg #[.string S1, .string S2, .string S3]), .v 47 (.string P), .v 48 (.pointer (some ⟨g1_1, 4, none⟩)), .v 49 (.string M), .v 50 (.pointer (some ⟨g1_1, 0, none⟩)), .v 51 (.pointer (some ⟨g1_1, 3, none⟩)), .v 52 (.string N0), .v 53 (.string Q), .v 54 (.bool bq), .v 4 (.bool bq), .v 5 (.int .i64 0)] [] [⟨g1_0, #[.string A1, .string A2, .string A3, .string A0, .string S1, .string S2, .string S3], 58, none⟩, ⟨g1_1, #[.string N1, .string N2, .string N3, .string N0, .string M], 35, none⟩, ⟨g2_5, #[.string S1, .string S2, .string S3], 24, none⟩, ⟨g2_12, #[.string M], 22, none⟩, ⟨g2_14, #[.int .i64 e1, .int .i64 e2, .int .i64 e3, .int .i64 e4], 31, none⟩, ⟨g3_6, #[.string A1, .string A2, .string A3, .string N1, .string N2, .string N3], 24, none⟩, ⟨g3_10, #[.int .i64 e5, .int .i64 e6], 31, none⟩] [] [] [] [] [] (by kernel_rfl) B.out ⟨K0.out, K1.out, K2.out, K3.out, K4.out, K5.out, K6.out, trivial⟩ trivial ⟨pu, pu, ld 1 0, pu, ld 0 4, cl H_D1.out, pu, ld 1 4, pu, pu, ld 1 3, cl H_SU.out, ?_, pu, pu, trivial⟩ ?_
 · intro L a U ho J hn d KK k; refine .free rfl ?_; have r47 := J.read 5 rfl (d.get 5 rfl); have r53 := J.read 11 rfl (d.get 11 rfl); go_simp; exact k.out _ _ (J.st 12 rfl rfl)
 clear K0 K1 K2 K3 K4 K5 K6 B
 rintro σ W4 _ ⟨K0, K1, K2, K3, K4, K5, K6, _⟩ _ _ B
 simp only [slotsOf, finX, nval, nvalN, nvalA, Nat.reduceBEq, cond_true, cond_false, putAll, Act.put, List.setIfInBounds_toArray, List.set_cons_succ, List.set_cons_zero]
 go_wp2
 go_ret2
 exact ⟨rfl, B.out⟩

end Go.Proofs.YtopilnlniidejaaGreatDoor
