/- The walks of package slip: vectors, errors, loops over lists. -/
import Derived.Test.YtnallacamijkeaaGreatDoorShelf
import Derived.Test.YtnallacamijkeaaGreatDoorGPar
import Derived.Test.YtnallacamijkeaaGreatDoorRfH
import Derived.Test.YtnallacamijkeaaGreatDoorVec
import Derived.Test.YtnallacamijkeaaGreatDoorGLinX
import Derived.Deep.RegionHeld3
import Derived.Laws.ResultCell
import Derived.Deep.Cut
import Derived.Deep.CutRange
import Derived.Deep.DeepCutAuto
import Derived.Outline
import Derived.Handy
/- The walks of package slip, over texts: vectors, planes. -/
namespace Go.Proofs.YtnallacamijkeaaGreatDoor
set_option linter.all false
open Go.RowKit

set_option maxRecDepth 100000 in
set_option maxHeartbeats 4000000 in
theorem sdot_of (A1 A2 A3 C1 C2 C3 P1 P2 P3 R : ByteArray) (w : World)
  (h_m1 : Ret Tryz.prog w 64 #[.string A1, .string C1] (.string P1))
  (h_m2 : Ret Tryz.prog w 64 #[.string A2, .string C2] (.string P2))
  (h_m3 : Ret Tryz.prog w 64 #[.string A3, .string C3] (.string P3))
  (h_s1 : ∀ (W : World) (b0 : Nat), Blk W b0 #[.string P1, .string P2, .string P3] 27 → Below w.heap.size w W → Calls Tryz.prog 77 #[.slice (some ⟨b0, 0, none⟩) 3 3] W fun e w' => e = .returned (.string R) ∧ Below W.heap.size W w') :
  Calls Tryz.prog 40 #[.agg #[.string A1, .string A2, .string A3], .agg #[.string C1, .string C2, .string C3]] w fun e w' => e = .returned (.string R) ∧ Below w.heap.size w w' := by
 have H_M1 := Lib.hid h_m1
 have H_M2 := Lib.hid h_m2
 have H_M3 := Lib.hid h_m3
 have H_S1 := Lib.hid h_s1
 clear h_m1 h_m2 h_m3 h_s1
 have B := Lib.hid (Below.refl w.heap.size w)
 go_enter Tryz.func40, Tryz.ntmps40
 go_upto_region 0 with (fail)
 refine wp_tab [.n 2, .n 3, .v 4 (.string ⟨#[]⟩)] [⟨0, 2, fun g => .pointer (some ⟨g, 0, none⟩), #[.string A1, .string A2, .string A3], 29, none⟩, ⟨1, 3, fun g => .pointer (some ⟨g, 0, none⟩), #[.string C1, .string C2, .string C3], 29, none⟩] [] [] [] [] [] [] (by kernel_rfl) B.out trivial trivial ⟨ml 0, ml 1, pu, trivial⟩ ?_
 clear B
 rintro σ W1 ⟨⟨L0, K0⟩, ⟨L1, K1⟩, _⟩ _ _ _ B
 simp only [slotsOf, finX, nval, nvalN, nvalA, Nat.reduceBEq, cond_true, cond_false, putAll, Act.put, List.setIfInBounds_toArray, List.set_cons_succ, List.set_cons_zero]
 generalize blkOf (σ 2) = g1_0 at *
 generalize blkOf (σ 3) = g1_1 at *
 go_upto_region 1 with (fail)
 refine wp_tab [.v 5 (.pointer (some ⟨g1_0, 0, none⟩)), .v 6 (.string A1), .v 7 (.pointer (some ⟨g1_1, 0, none⟩)), .v 8 (.string C1), .v 9 (.string P1), .v 10 (.pointer (some ⟨g1_0, 1, none⟩)), .v 11 (.string A2), .v 12 (.pointer (some ⟨g1_1, 1, none⟩)), .v 13 (.string C2), .v 14 (.string P2), .v 15 (.pointer (some ⟨g1_0, 2, none⟩)), .v 16 (.string A3), .v 17 (.pointer (some ⟨g1_1, 2, none⟩)), .v 18 (.string C3), .v 19 (.string P3), .n 20, .v 21 (.string R), .v 4 (.string R)] [⟨15, 20, fun g => .slice (some ⟨g, 0, none⟩) 3 3, #[.string P1, .string P2, .string P3], 27, none⟩] [⟨g1_0, #[.string A1, .string A2, .string A3], 29, none⟩, ⟨g1_1, #[.string C1, .string C2, .string C3], 29, none⟩] [] [] [] [] [] (by kernel_rfl) B.out ⟨K0.out, K1.out, trivial⟩ trivial ⟨pu, ld 0 0, pu, ld 1 0, cl H_M1.out, pu, ld 0 1, pu, ld 1 1, cl H_M2.out, pu, ld 0 2, pu, ld 1 2, cl H_M3.out, ml 0, c1 0 H_S1.out, pu, trivial⟩ ?_
 clear K0 K1 B
 rintro σ W2 ⟨⟨L2, K2⟩, _⟩ ⟨K0, K1, _⟩ _ _ B
 simp only [slotsOf, finX, nval, nvalN, nvalA, Nat.reduceBEq, cond_true, cond_false, putAll, Act.put, List.setIfInBounds_toArray, List.set_cons_succ, List.set_cons_zero]
 generalize blkOf (σ 20) = g2_15 at *
 go_wp2
 go_ret
 exact ⟨rfl, B.out⟩

set_option maxRecDepth 100000 in
set_option maxHeartbeats 4000000 in
theorem sminor_of (A C D F P Q R : ByteArray) (w : World)
  (h_m1 : Ret Tryz.prog w 64 #[.string A, .string F] (.string P))
  (h_m2 : Ret Tryz.prog w 64 #[.string C, .string D] (.string Q))
  (h_m3 : Ret Tryz.prog w 28 #[.string P, .string Q] (.string R)) :
  Calls Tryz.prog 76 #[.string A, .string C, .string D, .string F] w fun e w' => e = .returned (.string R) ∧ Below w.heap.size w w' := by
 have H_M1 := Lib.hid h_m1
 have H_M2 := Lib.hid h_m2
 have H_M3 := Lib.hid h_m3
 clear h_m1 h_m2 h_m3
 have B := Lib.hid (Below.refl w.heap.size w)
 go_enter Tryz.func76, Tryz.ntmps76
 go_wp2_with (
  (first
  | (go_at_call 64; with_reducible refine (H_M1.out _ (baseI B.out)).mono ?_)
  | (go_at_call 64; with_reducible refine (H_M2.out _ (baseI B.out)).mono ?_)
  | (go_at_call 28; with_reducible refine (H_M3.out _ (baseI B.out)).mono ?_)
  | fail "arm"); rintro e wx ⟨rfl, q⟩; replace B := Lib.hid (goI B.out q); clear q)
 go_ret
 exact ⟨rfl, B.out⟩

set_option maxRecDepth 100000 in
set_option maxHeartbeats 4000000 in
theorem scross_of (A1 A2 A3 C1 C2 C3 P1 P2 P3 : ByteArray) (w : World)
  (h_m1 : Ret Tryz.prog w 76 #[.string A2, .string A3, .string C2, .string C3] (.string P1))
  (h_m2 : Ret Tryz.prog w 76 #[.string A3, .string A1, .string C3, .string C1] (.string P2))
  (h_m3 : Ret Tryz.prog w 76 #[.string A1, .string A2, .string C1, .string C2] (.string P3)) :
  Calls Tryz.prog 39 #[.agg #[.string A1, .string A2, .string A3], .agg #[.string C1, .string C2, .string C3]] w fun e w' => e = .returned (.agg #[.string P1, .string P2, .string P3]) ∧ Below w.heap.size w w' := by
 have H_M1 := Lib.hid h_m1
 have H_M2 := Lib.hid h_m2
 have H_M3 := Lib.hid h_m3
 clear h_m1 h_m2 h_m3
 have B := Lib.hid (Below.refl w.heap.size w)
 go_enter Tryz.func39, Tryz.ntmps39
 go_upto_region 0 with (fail)
 refine wp_tab [.n 2, .n 3, .n 4] [⟨0, 2, fun g => .pointer (some ⟨g, 0, none⟩), #[.string A1, .string A2, .string A3], 29, none⟩, ⟨1, 3, fun g => .pointer (some ⟨g, 0, none⟩), #[.string C1, .string C2, .string C3], 29, none⟩, ⟨2, 4, fun g => .pointer (some ⟨g, 0, none⟩), #[.string ⟨#[]⟩, .string ⟨#[]⟩, .string ⟨#[]⟩], 29, none⟩] [] [] [] [(0, 2), (1, 2)] [] [] (by kernel_rfl) B.out trivial trivial ⟨ml 0, ml 1, ml 2, trivial⟩ ?_
 clear B
 rintro σ W1 ⟨⟨L0, K0⟩, ⟨L1, K1⟩, ⟨L2, K2⟩, _⟩ _ _ ⟨y0, y1, _⟩ B
 have D0_2 : Hid (blkOf (σ 2) ≠ blkOf (σ 4)) := y0
 have D1_2 : Hid (blkOf (σ 3) ≠ blkOf (σ 4)) := y1
 clear y0 y1
 simp only [slotsOf, finX, nval, nvalN, nvalA, Nat.reduceBEq, cond_true, cond_false, putAll, Act.put, List.setIfInBounds_toArray, List.set_cons_succ, List.set_cons_zero]
 generalize blkOf (σ 2) = g1_0 at *
 generalize blkOf (σ 3) = g1_1 at *
 generalize blkOf (σ 4) = g1_2 at *
 go_upto_region 2 with (fail)
 have lt0 := K0.out.lt
 have lt1 := K1.out.lt
 have lt2 := K2.out.lt
 refine wp_tab [.v 6 (.func (.func 76) #[] #[]), .v 7 (.pointer (some ⟨g1_0, 1, none⟩)), .v 8 (.string A2), .v 9 (.pointer (some ⟨g1_0, 2, none⟩)), .v 10 (.string A3), .v 11 (.pointer (some ⟨g1_1, 1, none⟩)), .v 12 (.string C2), .v 13 (.pointer (some ⟨g1_1, 2, none⟩)), .v 14 (.string C3), .v 15 (.string P1), .v 16 (.func (.func 76) #[] #[]), .v 17 (.pointer (some ⟨g1_0, 2, none⟩)), .v 18 (.string A3), .v 19 (.pointer (some ⟨g1_0, 0, none⟩)), .v 20 (.string A1), .v 21 (.pointer (some ⟨g1_1, 2, none⟩)), .v 22 (.string C3), .v 23 (.pointer (some ⟨g1_1, 0, none⟩)), .v 24 (.string C1), .v 25 (.string P2), .v 26 (.func (.func 76) #[] #[]), .v 27 (.pointer (some ⟨g1_0, 0, none⟩)), .v 28 (.string A1), .v 29 (.pointer (some ⟨g1_0, 1, none⟩)), .v 30 (.string A2), .v 31 (.pointer (some ⟨g1_1, 0, none⟩)), .v 32 (.string C1), .v 33 (.pointer (some ⟨g1_1, 1, none⟩)), .v 34 (.string C2), .v 35 (.string P3), .v 36 (.agg #[.string P1, .string P2, .string P3]), .z] [] [⟨g1_0, #[.string A1, .string A2, .string A3], 29, none⟩, ⟨g1_1, #[.string C1, .string C2, .string C3], 29, none⟩, ⟨g1_2, #[.string ⟨#[]⟩, .string ⟨#[]⟩, .string ⟨#[]⟩], 29, some (31, #[.string P1, .string P2, .string P3])⟩] [] [] [] [] [] (by kernel_rfl) B.out ⟨K0.out, K1.out, K2.out, trivial⟩ trivial ⟨pu, pu, ld 0 1, pu, ld 0 2, pu, ld 1 1, pu, ld 1 2, cl H_M1.out, pu, pu, ld 0 2, pu, ld 0 0, pu, ld 1 2, pu, ld 1 0, cl H_M2.out, pu, pu, ld 0 0, pu, ld 0 1, pu, ld 1 0, pu, ld 1 1, cl H_M3.out, pu, ?_, trivial⟩ ?_
 · intro L a U ho J hn d KK k; refine .free rfl ?_; have r4 : a.tmps[(4 : Nat)]?.getD undef = .pointer (some ⟨g1_2, 0, none⟩) := ho.slot 4 rfl; have r36 := J.read 30 rfl (d.get 30 rfl); have kb := (J.eldB 2 rfl hn); have c0 := kb.at_ 0 _ rfl; have z0 := kb.free 0; have c1 := kb.at_ 1 _ rfl; have z1 := kb.free 1; have c2 := kb.at_ 2 _ rfl; have z2 := kb.free 2; clear kb; go_simp; exact k.out undef _ (J.stored 31 2 rfl rfl (.inl rfl) rfl rfl 0 [.string P1, .string P2, .string P3] rfl L2.out lt2 ⟨.inr D0_2.out, .inr D1_2.out, .inl rfl, trivial⟩ hn trivial)
 clear K0 K1 K2 B lt0 lt1 lt2
 rintro σ W2 _ ⟨K0, K1, K2, _⟩ _ _ B
 simp only [slotsOf, finX, nval, nvalN, nvalA, Nat.reduceBEq, cond_true, cond_false, putAll, Act.put, List.setIfInBounds_toArray, List.set_cons_succ, List.set_cons_zero]
 go_wp2
 have c2_0 := K2.out.at_ 0 _ rfl
 have c2_1 := K2.out.at_ 1 _ rfl
 have c2_2 := K2.out.at_ 2 _ rfl
 exact bodyPost_ret (v := .agg #[.string P1, .string P2, .string P3]) (by simp [results, Tryz.results39, go_sem, c2_0, c2_1, c2_2]) rfl ⟨rfl, B.out⟩

set_option maxRecDepth 100000 in
set_option maxHeartbeats 4000000 in
theorem sadd_of (A1 A2 A3 C1 C2 C3 P1 P2 P3 : ByteArray) (w : World)
  (h_m1 : Ret Tryz.prog w 26 #[.string A1, .string C1] (.string P1))
  (h_m2 : Ret Tryz.prog w 26 #[.string A2, .string C2] (.string P2))
  (h_m3 : Ret Tryz.prog w 26 #[.string A3, .string C3] (.string P3)) :
  Calls Tryz.prog 79 #[.agg #[.string A1, .string A2, .string A3], .agg #[.string C1, .string C2, .string C3]] w fun e w' => e = .returned (.agg #[.string P1, .string P2, .string P3]) ∧ Below w.heap.size w w' := by
 have H_M1 := Lib.hid h_m1
 have H_M2 := Lib.hid h_m2
 have H_M3 := Lib.hid h_m3
 clear h_m1 h_m2 h_m3
 have B := Lib.hid (Below.refl w.heap.size w)
 go_enter Tryz.func79, Tryz.ntmps79
 go_upto_region 0 with (fail)
 refine wp_tab [.n 2, .n 3, .n 4] [⟨0, 2, fun g => .pointer (some ⟨g, 0, none⟩), #[.string A1, .string A2, .string A3], 29, none⟩, ⟨1, 3, fun g => .pointer (some ⟨g, 0, none⟩), #[.string C1, .string C2, .string C3], 29, none⟩, ⟨2, 4, fun g => .pointer (some ⟨g, 0, none⟩), #[.string ⟨#[]⟩, .string ⟨#[]⟩, .string ⟨#[]⟩], 29, none⟩] [] [] [] [(0, 2), (1, 2)] [] [] (by kernel_rfl) B.out trivial trivial ⟨ml 0, ml 1, ml 2, trivial⟩ ?_
 clear B
 rintro σ W1 ⟨⟨L0, K0⟩, ⟨L1, K1⟩, ⟨L2, K2⟩, _⟩ _ _ ⟨y0, y1, _⟩ B
 have D0_2 : Hid (blkOf (σ 2) ≠ blkOf (σ 4)) := y0
 have D1_2 : Hid (blkOf (σ 3) ≠ blkOf (σ 4)) := y1
 clear y0 y1
 simp only [slotsOf, finX, nval, nvalN, nvalA, Nat.reduceBEq, cond_true, cond_false, putAll, Act.put, List.setIfInBounds_toArray, List.set_cons_succ, List.set_cons_zero]
 generalize blkOf (σ 2) = g1_0 at *
 generalize blkOf (σ 3) = g1_1 at *
 generalize blkOf (σ 4) = g1_2 at *
 go_upto_region 1 with (fail)
 have lt0 := K0.out.lt
 have lt1 := K1.out.lt
 have lt2 := K2.out.lt
 refine wp_tab [.v 5 (.pointer (some ⟨g1_0, 0, none⟩)), .v 6 (.string A1), .v 7 (.pointer (some ⟨g1_1, 0, none⟩)), .v 8 (.string C1), .v 9 (.string P1), .v 10 (.pointer (some ⟨g1_0, 1, none⟩)), .v 11 (.string A2), .v 12 (.pointer (some ⟨g1_1, 1, none⟩)), .v 13 (.string C2), .v 14 (.string P2), .v 15 (.pointer (some ⟨g1_0, 2, none⟩)), .v 16 (.string A3), .v 17 (.pointer (some ⟨g1_1, 2, none⟩)), .v 18 (.string C3), .v 19 (.string P3), .v 20 (.agg #[.string P1, .string P2, .string P3]), .z] [] [⟨g1_0, #[.string A1, .string A2, .string A3], 29, none⟩, ⟨g1_1, #[.string C1, .string C2, .string C3], 29, none⟩, ⟨g1_2, #[.string ⟨#[]⟩, .string ⟨#[]⟩, .string ⟨#[]⟩], 29, some (16, #[.string P1, .string P2, .string P3])⟩] [] [] [] [] [] (by kernel_rfl) B.out ⟨K0.out, K1.out, K2.out, trivial⟩ trivial ⟨pu, ld 0 0, pu, ld 1 0, cl H_M1.out, pu, ld 0 1, pu, ld 1 1, cl H_M2.out, pu, ld 0 2, pu, ld 1 2, cl H_M3.out, pu, ?_, trivial⟩ ?_
 · intro L a U ho J hn d KK k; refine .free rfl ?_; have r4 : a.tmps[(4 : Nat)]?.getD undef = .pointer (some ⟨g1_2, 0, none⟩) := ho.slot 4 rfl; have r20 := J.read 15 rfl (d.get 15 rfl); have kb := (J.eldB 2 rfl hn); have c0 := kb.at_ 0 _ rfl; have z0 := kb.free 0; have c1 := kb.at_ 1 _ rfl; have z1 := kb.free 1; have c2 := kb.at_ 2 _ rfl; have z2 := kb.free 2; clear kb; go_simp; exact k.out undef _ (J.stored 16 2 rfl rfl (.inl rfl) rfl rfl 0 [.string P1, .string P2, .string P3] rfl L2.out lt2 ⟨.inr D0_2.out, .inr D1_2.out, .inl rfl, trivial⟩ hn trivial)
 clear K0 K1 K2 B lt0 lt1 lt2
 rintro σ W2 _ ⟨K0, K1, K2, _⟩ _ _ B
 simp only [slotsOf, finX, nval, nvalN, nvalA, Nat.reduceBEq, cond_true, cond_false, putAll, Act.put, List.setIfInBounds_toArray, List.set_cons_succ, List.set_cons_zero]
 go_wp2
 have c2_0 := K2.out.at_ 0 _ rfl
 have c2_1 := K2.out.at_ 1 _ rfl
 have c2_2 := K2.out.at_ 2 _ rfl
 exact bodyPost_ret (v := .agg #[.string P1, .string P2, .string P3]) (by simp [results, Tryz.results79, go_sem, c2_0, c2_1, c2_2]) rfl ⟨rfl, B.out⟩

set_option maxRecDepth 100000 in
set_option maxHeartbeats 4000000 in
theorem sscale_of (A1 A2 A3 K P1 P2 P3 : ByteArray) (w : World)
  (h_m1 : Ret Tryz.prog w 64 #[.string A1, .string K] (.string P1))
  (h_m2 : Ret Tryz.prog w 64 #[.string A2, .string K] (.string P2))
  (h_m3 : Ret Tryz.prog w 64 #[.string A3, .string K] (.string P3)) :
  Calls Tryz.prog 78 #[.agg #[.string A1, .string A2, .string A3], .string K] w fun e w' => e = .returned (.agg #[.string P1, .string P2, .string P3]) ∧ Below w.heap.size w w' := by
 have H_M1 := Lib.hid h_m1
 have H_M2 := Lib.hid h_m2
 have H_M3 := Lib.hid h_m3
 clear h_m1 h_m2 h_m3
 have B := Lib.hid (Below.refl w.heap.size w)
 go_enter Tryz.func78, Tryz.ntmps78
 go_upto_region 0 with (fail)
 refine wp_tab [.n 2, .n 4] [⟨0, 2, fun g => .pointer (some ⟨g, 0, none⟩), #[.string A1, .string A2, .string A3], 29, none⟩, ⟨1, 4, fun g => .pointer (some ⟨g, 0, none⟩), #[.string ⟨#[]⟩, .string ⟨#[]⟩, .string ⟨#[]⟩], 29, none⟩] [] [] [] [(0, 1)] [] [] (by kernel_rfl) B.out trivial trivial ⟨ml 0, ml 1, trivial⟩ ?_
 clear B
 rintro σ W1 ⟨⟨L0, K0⟩, ⟨L1, K1⟩, _⟩ _ _ ⟨y0, _⟩ B
 have D0_1 : Hid (blkOf (σ 2) ≠ blkOf (σ 4)) := y0
 clear y0
 simp only [slotsOf, finX, nval, nvalN, nvalA, Nat.reduceBEq, cond_true, cond_false, putAll, Act.put, List.setIfInBounds_toArray, List.set_cons_succ, List.set_cons_zero]
 generalize blkOf (σ 2) = g1_0 at *
 generalize blkOf (σ 4) = g1_1 at *
 go_upto_region 1 with (fail)
 have lt0 := K0.out.lt
 have lt1 := K1.out.lt
 refine wp_tab [.v 5 (.pointer (some ⟨g1_0, 0, none⟩)), .v 6 (.string A1), .v 7 (.string K), .v 8 (.string P1), .v 9 (.pointer (some ⟨g1_0, 1, none⟩)), .v 10 (.string A2), .v 11 (.string K), .v 12 (.string P2), .v 13 (.pointer (some ⟨g1_0, 2, none⟩)), .v 14 (.string A3), .v 15 (.string K), .v 16 (.string P3), .v 17 (.agg #[.string P1, .string P2, .string P3]), .z] [] [⟨g1_0, #[.string A1, .string A2, .string A3], 29, none⟩, ⟨g1_1, #[.string ⟨#[]⟩, .string ⟨#[]⟩, .string ⟨#[]⟩], 29, some (13, #[.string P1, .string P2, .string P3])⟩] [] [] [] [] [] (by kernel_rfl) B.out ⟨K0.out, K1.out, trivial⟩ trivial ⟨pu, ld 0 0, pu, cl H_M1.out, pu, ld 0 1, pu, cl H_M2.out, pu, ld 0 2, pu, cl H_M3.out, pu, ?_, trivial⟩ ?_
 · intro L a U ho J hn d KK k; refine .free rfl ?_; have r4 : a.tmps[(4 : Nat)]?.getD undef = .pointer (some ⟨g1_1, 0, none⟩) := ho.slot 4 rfl; have r17 := J.read 12 rfl (d.get 12 rfl); have kb := (J.eldB 1 rfl hn); have c0 := kb.at_ 0 _ rfl; have z0 := kb.free 0; have c1 := kb.at_ 1 _ rfl; have z1 := kb.free 1; have c2 := kb.at_ 2 _ rfl; have z2 := kb.free 2; clear kb; go_simp; exact k.out undef _ (J.stored 13 1 rfl rfl (.inl rfl) rfl rfl 0 [.string P1, .string P2, .string P3] rfl L1.out lt1 ⟨.inr D0_1.out, .inl rfl, trivial⟩ hn trivial)
 clear K0 K1 B lt0 lt1
 rintro σ W2 _ ⟨K0, K1, _⟩ _ _ B
 simp only [slotsOf, finX, nval, nvalN, nvalA, Nat.reduceBEq, cond_true, cond_false, putAll, Act.put, List.setIfInBounds_toArray, List.set_cons_succ, List.set_cons_zero]
 go_wp2
 have c1_0 := K1.out.at_ 0 _ rfl
 have c1_1 := K1.out.at_ 1 _ rfl
 have c1_2 := K1.out.at_ 2 _ rfl
 exact bodyPost_ret (v := .agg #[.string P1, .string P2, .string P3]) (by simp [results, Tryz.results78, go_sem, c1_0, c1_1, c1_2]) rfl ⟨rfl, B.out⟩

set_option maxRecDepth 100000 in
set_option maxHeartbeats 4000000 in
theorem szero_t (A1 A2 A3 : ByteArray) (w : World)
  (h0 : (A1.toList == [48]) = true)
  (h1 : (A2.toList == [48]) = true)
  (h2 : (A3.toList == [48]) = true) :
  Calls Tryz.prog 41 #[.agg #[.string A1, .string A2, .string A3]] w fun e w' => e = .returned (.bool true) ∧ Below w.heap.size w w' := by
 have B := Lib.hid (Below.refl w.heap.size w)
 go_enter Tryz.func41, Tryz.ntmps41
 go_upto_region 0 with (fail)
 refine wp_tab [.n 1, .v 2 (.bool false)] [⟨0, 1, fun g => .pointer (some ⟨g, 0, none⟩), #[.string A1, .string A2, .string A3], 29, none⟩] [] [] [] [] [] [] (by kernel_rfl) B.out trivial trivial ⟨ml 0, pu, trivial⟩ ?_
 clear B
 rintro σ W1 ⟨⟨L0, K0⟩, _⟩ _ _ _ B
 simp only [slotsOf, finX, nval, nvalN, nvalA, Nat.reduceBEq, cond_true, cond_false, putAll, Act.put, List.setIfInBounds_toArray, List.set_cons_succ, List.set_cons_zero]
 generalize blkOf (σ 1) = g1_0 at *
 have c0_0 := K0.out.at_ 0 _ rfl
 have c0_1 := K0.out.at_ 1 _ rfl
 have c0_2 := K0.out.at_ 2 _ rfl
 go_wp2
 clear c0_0 c0_1 c0_2
 go_ret
 exact ⟨rfl, B.out⟩

set_option maxRecDepth 100000 in
set_option maxHeartbeats 4000000 in
theorem szero_x (A1 A2 A3 : ByteArray) (w : World)
  (h0 : (A1.toList == [48]) = false) :
  Calls Tryz.prog 41 #[.agg #[.string A1, .string A2, .string A3]] w fun e w' => e = .returned (.bool false) ∧ Below w.heap.size w w' := by
 have B := Lib.hid (Below.refl w.heap.size w)
 go_enter Tryz.func41, Tryz.ntmps41
 go_upto_region 0 with (fail)
 refine wp_tab [.n 1, .v 2 (.bool false)] [⟨0, 1, fun g => .pointer (some ⟨g, 0, none⟩), #[.string A1, .string A2, .string A3], 29, none⟩] [] [] [] [] [] [] (by kernel_rfl) B.out trivial trivial ⟨ml 0, pu, trivial⟩ ?_
 clear B
 rintro σ W1 ⟨⟨L0, K0⟩, _⟩ _ _ _ B
 simp only [slotsOf, finX, nval, nvalN, nvalA, Nat.reduceBEq, cond_true, cond_false, putAll, Act.put, List.setIfInBounds_toArray, List.set_cons_succ, List.set_cons_zero]
 generalize blkOf (σ 1) = g1_0 at *
 have c0_0 := K0.out.at_ 0 _ rfl
 go_wp2
 clear c0_0
 go_ret
 exact ⟨rfl, B.out⟩

set_option maxRecDepth 100000 in
set_option maxHeartbeats 4000000 in
theorem szero_y (A1 A2 A3 : ByteArray) (w : World)
  (h0 : (A1.toList == [48]) = true)
  (h1 : (A2.toList == [48]) = false) :
  Calls Tryz.prog 41 #[.agg #[.string A1, .string A2, .string A3]] w fun e w' => e = .returned (.bool false) ∧ Below w.heap.size w w' := by
 have B := Lib.hid (Below.refl w.heap.size w)
 go_enter Tryz.func41, Tryz.ntmps41
 go_upto_region 0 with (fail)
 refine wp_tab [.n 1, .v 2 (.bool false)] [⟨0, 1, fun g => .pointer (some ⟨g, 0, none⟩), #[.string A1, .string A2, .string A3], 29, none⟩] [] [] [] [] [] [] (by kernel_rfl) B.out trivial trivial ⟨ml 0, pu, trivial⟩ ?_
 clear B
 rintro σ W1 ⟨⟨L0, K0⟩, _⟩ _ _ _ B
 simp only [slotsOf, finX, nval, nvalN, nvalA, Nat.reduceBEq, cond_true, cond_false, putAll, Act.put, List.setIfInBounds_toArray, List.set_cons_succ, List.set_cons_zero]
 generalize blkOf (σ 1) = g1_0 at *
 have c0_0 := K0.out.at_ 0 _ rfl
 have c0_1 := K0.out.at_ 1 _ rfl
 go_wp2
 clear c0_0 c0_1
 go_ret
 exact ⟨rfl, B.out⟩

set_option maxRecDepth 100000 in
set_option maxHeartbeats 4000000 in
theorem szero_z (A1 A2 A3 : ByteArray) (w : World)
  (h0 : (A1.toList == [48]) = true)
  (h1 : (A2.toList == [48]) = true)
  (h2 : (A3.toList == [48]) = false) :
  Calls Tryz.prog 41 #[.agg #[.string A1, .string A2, .string A3]] w fun e w' => e = .returned (.bool false) ∧ Below w.heap.size w w' := by
 have B := Lib.hid (Below.refl w.heap.size w)
 go_enter Tryz.func41, Tryz.ntmps41
 go_upto_region 0 with (fail)
 refine wp_tab [.n 1, .v 2 (.bool false)] [⟨0, 1, fun g => .pointer (some ⟨g, 0, none⟩), #[.string A1, .string A2, .string A3], 29, none⟩] [] [] [] [] [] [] (by kernel_rfl) B.out trivial trivial ⟨ml 0, pu, trivial⟩ ?_
 clear B
 rintro σ W1 ⟨⟨L0, K0⟩, _⟩ _ _ _ B
 simp only [slotsOf, finX, nval, nvalN, nvalA, Nat.reduceBEq, cond_true, cond_false, putAll, Act.put, List.setIfInBounds_toArray, List.set_cons_succ, List.set_cons_zero]
 generalize blkOf (σ 1) = g1_0 at *
 have c0_0 := K0.out.at_ 0 _ rfl
 have c0_1 := K0.out.at_ 1 _ rfl
 have c0_2 := K0.out.at_ 2 _ rfl
 go_wp2
 clear c0_0 c0_1 c0_2
 go_ret
 exact ⟨rfl, B.out⟩

set_option maxRecDepth 100000 in
set_option maxHeartbeats 4000000 in
theorem splane_of (A1 A2 A3 A0 : ByteArray) (e1 e2 ef : Int) (w : World)
  (h_v1 : ∀ (W : World) (b0 : Nat), Blk W b0 #[.string A1, .string A2, .string A3] 29 → Below w.heap.size w W → Calls Tryz.prog 20 #[.slice (some ⟨b0, 0, none⟩) 1 1] W fun e w' => e = .returned (.int .i64 e1) ∧ Below W.heap.size W w')
  (h_n1 : ∀ (W : World) (b0 : Nat), Blk W b0 #[.string A0] 27 → Below w.heap.size w W → Calls Tryz.prog 21 #[.slice (some ⟨b0, 0, none⟩) 1 1] W fun e w' => e = .returned (.int .i64 e2) ∧ Below W.heap.size W w')
  (h_f1 : ∀ (W : World) (b0 : Nat), Blk W b0 #[.int .i64 e1, .int .i64 e2] 38 → Below w.heap.size w W → Calls Tryz.prog 19 #[.slice (some ⟨b0, 0, none⟩) 2 2] W fun e w' => e = .returned (.int .i64 ef) ∧ Below W.heap.size W w') :
  Calls Tryz.prog 22 #[.agg #[.string A1, .string A2, .string A3, .string A0]] w fun e w' => e = .returned (.int .i64 ef) ∧ Below w.heap.size w w' := by
 have H_V1 := Lib.hid h_v1
 have H_N1 := Lib.hid h_n1
 have H_F1 := Lib.hid h_f1
 clear h_v1 h_n1 h_f1
 have B := Lib.hid (Below.refl w.heap.size w)
 go_enter Tryz.func22, Tryz.ntmps22
 go_upto_region 0 with (fail)
 refine wp_tab [.n 1, .v 2 (.int .i64 0)] [⟨0, 1, fun g => .pointer (some ⟨g, 0, none⟩), #[.string A1, .string A2, .string A3, .string A0], 35, none⟩] [] [] [] [] [] [] (by kernel_rfl) B.out trivial trivial ⟨ml 0, pu, trivial⟩ ?_
 clear B
 rintro σ W1 ⟨⟨L0, K0⟩, _⟩ _ _ _ B
 simp only [slotsOf, finX, nval, nvalN, nvalA, Nat.reduceBEq, cond_true, cond_false, putAll, Act.put, List.setIfInBounds_toArray, List.set_cons_succ, List.set_cons_zero]
 generalize blkOf (σ 1) = g1_0 at *
 go_upto_region 1 with (fail)
 refine wp_tab [.v 3 (.pointer (some ⟨g1_0, 0, none⟩)), .v 4 (.agg #[.string A1, .string A2, .string A3]), .n 5, .v 6 (.int .i64 e1), .v 7 (.pointer (some ⟨g1_0, 3, none⟩)), .v 8 (.string A0), .n 9, .v 10 (.int .i64 e2), .n 11, .v 12 (.int .i64 ef), .v 2 (.int .i64 ef)] [⟨2, 5, fun g => .slice (some ⟨g, 0, none⟩) 1 1, #[.string A1, .string A2, .string A3], 29, none⟩, ⟨6, 9, fun g => .slice (some ⟨g, 0, none⟩) 1 1, #[.string A0], 27, none⟩, ⟨8, 11, fun g => .slice (some ⟨g, 0, none⟩) 2 2, #[.int .i64 e1, .int .i64 e2], 38, none⟩] [⟨g1_0, #[.string A1, .string A2, .string A3, .string A0], 35, none⟩] [] [] [] [] [] (by kernel_rfl) B.out ⟨K0.out, trivial⟩ trivial ⟨pu, ld 0 0, ml 0, c1 0 H_V1.out, pu, ld 0 3, ml 1, c1 1 H_N1.out, ml 2, c1 2 H_F1.out, pu, trivial⟩ ?_
 clear K0 B
 rintro σ W2 ⟨⟨L1, K1⟩, ⟨L2, K2⟩, ⟨L3, K3⟩, _⟩ ⟨K0, _⟩ _ _ B
 simp only [slotsOf, finX, nval, nvalN, nvalA, Nat.reduceBEq, cond_true, cond_false, putAll, Act.put, List.setIfInBounds_toArray, List.set_cons_succ, List.set_cons_zero]
 generalize blkOf (σ 5) = g2_2 at *
 generalize blkOf (σ 9) = g2_6 at *
 generalize blkOf (σ 11) = g2_8 at *
 go_wp2
 go_ret
 exact ⟨rfl, B.out⟩

end Go.Proofs.YtnallacamijkeaaGreatDoor

/- The walks of package slip, over texts: checks. -/
namespace Go.Proofs.YtnallacamijkeaaGreatDoor
set_option linter.all false
open Go.RowKit

set_option maxRecDepth 100000 in
set_option maxHeartbeats 4000000 in
theorem sform_ok (A1 A2 A3 A0 S1 S2 S3 R : ByteArray) (w : World)
  (h : (R.toList == [48]) = true)
  (h_d1 : Ret Tryz.prog w 40 #[.agg #[.string A1, .string A2, .string A3], .agg #[.string S1, .string S2, .string S3]] (.string R)) :
  Calls Tryz.prog 75 #[.agg #[.string A1, .string A2, .string A3, .string A0, .string S1, .string S2, .string S3]] w fun e w' => e = .returned (.int .i64 0) ∧ Below w.heap.size w w' := by
 have H_D1 := Lib.hid h_d1
 clear h_d1
 have B := Lib.hid (Below.refl w.heap.size w)
 go_enter Tryz.func75, Tryz.ntmps75
 go_upto_region 0 with (fail)
 refine wp_tab [.n 1, .v 2 (.int .i64 0)] [⟨0, 1, fun g => .pointer (some ⟨g, 0, none⟩), #[.string A1, .string A2, .string A3, .string A0, .string S1, .string S2, .string S3], 46, none⟩] [] [] [] [] [] [] (by kernel_rfl) B.out trivial trivial ⟨ml 0, pu, trivial⟩ ?_
 clear B
 rintro σ W1 ⟨⟨L0, K0⟩, _⟩ _ _ _ B
 simp only [slotsOf, finX, nval, nvalN, nvalA, Nat.reduceBEq, cond_true, cond_false, putAll, Act.put, List.setIfInBounds_toArray, List.set_cons_succ, List.set_cons_zero]
 generalize blkOf (σ 1) = g1_0 at *
 have c0_0 := K0.out.at_ 0 _ rfl
 have c0_1 := K0.out.at_ 1 _ rfl
 have c0_2 := K0.out.at_ 2 _ rfl
 have c0_4 := K0.out.at_ 4 _ rfl
 have c0_5 := K0.out.at_ 5 _ rfl
 have c0_6 := K0.out.at_ 6 _ rfl
 go_wp2_with (
  (first
  | (go_at_call 40; with_reducible refine (H_D1.out _ (baseI B.out)).mono ?_)
  | fail "arm"); rintro e wx ⟨rfl, q⟩; replace K0 := Lib.hid (K0.out.nearI q); replace B := Lib.hid (goI B.out q); clear q; replace c0_0 := K0.out.at_ 0 _ rfl; replace c0_1 := K0.out.at_ 1 _ rfl; replace c0_2 := K0.out.at_ 2 _ rfl; replace c0_4 := K0.out.at_ 4 _ rfl; replace c0_5 := K0.out.at_ 5 _ rfl; replace c0_6 := K0.out.at_ 6 _ rfl)
 clear c0_0 c0_1 c0_2 c0_4 c0_5 c0_6
 go_ret
 exact ⟨rfl, B.out⟩

set_option maxRecDepth 100000 in
set_option maxHeartbeats 4000000 in
theorem sform_no (A1 A2 A3 A0 S1 S2 S3 R : ByteArray) (w : World)
  (h : (R.toList == [48]) = false)
  (h_d1 : Ret Tryz.prog w 40 #[.agg #[.string A1, .string A2, .string A3], .agg #[.string S1, .string S2, .string S3]] (.string R)) :
  Calls Tryz.prog 75 #[.agg #[.string A1, .string A2, .string A3, .string A0, .string S1, .string S2, .string S3]] w fun e w' => e = .returned (.int .i64 7) ∧ Below w.heap.size w w' := by
 have H_D1 := Lib.hid h_d1
 clear h_d1
 have B := Lib.hid (Below.refl w.heap.size w)
 go_enter Tryz.func75, Tryz.ntmps75
 go_upto_region 0 with (fail)
 refine wp_tab [.n 1, .v 2 (.int .i64 0)] [⟨0, 1, fun g => .pointer (some ⟨g, 0, none⟩), #[.string A1, .string A2, .string A3, .string A0, .string S1, .string S2, .string S3], 46, none⟩] [] [] [] [] [] [] (by kernel_rfl) B.out trivial trivial ⟨ml 0, pu, trivial⟩ ?_
 clear B
 rintro σ W1 ⟨⟨L0, K0⟩, _⟩ _ _ _ B
 simp only [slotsOf, finX, nval, nvalN, nvalA, Nat.reduceBEq, cond_true, cond_false, putAll, Act.put, List.setIfInBounds_toArray, List.set_cons_succ, List.set_cons_zero]
 generalize blkOf (σ 1) = g1_0 at *
 have c0_0 := K0.out.at_ 0 _ rfl
 have c0_1 := K0.out.at_ 1 _ rfl
 have c0_2 := K0.out.at_ 2 _ rfl
 have c0_4 := K0.out.at_ 4 _ rfl
 have c0_5 := K0.out.at_ 5 _ rfl
 have c0_6 := K0.out.at_ 6 _ rfl
 go_wp2_with (
  (first
  | (go_at_call 40; with_reducible refine (H_D1.out _ (baseI B.out)).mono ?_)
  | fail "arm"); rintro e wx ⟨rfl, q⟩; replace K0 := Lib.hid (K0.out.nearI q); replace B := Lib.hid (goI B.out q); clear q; replace c0_0 := K0.out.at_ 0 _ rfl; replace c0_1 := K0.out.at_ 1 _ rfl; replace c0_2 := K0.out.at_ 2 _ rfl; replace c0_4 := K0.out.at_ 4 _ rfl; replace c0_5 := K0.out.at_ 5 _ rfl; replace c0_6 := K0.out.at_ 6 _ rfl)
 clear c0_0 c0_1 c0_2 c0_4 c0_5 c0_6
 go_ret
 exact ⟨rfl, B.out⟩

set_option maxRecDepth 100000 in
set_option maxHeartbeats 4000000 in
theorem scheck_of (A1 A2 A3 A0 S1 S2 S3 : ByteArray) (e1 e2 e3 e4 ef : Int) (w : World)
  (h_p1 : Ret Tryz.prog w 22 #[.agg #[.string A1, .string A2, .string A3, .string A0]] (.int .i64 e1))
  (h_v1 : ∀ (W : World) (b0 : Nat), Blk W b0 #[.string S1, .string S2, .string S3] 29 → Below w.heap.size w W → Calls Tryz.prog 20 #[.slice (some ⟨b0, 0, none⟩) 1 1] W fun e w' => e = .returned (.int .i64 e2) ∧ Below W.heap.size W w')
  (h_f1 : ∀ (W : World) (b0 : Nat), Blk W b0 #[.int .i64 e1, .int .i64 e2] 38 → Below w.heap.size w W → Calls Tryz.prog 19 #[.slice (some ⟨b0, 0, none⟩) 2 2] W fun e w' => e = .returned (.int .i64 0) ∧ Below W.heap.size W w')
  (h_z1 : ∀ (W : World) (b0 : Nat), Blk W b0 #[.string A1, .string A2, .string A3] 29 → Below w.heap.size w W → Calls Tryz.prog 23 #[.slice (some ⟨b0, 0, none⟩) 1 1] W fun e w' => e = .returned (.int .i64 e3) ∧ Below W.heap.size W w')
  (h_m1 : Ret Tryz.prog w 75 #[.agg #[.string A1, .string A2, .string A3, .string A0, .string S1, .string S2, .string S3]] (.int .i64 e4))
  (h_f2 : ∀ (W : World) (b0 : Nat), Blk W b0 #[.int .i64 e3, .int .i64 e4] 38 → Below w.heap.size w W → Calls Tryz.prog 19 #[.slice (some ⟨b0, 0, none⟩) 2 2] W fun e w' => e = .returned (.int .i64 ef) ∧ Below W.heap.size W w') :
  Calls Tryz.prog 37 #[.agg #[.string A1, .string A2, .string A3, .string A0, .string S1, .string S2, .string S3]] w fun e w' => e = .returned (.int .i64 ef) ∧ Below w.heap.size w w' := by
 have H_P1 := Lib.hid h_p1
 have H_V1 := Lib.hid h_v1
 have H_F1 := Lib.hid h_f1
 have H_Z1 := Lib.hid h_z1
 have H_M1 := Lib.hid h_m1
 have H_F2 := Lib.hid h_f2
 clear h_p1 h_v1 h_f1 h_z1 h_m1 h_f2
 have B := Lib.hid (Below.refl w.heap.size w)
 go_enter Tryz.func37, Tryz.ntmps37
 go_upto_region 0 with (fail)
 refine wp_tab [.n 1, .v 2 (.int .i64 0)] [⟨0, 1, fun g => .pointer (some ⟨g, 0, none⟩), #[.string A1, .string A2, .string A3, .string A0, .string S1, .string S2, .string S3], 46, none⟩] [] [] [] [] [] [] (by kernel_rfl) B.out trivial trivial ⟨ml 0, pu, trivial⟩ ?_
 clear B
 rintro σ W1 ⟨⟨L0, K0⟩, _⟩ _ _ _ B
 simp only [slotsOf, finX, nval, nvalN, nvalA, Nat.reduceBEq, cond_true, cond_false, putAll, Act.put, List.setIfInBounds_toArray, List.set_cons_succ, List.set_cons_zero]
 generalize blkOf (σ 1) = g1_0 at *
 go_upto_region 1 with (fail)
 refine wp_tab [.v 4 (.pointer (some ⟨g1_0, 0, none⟩)), .v 5 (.agg #[.string A1, .string A2, .string A3, .string A0]), .v 6 (.int .i64 e1), .v 7 (.pointer (some ⟨g1_0, 4, none⟩)), .v 8 (.agg #[.string S1, .string S2, .string S3]), .n 9, .v 10 (.int .i64 e2), .n 11, .v 12 (.int .i64 0), .v 3 (.int .i64 0)] [⟨5, 9, fun g => .slice (some ⟨g, 0, none⟩) 1 1, #[.string S1, .string S2, .string S3], 29, none⟩, ⟨7, 11, fun g => .slice (some ⟨g, 0, none⟩) 2 2, #[.int .i64 e1, .int .i64 e2], 38, none⟩] [⟨g1_0, #[.string A1, .string A2, .string A3, .string A0, .string S1, .string S2, .string S3], 46, none⟩] [] [] [] [] [] (by kernel_rfl) B.out ⟨K0.out, trivial⟩ trivial ⟨pu, ld 0 0, cl H_P1.out, pu, ld 0 4, ml 0, c1 0 H_V1.out, ml 1, c1 1 H_F1.out, pu, trivial⟩ ?_
 clear K0 B
 rintro σ W2 ⟨⟨L1, K1⟩, ⟨L2, K2⟩, _⟩ ⟨K0, _⟩ _ _ B
 simp only [slotsOf, finX, nval, nvalN, nvalA, Nat.reduceBEq, cond_true, cond_false, putAll, Act.put, List.setIfInBounds_toArray, List.set_cons_succ, List.set_cons_zero]
 generalize blkOf (σ 9) = g2_5 at *
 generalize blkOf (σ 11) = g2_7 at *
 go_upto_region 4 with (fail)
 refine wp_tab [.v 16 (.pointer (some ⟨g1_0, 0, none⟩)), .v 17 (.pointer (some ⟨g1_0, 0, none⟩)), .v 18 (.agg #[.string A1, .string A2, .string A3]), .n 19, .v 20 (.int .i64 e3), .v 21 (.agg #[.string A1, .string A2, .string A3, .string A0, .string S1, .string S2, .string S3]), .v 22 (.int .i64 e4), .n 23, .v 24 (.int .i64 ef), .v 2 (.int .i64 ef)] [⟨3, 19, fun g => .slice (some ⟨g, 0, none⟩) 1 1, #[.string A1, .string A2, .string A3], 29, none⟩, ⟨7, 23, fun g => .slice (some ⟨g, 0, none⟩) 2 2, #[.int .i64 e3, .int .i64 e4], 38, none⟩] [⟨g1_0, #[.string A1, .string A2, .string A3, .string A0, .string S1, .string S2, .string S3], 46, none⟩, ⟨g2_5, #[.string S1, .string S2, .string S3], 29, none⟩, ⟨g2_7, #[.int .i64 e1, .int .i64 e2], 38, none⟩] [] [] [] [] [] (by kernel_rfl) B.out ⟨K0.out, K1.out, K2.out, trivial⟩ trivial ⟨pu, pu, ld 0 0, ml 0, c1 0 H_Z1.out, ld 0 0, cl H_M1.out, ml 1, c1 1 H_F2.out, pu, trivial⟩ ?_
 clear K0 K1 K2 B
 rintro σ W3 ⟨⟨L3, K3⟩, ⟨L4, K4⟩, _⟩ ⟨K0, K1, K2, _⟩ _ _ B
 simp only [slotsOf, finX, nval, nvalN, nvalA, Nat.reduceBEq, cond_true, cond_false, putAll, Act.put, List.setIfInBounds_toArray, List.set_cons_succ, List.set_cons_zero]
 generalize blkOf (σ 19) = g3_3 at *
 generalize blkOf (σ 23) = g3_7 at *
 go_wp2
 go_ret
 exact ⟨rfl, B.out⟩

set_option maxRecDepth 100000 in
set_option maxHeartbeats 4000000 in
theorem sshortv_ok (A1 A2 A3 : ByteArray) (w : World)
  (h_v1 : ∀ (W : World) (b0 : Nat), Blk W b0 #[.string A1, .string A2, .string A3] 29 → Below w.heap.size w W → Calls Tryz.prog 20 #[.slice (some ⟨b0, 0, none⟩) 1 1] W fun e w' => e = .returned (.int .i64 0) ∧ Below W.heap.size W w') :
  Calls Tryz.prog 43 #[.agg #[.string A1, .string A2, .string A3]] w fun e w' => e = .returned (.tuple #[.agg #[.string A1, .string A2, .string A3], .int .i64 0]) ∧ Below w.heap.size w w' := by
 have H_V1 := Lib.hid h_v1
 clear h_v1
 have B := Lib.hid (Below.refl w.heap.size w)
 go_enter Tryz.func43, Tryz.ntmps43
 go_upto_region 0 with (fail)
 refine wp_tab [.n 1, .n 2, .v 3 (.int .i64 0)] [⟨0, 1, fun g => .pointer (some ⟨g, 0, none⟩), #[.string A1, .string A2, .string A3], 29, none⟩, ⟨1, 2, fun g => .pointer (some ⟨g, 0, none⟩), #[.string ⟨#[]⟩, .string ⟨#[]⟩, .string ⟨#[]⟩], 29, none⟩] [] [] [] [(0, 1)] [] [] (by kernel_rfl) B.out trivial trivial ⟨ml 0, ml 1, pu, trivial⟩ ?_
 clear B
 rintro σ W1 ⟨⟨L0, K0⟩, ⟨L1, K1⟩, _⟩ _ _ ⟨y0, _⟩ B
 have D0_1 : Hid (blkOf (σ 1) ≠ blkOf (σ 2)) := y0
 clear y0
 simp only [slotsOf, finX, nval, nvalN, nvalA, Nat.reduceBEq, cond_true, cond_false, putAll, Act.put, List.setIfInBounds_toArray, List.set_cons_succ, List.set_cons_zero]
 generalize blkOf (σ 1) = g1_0 at *
 generalize blkOf (σ 2) = g1_1 at *
 go_upto_region 1 with (fail)
 refine wp_tab [.v 4 (.agg #[.string A1, .string A2, .string A3]), .n 5, .v 6 (.int .i64 0), .v 7 (.bool false)] [⟨1, 5, fun g => .slice (some ⟨g, 0, none⟩) 1 1, #[.string A1, .string A2, .string A3], 29, none⟩] [⟨g1_0, #[.string A1, .string A2, .string A3], 29, none⟩, ⟨g1_1, #[.string ⟨#[]⟩, .string ⟨#[]⟩, .string ⟨#[]⟩], 29, none⟩] [] [] [] [(1, 0)] [] (by kernel_rfl) B.out ⟨K0.out, K1.out, trivial⟩ trivial ⟨ld 0 0, ml 0, c1 0 H_V1.out, pu, trivial⟩ ?_
 clear K0 K1 B
 rintro σ W2 ⟨⟨L2, K2⟩, _⟩ ⟨K0, K1, _⟩ ⟨x0, _⟩ _ B
 have D1_2 : Hid (g1_1 ≠ blkOf (σ 5)) := x0
 clear x0
 simp only [slotsOf, finX, nval, nvalN, nvalA, Nat.reduceBEq, cond_true, cond_false, putAll, Act.put, List.setIfInBounds_toArray, List.set_cons_succ, List.set_cons_zero]
 generalize blkOf (σ 5) = g2_1 at *
 go_upto_region 3 with (fail)
 have lt0 := K0.out.lt
 have lt1 := K1.out.lt
 have lt2 := K2.out.lt
 refine wp_tab [.v 9 (.agg #[.string A1, .string A2, .string A3]), .z, .v 3 (.int .i64 0)] [] [⟨g1_0, #[.string A1, .string A2, .string A3], 29, none⟩, ⟨g1_1, #[.string ⟨#[]⟩, .string ⟨#[]⟩, .string ⟨#[]⟩], 29, some (1, #[.string A1, .string A2, .string A3])⟩, ⟨g2_1, #[.string A1, .string A2, .string A3], 29, none⟩] [] [] [] [] [] (by kernel_rfl) B.out ⟨K0.out, K1.out, K2.out, trivial⟩ trivial ⟨ld 0 0, ?_, pu, trivial⟩ ?_
 · intro L a U ho J hn d KK k; refine .free rfl ?_; have r2 : a.tmps[(2 : Nat)]?.getD undef = .pointer (some ⟨g1_1, 0, none⟩) := ho.slot 2 rfl; have r9 := J.read 0 rfl (d.get 0 rfl); have kb := (J.eldB 1 rfl hn); have c0 := kb.at_ 0 _ rfl; have z0 := kb.free 0; have c1 := kb.at_ 1 _ rfl; have z1 := kb.free 1; have c2 := kb.at_ 2 _ rfl; have z2 := kb.free 2; clear kb; go_simp; exact k.out undef _ (J.stored 1 1 rfl rfl (.inl rfl) rfl rfl 0 [.string A1, .string A2, .string A3] rfl L1.out lt1 ⟨.inr D0_1.out, .inl rfl, .inr (Ne.symm D1_2.out), trivial⟩ hn trivial)
 clear K0 K1 K2 B lt0 lt1 lt2
 rintro σ W3 _ ⟨K0, K1, K2, _⟩ _ _ B
 simp only [slotsOf, finX, nval, nvalN, nvalA, Nat.reduceBEq, cond_true, cond_false, putAll, Act.put, List.setIfInBounds_toArray, List.set_cons_succ, List.set_cons_zero]
 go_wp2
 have c1_0 := K1.out.at_ 0 _ rfl
 have c1_1 := K1.out.at_ 1 _ rfl
 have c1_2 := K1.out.at_ 2 _ rfl
 exact bodyPost_ret (v := .tuple #[.agg #[.string A1, .string A2, .string A3], .int .i64 0]) (by simp [results, Tryz.results43, go_sem, c1_0, c1_1, c1_2]) rfl ⟨rfl, B.out⟩

end Go.Proofs.YtnallacamijkeaaGreatDoor

/- The walks of package slip, over texts: meet. -/
namespace Go.Proofs.YtnallacamijkeaaGreatDoor
set_option linter.all false
open Go.RowKit

set_option maxRecDepth 100000 in
set_option maxHeartbeats 4000000 in
theorem smeet_no (A1 A2 A3 C1 C2 C3 D1 D2 D3 X1 X2 X3 P1 P2 P3 Q1 Q2 Q3 R1 R2 R3 T : ByteArray) (w : World)
  (h_r1 : Ret Tryz.prog w 39 #[.agg #[.string C1, .string C2, .string C3], .agg #[.string D1, .string D2, .string D3]] (.agg #[.string P1, .string P2, .string P3]))
  (h_r2 : Ret Tryz.prog w 39 #[.agg #[.string D1, .string D2, .string D3], .agg #[.string A1, .string A2, .string A3]] (.agg #[.string Q1, .string Q2, .string Q3]))
  (h_r3 : Ret Tryz.prog w 39 #[.agg #[.string A1, .string A2, .string A3], .agg #[.string C1, .string C2, .string C3]] (.agg #[.string R1, .string R2, .string R3]))
  (h_d1 : Ret Tryz.prog w 40 #[.agg #[.string A1, .string A2, .string A3], .agg #[.string P1, .string P2, .string P3]] (.string T))
  (h_di : Ret Tryz.prog w 27 #[.string ⟨#[49]⟩, .string T] (.tuple #[.string ⟨#[]⟩, .int .i64 17])) :
  Calls Tryz.prog 42 #[.agg #[.string A1, .string A2, .string A3, .string C1, .string C2, .string C3, .string D1, .string D2, .string D3], .agg #[.string X1, .string X2, .string X3]] w fun e w' => e = .returned (.tuple #[.agg #[.string ⟨#[]⟩, .string ⟨#[]⟩, .string ⟨#[]⟩], .bool false]) ∧ Below w.heap.size w w' := by
 have H_R1 := Lib.hid h_r1
 have H_R2 := Lib.hid h_r2
 have H_R3 := Lib.hid h_r3
 have H_D1 := Lib.hid h_d1
 have H_DI := Lib.hid h_di
 clear h_r1 h_r2 h_r3 h_d1 h_di
 have B := Lib.hid (Below.refl w.heap.size w)
 go_enter Tryz.func42, Tryz.ntmps42
 go_upto_region 0 with (fail)
 refine wp_tab [.n 2, .n 3, .n 4, .v 5 (.bool false)] [⟨0, 2, fun g => .pointer (some ⟨g, 0, none⟩), #[.string A1, .string A2, .string A3, .string C1, .string C2, .string C3, .string D1, .string D2, .string D3], 80, none⟩, ⟨1, 3, fun g => .pointer (some ⟨g, 0, none⟩), #[.string X1, .string X2, .string X3], 77, none⟩, ⟨2, 4, fun g => .pointer (some ⟨g, 0, none⟩), #[.string ⟨#[]⟩, .string ⟨#[]⟩, .string ⟨#[]⟩], 29, none⟩] [] [] [] [(0, 2), (1, 2)] [] [] (by kernel_rfl) B.out trivial trivial ⟨ml 0, ml 1, ml 2, pu, trivial⟩ ?_
 clear B
 rintro σ W1 ⟨⟨L0, K0⟩, ⟨L1, K1⟩, ⟨L2, K2⟩, _⟩ _ _ ⟨y0, y1, _⟩ B
 have D0_2 : Hid (blkOf (σ 2) ≠ blkOf (σ 4)) := y0
 have D1_2 : Hid (blkOf (σ 3) ≠ blkOf (σ 4)) := y1
 clear y0 y1
 simp only [slotsOf, finX, nval, nvalN, nvalA, Nat.reduceBEq, cond_true, cond_false, putAll, Act.put, List.setIfInBounds_toArray, List.set_cons_succ, List.set_cons_zero]
 generalize blkOf (σ 2) = g1_0 at *
 generalize blkOf (σ 3) = g1_1 at *
 generalize blkOf (σ 4) = g1_2 at *
 go_upto_region 1 with (fail)
 have lt0 := K0.out.lt
 have lt1 := K1.out.lt
 have lt2 := K2.out.lt
 refine wp_tab [.v 11 (.pointer (some ⟨g1_0, 3, none⟩)), .v 12 (.agg #[.string C1, .string C2, .string C3]), .v 13 (.pointer (some ⟨g1_0, 6, none⟩)), .v 14 (.agg #[.string D1, .string D2, .string D3]), .v 15 (.agg #[.string P1, .string P2, .string P3]), .v 16 (.pointer (some ⟨g1_0, 6, none⟩)), .v 17 (.agg #[.string D1, .string D2, .string D3]), .v 18 (.pointer (some ⟨g1_0, 0, none⟩)), .v 19 (.agg #[.string A1, .string A2, .string A3]), .v 20 (.agg #[.string Q1, .string Q2, .string Q3]), .v 21 (.pointer (some ⟨g1_0, 0, none⟩)), .v 22 (.agg #[.string A1, .string A2, .string A3]), .v 23 (.pointer (some ⟨g1_0, 3, none⟩)), .v 24 (.agg #[.string C1, .string C2, .string C3]), .v 25 (.agg #[.string R1, .string R2, .string R3]), .n 6, .n 7, .n 8, .z, .z, .z] [⟨15, 6, fun g => .pointer (some ⟨g, 0, none⟩), #[.string ⟨#[]⟩, .string ⟨#[]⟩, .string ⟨#[]⟩], 29, some (18, #[.string P1, .string P2, .string P3])⟩, ⟨16, 7, fun g => .pointer (some ⟨g, 0, none⟩), #[.string ⟨#[]⟩, .string ⟨#[]⟩, .string ⟨#[]⟩], 29, some (19, #[.string Q1, .string Q2, .string Q3])⟩, ⟨17, 8, fun g => .pointer (some ⟨g, 0, none⟩), #[.string ⟨#[]⟩, .string ⟨#[]⟩, .string ⟨#[]⟩], 29, some (20, #[.string R1, .string R2, .string R3])⟩] [⟨g1_0, #[.string A1, .string A2, .string A3, .string C1, .string C2, .string C3, .string D1, .string D2, .string D3], 80, none⟩, ⟨g1_1, #[.string X1, .string X2, .string X3], 77, none⟩, ⟨g1_2, #[.string ⟨#[]⟩, .string ⟨#[]⟩, .string ⟨#[]⟩], 29, none⟩] [] [(18, 15), (19, 16), (20, 17)] [(0, 1), (0, 2), (1, 2)] [(2, 0), (2, 1), (2, 2)] [] (by kernel_rfl) B.out ⟨K0.out, K1.out, K2.out, trivial⟩ trivial ⟨pu, ld 0 3, pu, ld 0 6, cl H_R1.out, pu, ld 0 6, pu, ld 0 0, cl H_R2.out, pu, ld 0 0, pu, ld 0 3, cl H_R3.out, ml 0, ml 1, ml 2, ?_, ?_, ?_, trivial⟩ ?_
 · intro L a U ho J hn d KK k; refine .free rfl ?_; have r6 : a.tmps[(6 : Nat)]?.getD undef = .pointer (some ⟨(blkOf (slotOf a 6)), 0, none⟩) := J.readN 0 rfl (d.get 15 rfl); have r15 := J.read 4 rfl (d.get 4 rfl); have kb := (J.nwB 0 rfl (d.get 15 rfl) hn).blk; have c0 := kb.at_ 0 _ rfl; have z0 := kb.free 0; have c1 := kb.at_ 1 _ rfl; have z1 := kb.free 1; have c2 := kb.at_ 2 _ rfl; have z2 := kb.free 2; clear kb; go_simp; exact k.out undef _ (J.storedN 18 0 rfl rfl rfl rfl rfl 0 [.string P1, .string P2, .string P3] rfl ⟨lt0, lt1, lt2, trivial⟩ (d.get 15 rfl) hn ⟨.inr (d.get 15 rfl), .inl (by decide), .inl (by decide), trivial⟩)
 · intro L a U ho J hn d KK k; refine .free rfl ?_; have r7 : a.tmps[(7 : Nat)]?.getD undef = .pointer (some ⟨(blkOf (slotOf a 7)), 0, none⟩) := J.readN 1 rfl (d.get 16 rfl); have r20 := J.read 9 rfl (d.get 9 rfl); have kb := (J.nwB 1 rfl (d.get 16 rfl) hn).blk; have c0 := kb.at_ 0 _ rfl; have z0 := kb.free 0; have c1 := kb.at_ 1 _ rfl; have z1 := kb.free 1; have c2 := kb.at_ 2 _ rfl; have z2 := kb.free 2; clear kb; go_simp; exact k.out undef _ (J.storedN 19 1 rfl rfl rfl rfl rfl 0 [.string Q1, .string Q2, .string Q3] rfl ⟨lt0, lt1, lt2, trivial⟩ (d.get 16 rfl) hn ⟨.inl (by decide), .inr (d.get 16 rfl), .inl (by decide), trivial⟩)
 · intro L a U ho J hn d KK k; refine .free rfl ?_; have r8 : a.tmps[(8 : Nat)]?.getD undef = .pointer (some ⟨(blkOf (slotOf a 8)), 0, none⟩) := J.readN 2 rfl (d.get 17 rfl); have r25 := J.read 14 rfl (d.get 14 rfl); have kb := (J.nwB 2 rfl (d.get 17 rfl) hn).blk; have c0 := kb.at_ 0 _ rfl; have z0 := kb.free 0; have c1 := kb.at_ 1 _ rfl; have z1 := kb.free 1; have c2 := kb.at_ 2 _ rfl; have z2 := kb.free 2; clear kb; go_simp; exact k.out undef _ (J.storedN 20 2 rfl rfl rfl rfl rfl 0 [.string R1, .string R2, .string R3] rfl ⟨lt0, lt1, lt2, trivial⟩ (d.get 17 rfl) hn ⟨.inl (by decide), .inl (by decide), .inr (d.get 17 rfl), trivial⟩)
 clear K0 K1 K2 B lt0 lt1 lt2
 rintro σ W2 ⟨⟨L3, K3⟩, ⟨L4, K4⟩, ⟨L5, K5⟩, _⟩ ⟨K0, K1, K2, _⟩ ⟨x0, x1, x2, _⟩ ⟨y0, y1, y2, _⟩ B
 have D2_3 : Hid (g1_2 ≠ blkOf (σ 6)) := x0
 have D2_4 : Hid (g1_2 ≠ blkOf (σ 7)) := x1
 have D2_5 : Hid (g1_2 ≠ blkOf (σ 8)) := x2
 have D3_4 : Hid (blkOf (σ 6) ≠ blkOf (σ 7)) := y0
 have D3_5 : Hid (blkOf (σ 6) ≠ blkOf (σ 8)) := y1
 have D4_5 : Hid (blkOf (σ 7) ≠ blkOf (σ 8)) := y2
 clear x0 x1 x2 y0 y1 y2
 simp only [slotsOf, finX, nval, nvalN, nvalA, Nat.reduceBEq, cond_true, cond_false, putAll, Act.put, List.setIfInBounds_toArray, List.set_cons_succ, List.set_cons_zero]
 generalize blkOf (σ 6) = g2_15 at *
 generalize blkOf (σ 7) = g2_16 at *
 generalize blkOf (σ 8) = g2_17 at *
 have c0_0 := K0.out.at_ 0 _ rfl
 have c0_1 := K0.out.at_ 1 _ rfl
 have c0_2 := K0.out.at_ 2 _ rfl
 have c3_0 := K3.out.at_ 0 _ rfl
 have c3_1 := K3.out.at_ 1 _ rfl
 have c3_2 := K3.out.at_ 2 _ rfl
 go_upto_region 4 with (
  (first
  | (go_at_call 40; with_reducible refine (H_D1.out _ (baseI B.out)).mono ?_)
  | (go_at_call 27; with_reducible refine (H_DI.out _ (baseI B.out)).mono ?_)
  | fail "arm"); rintro e wx ⟨rfl, q⟩; replace K0 := Lib.hid (K0.out.nearI q); replace K1 := Lib.hid (K1.out.nearI q); replace K2 := Lib.hid (K2.out.nearI q); replace K3 := Lib.hid (K3.out.nearI q); replace K4 := Lib.hid (K4.out.nearI q); replace K5 := Lib.hid (K5.out.nearI q); replace B := Lib.hid (goI B.out q); clear q; replace c0_0 := K0.out.at_ 0 _ rfl; replace c0_1 := K0.out.at_ 1 _ rfl; replace c0_2 := K0.out.at_ 2 _ rfl; replace c3_0 := K3.out.at_ 0 _ rfl; replace c3_1 := K3.out.at_ 1 _ rfl; replace c3_2 := K3.out.at_ 2 _ rfl)
 clear c0_0 c0_1 c0_2 c3_0 c3_1 c3_2
 have lt0 := K0.out.lt
 have lt1 := K1.out.lt
 have lt2 := K2.out.lt
 have lt3 := K3.out.lt
 have lt4 := K4.out.lt
 have lt5 := K5.out.lt
 refine wp_tab [.v 36 (.agg #[.string ⟨#[]⟩, .string ⟨#[]⟩, .string ⟨#[]⟩]), .z, .v 5 (.bool false)] [] [⟨g1_0, #[.string A1, .string A2, .string A3, .string C1, .string C2, .string C3, .string D1, .string D2, .string D3], 80, none⟩, ⟨g1_1, #[.string X1, .string X2, .string X3], 77, none⟩, ⟨g1_2, #[.string ⟨#[]⟩, .string ⟨#[]⟩, .string ⟨#[]⟩], 29, none⟩, ⟨g2_15, #[.string P1, .string P2, .string P3], 29, none⟩, ⟨g2_16, #[.string Q1, .string Q2, .string Q3], 29, none⟩, ⟨g2_17, #[.string R1, .string R2, .string R3], 29, none⟩] [] [] [] [] [] (by kernel_rfl) B.out ⟨K0.out, K1.out, K2.out, K3.out, K4.out, K5.out, trivial⟩ trivial ⟨pu, ?_, pu, trivial⟩ ?_
 · intro L a U ho J hn d KK k; refine .free rfl ?_; have r4 : a.tmps[(4 : Nat)]?.getD undef = .pointer (some ⟨g1_2, 0, none⟩) := ho.slot 4 rfl; have r36 := J.read 0 rfl (d.get 0 rfl); have kb := (J.eld 2 rfl); have c0 := kb.at_ 0 _ rfl; have z0 := kb.free 0; have c1 := kb.at_ 1 _ rfl; have z1 := kb.free 1; have c2 := kb.at_ 2 _ rfl; have z2 := kb.free 2; clear kb; go_simp; exact k.out undef _ (J.stored 1 2 rfl rfl (.inr ⟨rfl, rfl⟩) rfl rfl 0 [.string ⟨#[]⟩, .string ⟨#[]⟩, .string ⟨#[]⟩] rfl L2.out lt2 ⟨.inr D0_2.out, .inr D1_2.out, .inl rfl, .inr (Ne.symm D2_3.out), .inr (Ne.symm D2_4.out), .inr (Ne.symm D2_5.out), trivial⟩ hn trivial)
 clear K0 K1 K2 K3 K4 K5 B lt0 lt1 lt2 lt3 lt4 lt5
 rintro σ W3 _ ⟨K0, K1, K2, K3, K4, K5, _⟩ _ _ B
 simp only [slotsOf, finX, nval, nvalN, nvalA, Nat.reduceBEq, cond_true, cond_false, putAll, Act.put, List.setIfInBounds_toArray, List.set_cons_succ, List.set_cons_zero]
 go_wp2
 have c2_0 := K2.out.at_ 0 _ rfl
 have c2_1 := K2.out.at_ 1 _ rfl
 have c2_2 := K2.out.at_ 2 _ rfl
 exact bodyPost_ret (v := .tuple #[.agg #[.string ⟨#[]⟩, .string ⟨#[]⟩, .string ⟨#[]⟩], .bool false]) (by simp [results, Tryz.results42, go_sem, c2_0, c2_1, c2_2]) rfl ⟨rfl, B.out⟩

set_option maxRecDepth 100000 in
set_option maxHeartbeats 4000000 in
theorem smeet_ok (A1 A2 A3 C1 C2 C3 D1 D2 D3 X1 X2 X3 P1 P2 P3 Q1 Q2 Q3 R1 R2 R3 T T2 F1 F2 F3 G1 G2 G3 H1 H2 H3 I1 I2 I3 J1 J2 J3 O1 O2 O3 : ByteArray) (w : World)
  (h_r1 : Ret Tryz.prog w 39 #[.agg #[.string C1, .string C2, .string C3], .agg #[.string D1, .string D2, .string D3]] (.agg #[.string P1, .string P2, .string P3]))
  (h_r2 : Ret Tryz.prog w 39 #[.agg #[.string D1, .string D2, .string D3], .agg #[.string A1, .string A2, .string A3]] (.agg #[.string Q1, .string Q2, .string Q3]))
  (h_r3 : Ret Tryz.prog w 39 #[.agg #[.string A1, .string A2, .string A3], .agg #[.string C1, .string C2, .string C3]] (.agg #[.string R1, .string R2, .string R3]))
  (h_d1 : Ret Tryz.prog w 40 #[.agg #[.string A1, .string A2, .string A3], .agg #[.string P1, .string P2, .string P3]] (.string T))
  (h_di : Ret Tryz.prog w 27 #[.string ⟨#[49]⟩, .string T] (.tuple #[.string T2, .int .i64 0]))
  (h_s1 : Ret Tryz.prog w 78 #[.agg #[.string P1, .string P2, .string P3], .string X1] (.agg #[.string F1, .string F2, .string F3]))
  (h_s2 : Ret Tryz.prog w 78 #[.agg #[.string Q1, .string Q2, .string Q3], .string X2] (.agg #[.string G1, .string G2, .string G3]))
  (h_s3 : Ret Tryz.prog w 79 #[.agg #[.string F1, .string F2, .string F3], .agg #[.string G1, .string G2, .string G3]] (.agg #[.string H1, .string H2, .string H3]))
  (h_s4 : Ret Tryz.prog w 78 #[.agg #[.string R1, .string R2, .string R3], .string X3] (.agg #[.string I1, .string I2, .string I3]))
  (h_s5 : Ret Tryz.prog w 79 #[.agg #[.string H1, .string H2, .string H3], .agg #[.string I1, .string I2, .string I3]] (.agg #[.string J1, .string J2, .string J3]))
  (h_s6 : Ret Tryz.prog w 78 #[.agg #[.string J1, .string J2, .string J3], .string T2] (.agg #[.string O1, .string O2, .string O3])) :
  Calls Tryz.prog 42 #[.agg #[.string A1, .string A2, .string A3, .string C1, .string C2, .string C3, .string D1, .string D2, .string D3], .agg #[.string X1, .string X2, .string X3]] w fun e w' => e = .returned (.tuple #[.agg #[.string O1, .string O2, .string O3], .bool true]) ∧ Below w.heap.size w w' := by
 have H_R1 := Lib.hid h_r1
 have H_R2 := Lib.hid h_r2
 have H_R3 := Lib.hid h_r3
 have H_D1 := Lib.hid h_d1
 have H_DI := Lib.hid h_di
 have H_S1 := Lib.hid h_s1
 have H_S2 := Lib.hid h_s2
 have H_S3 := Lib.hid h_s3
 have H_S4 := Lib.hid h_s4
 have H_S5 := Lib.hid h_s5
 have H_S6 := Lib.hid h_s6
 clear h_r1 h_r2 h_r3 h_d1 h_di h_s1 h_s2 h_s3 h_s4 h_s5 h_s6
 have B := Lib.hid (Below.refl w.heap.size w)
 go_enter Tryz.func42, Tryz.ntmps42
 go_upto_region 0 with (fail)
 refine wp_tab [.n 2, .n 3, .n 4, .v 5 (.bool false)] [⟨0, 2, fun g => .pointer (some ⟨g, 0, none⟩), #[.string A1, .string A2, .string A3, .string C1, .string C2, .string C3, .string D1, .string D2, .string D3], 80, none⟩, ⟨1, 3, fun g => .pointer (some ⟨g, 0, none⟩), #[.string X1, .string X2, .string X3], 77, none⟩, ⟨2, 4, fun g => .pointer (some ⟨g, 0, none⟩), #[.string ⟨#[]⟩, .string ⟨#[]⟩, .string ⟨#[]⟩], 29, none⟩] [] [] [] [(0, 2), (1, 2)] [] [] (by kernel_rfl) B.out trivial trivial ⟨ml 0, ml 1, ml 2, pu, trivial⟩ ?_
 clear B
 rintro σ W1 ⟨⟨L0, K0⟩, ⟨L1, K1⟩, ⟨L2, K2⟩, _⟩ _ _ ⟨y0, y1, _⟩ B
 have D0_2 : Hid (blkOf (σ 2) ≠ blkOf (σ 4)) := y0
 have D1_2 : Hid (blkOf (σ 3) ≠ blkOf (σ 4)) := y1
 clear y0 y1
 simp only [slotsOf, finX, nval, nvalN, nvalA, Nat.reduceBEq, cond_true, cond_false, putAll, Act.put, List.setIfInBounds_toArray, List.set_cons_succ, List.set_cons_zero]
 generalize blkOf (σ 2) = g1_0 at *
 generalize blkOf (σ 3) = g1_1 at *
 generalize blkOf (σ 4) = g1_2 at *
 go_upto_region 1 with (fail)
 have lt0 := K0.out.lt
 have lt1 := K1.out.lt
 have lt2 := K2.out.lt
 refine wp_tab [.v 11 (.pointer (some ⟨g1_0, 3, none⟩)), .v 12 (.agg #[.string C1, .string C2, .string C3]), .v 13 (.pointer (some ⟨g1_0, 6, none⟩)), .v 14 (.agg #[.string D1, .string D2, .string D3]), .v 15 (.agg #[.string P1, .string P2, .string P3]), .v 16 (.pointer (some ⟨g1_0, 6, none⟩)), .v 17 (.agg #[.string D1, .string D2, .string D3]), .v 18 (.pointer (some ⟨g1_0, 0, none⟩)), .v 19 (.agg #[.string A1, .string A2, .string A3]), .v 20 (.agg #[.string Q1, .string Q2, .string Q3]), .v 21 (.pointer (some ⟨g1_0, 0, none⟩)), .v 22 (.agg #[.string A1, .string A2, .string A3]), .v 23 (.pointer (some ⟨g1_0, 3, none⟩)), .v 24 (.agg #[.string C1, .string C2, .string C3]), .v 25 (.agg #[.string R1, .string R2, .string R3]), .n 6, .n 7, .n 8, .z, .z, .z] [⟨15, 6, fun g => .pointer (some ⟨g, 0, none⟩), #[.string ⟨#[]⟩, .string ⟨#[]⟩, .string ⟨#[]⟩], 29, some (18, #[.string P1, .string P2, .string P3])⟩, ⟨16, 7, fun g => .pointer (some ⟨g, 0, none⟩), #[.string ⟨#[]⟩, .string ⟨#[]⟩, .string ⟨#[]⟩], 29, some (19, #[.string Q1, .string Q2, .string Q3])⟩, ⟨17, 8, fun g => .pointer (some ⟨g, 0, none⟩), #[.string ⟨#[]⟩, .string ⟨#[]⟩, .string ⟨#[]⟩], 29, some (20, #[.string R1, .string R2, .string R3])⟩] [⟨g1_0, #[.string A1, .string A2, .string A3, .string C1, .string C2, .string C3, .string D1, .string D2, .string D3], 80, none⟩, ⟨g1_1, #[.string X1, .string X2, .string X3], 77, none⟩, ⟨g1_2, #[.string ⟨#[]⟩, .string ⟨#[]⟩, .string ⟨#[]⟩], 29, none⟩] [] [(18, 15), (19, 16), (20, 17)] [(0, 1), (0, 2), (1, 2)] [(2, 0), (2, 1), (2, 2)] [] (by kernel_rfl) B.out ⟨K0.out, K1.out, K2.out, trivial⟩ trivial ⟨pu, ld 0 3, pu, ld 0 6, cl H_R1.out, pu, ld 0 6, pu, ld 0 0, cl H_R2.out, pu, ld 0 0, pu, ld 0 3, cl H_R3.out, ml 0, ml 1, ml 2, ?_, ?_, ?_, trivial⟩ ?_
 · intro L a U ho J hn d KK k; refine .free rfl ?_; have r6 : a.tmps[(6 : Nat)]?.getD undef = .pointer (some ⟨(blkOf (slotOf a 6)), 0, none⟩) := J.readN 0 rfl (d.get 15 rfl); have r15 := J.read 4 rfl (d.get 4 rfl); have kb := (J.nwB 0 rfl (d.get 15 rfl) hn).blk; have c0 := kb.at_ 0 _ rfl; have z0 := kb.free 0; have c1 := kb.at_ 1 _ rfl; have z1 := kb.free 1; have c2 := kb.at_ 2 _ rfl; have z2 := kb.free 2; clear kb; go_simp; exact k.out undef _ (J.storedN 18 0 rfl rfl rfl rfl rfl 0 [.string P1, .string P2, .string P3] rfl ⟨lt0, lt1, lt2, trivial⟩ (d.get 15 rfl) hn ⟨.inr (d.get 15 rfl), .inl (by decide), .inl (by decide), trivial⟩)
 · intro L a U ho J hn d KK k; refine .free rfl ?_; have r7 : a.tmps[(7 : Nat)]?.getD undef = .pointer (some ⟨(blkOf (slotOf a 7)), 0, none⟩) := J.readN 1 rfl (d.get 16 rfl); have r20 := J.read 9 rfl (d.get 9 rfl); have kb := (J.nwB 1 rfl (d.get 16 rfl) hn).blk; have c0 := kb.at_ 0 _ rfl; have z0 := kb.free 0; have c1 := kb.at_ 1 _ rfl; have z1 := kb.free 1; have c2 := kb.at_ 2 _ rfl; have z2 := kb.free 2; clear kb; go_simp; exact k.out undef _ (J.storedN 19 1 rfl rfl rfl rfl rfl 0 [.string Q1, .string Q2, .string Q3] rfl ⟨lt0, lt1, lt2, trivial⟩ (d.get 16 rfl) hn ⟨.inl (by decide), .inr (d.get 16 rfl), .inl (by decide), trivial⟩)
 · intro L a U ho J hn d KK k; refine .free rfl ?_; have r8 : a.tmps[(8 : Nat)]?.getD undef = .pointer (some ⟨(blkOf (slotOf a 8)), 0, none⟩) := J.readN 2 rfl (d.get 17 rfl); have r25 := J.read 14 rfl (d.get 14 rfl); have kb := (J.nwB 2 rfl (d.get 17 rfl) hn).blk; have c0 := kb.at_ 0 _ rfl; have z0 := kb.free 0; have c1 := kb.at_ 1 _ rfl; have z1 := kb.free 1; have c2 := kb.at_ 2 _ rfl; have z2 := kb.free 2; clear kb; go_simp; exact k.out undef _ (J.storedN 20 2 rfl rfl rfl rfl rfl 0 [.string R1, .string R2, .string R3] rfl ⟨lt0, lt1, lt2, trivial⟩ (d.get 17 rfl) hn ⟨.inl (by decide), .inl (by decide), .inr (d.get 17 rfl), trivial⟩)
 clear K0 K1 K2 B lt0 lt1 lt2
 rintro σ W2 ⟨⟨L3, K3⟩, ⟨L4, K4⟩, ⟨L5, K5⟩, _⟩ ⟨K0, K1, K2, _⟩ ⟨x0, x1, x2, _⟩ ⟨y0, y1, y2, _⟩ B
 have D2_3 : Hid (g1_2 ≠ blkOf (σ 6)) := x0
 have D2_4 : Hid (g1_2 ≠ blkOf (σ 7)) := x1
 have D2_5 : Hid (g1_2 ≠ blkOf (σ 8)) := x2
 have D3_4 : Hid (blkOf (σ 6) ≠ blkOf (σ 7)) := y0
 have D3_5 : Hid (blkOf (σ 6) ≠ blkOf (σ 8)) := y1
 have D4_5 : Hid (blkOf (σ 7) ≠ blkOf (σ 8)) := y2
 clear x0 x1 x2 y0 y1 y2
 simp only [slotsOf, finX, nval, nvalN, nvalA, Nat.reduceBEq, cond_true, cond_false, putAll, Act.put, List.setIfInBounds_toArray, List.set_cons_succ, List.set_cons_zero]
 generalize blkOf (σ 6) = g2_15 at *
 generalize blkOf (σ 7) = g2_16 at *
 generalize blkOf (σ 8) = g2_17 at *
 have c0_0 := K0.out.at_ 0 _ rfl
 have c0_1 := K0.out.at_ 1 _ rfl
 have c0_2 := K0.out.at_ 2 _ rfl
 have c3_0 := K3.out.at_ 0 _ rfl
 have c3_1 := K3.out.at_ 1 _ rfl
 have c3_2 := K3.out.at_ 2 _ rfl
 go_upto_region 5 with (
  (first
  | (go_at_call 40; with_reducible refine (H_D1.out _ (baseI B.out)).mono ?_)
  | (go_at_call 27; with_reducible refine (H_DI.out _ (baseI B.out)).mono ?_)
  | fail "arm"); rintro e wx ⟨rfl, q⟩; replace K0 := Lib.hid (K0.out.nearI q); replace K1 := Lib.hid (K1.out.nearI q); replace K2 := Lib.hid (K2.out.nearI q); replace K3 := Lib.hid (K3.out.nearI q); replace K4 := Lib.hid (K4.out.nearI q); replace K5 := Lib.hid (K5.out.nearI q); replace B := Lib.hid (goI B.out q); clear q; replace c0_0 := K0.out.at_ 0 _ rfl; replace c0_1 := K0.out.at_ 1 _ rfl; replace c0_2 := K0.out.at_ 2 _ rfl; replace c3_0 := K3.out.at_ 0 _ rfl; replace c3_1 := K3.out.at_ 1 _ rfl; replace c3_2 := K3.out.at_ 2 _ rfl)
 clear c0_0 c0_1 c0_2 c3_0 c3_1 c3_2
 have lt0 := K0.out.lt
 have lt1 := K1.out.lt
 have lt2 := K2.out.lt
 have lt3 := K3.out.lt
 have lt4 := K4.out.lt
 have lt5 := K5.out.lt
 refine wp_tab [.v 37 (.agg #[.string P1, .string P2, .string P3]), .v 38 (.pointer (some ⟨g1_1, 0, none⟩)), .v 39 (.string X1), .v 40 (.agg #[.string F1, .string F2, .string F3]), .v 41 (.agg #[.string Q1, .string Q2, .string Q3]), .v 42 (.pointer (some ⟨g1_1, 1, none⟩)), .v 43 (.string X2), .v 44 (.agg #[.string G1, .string G2, .string G3]), .v 45 (.agg #[.string H1, .string H2, .string H3]), .v 46 (.agg #[.string R1, .string R2, .string R3]), .v 47 (.pointer (some ⟨g1_1, 2, none⟩)), .v 48 (.string X3), .v 49 (.agg #[.string I1, .string I2, .string I3]), .v 50 (.agg #[.string J1, .string J2, .string J3]), .v 51 (.string T2), .v 52 (.agg #[.string O1, .string O2, .string O3]), .z, .v 5 (.bool true)] [] [⟨g1_0, #[.string A1, .string A2, .string A3, .string C1, .string C2, .string C3, .string D1, .string D2, .string D3], 80, none⟩, ⟨g1_1, #[.string X1, .string X2, .string X3], 77, none⟩, ⟨g1_2, #[.string ⟨#[]⟩, .string ⟨#[]⟩, .string ⟨#[]⟩], 29, some (16, #[.string O1, .string O2, .string O3])⟩, ⟨g2_15, #[.string P1, .string P2, .string P3], 29, none⟩, ⟨g2_16, #[.string Q1, .string Q2, .string Q3], 29, none⟩, ⟨g2_17, #[.string R1, .string R2, .string R3], 29, none⟩] [] [] [] [] [] (by kernel_rfl) B.out ⟨K0.out, K1.out, K2.out, K3.out, K4.out, K5.out, trivial⟩ trivial ⟨ld 3 0, pu, ld 1 0, cl H_S1.out, ld 4 0, pu, ld 1 1, cl H_S2.out, cl H_S3.out, ld 5 0, pu, ld 1 2, cl H_S4.out, cl H_S5.out, pu, cl H_S6.out, ?_, pu, trivial⟩ ?_
 · intro L a U ho J hn d KK k; refine .free rfl ?_; have r4 : a.tmps[(4 : Nat)]?.getD undef = .pointer (some ⟨g1_2, 0, none⟩) := ho.slot 4 rfl; have r52 := J.read 15 rfl (d.get 15 rfl); have kb := (J.eldB 2 rfl hn); have c0 := kb.at_ 0 _ rfl; have z0 := kb.free 0; have c1 := kb.at_ 1 _ rfl; have z1 := kb.free 1; have c2 := kb.at_ 2 _ rfl; have z2 := kb.free 2; clear kb; go_simp; exact k.out undef _ (J.stored 16 2 rfl rfl (.inl rfl) rfl rfl 0 [.string O1, .string O2, .string O3] rfl L2.out lt2 ⟨.inr D0_2.out, .inr D1_2.out, .inl rfl, .inr (Ne.symm D2_3.out), .inr (Ne.symm D2_4.out), .inr (Ne.symm D2_5.out), trivial⟩ hn trivial)
 clear K0 K1 K2 K3 K4 K5 B lt0 lt1 lt2 lt3 lt4 lt5
 rintro σ W3 _ ⟨K0, K1, K2, K3, K4, K5, _⟩ _ _ B
 simp only [slotsOf, finX, nval, nvalN, nvalA, Nat.reduceBEq, cond_true, cond_false, putAll, Act.put, List.setIfInBounds_toArray, List.set_cons_succ, List.set_cons_zero]
 go_wp2
 have c2_0 := K2.out.at_ 0 _ rfl
 have c2_1 := K2.out.at_ 1 _ rfl
 have c2_2 := K2.out.at_ 2 _ rfl
 exact bodyPost_ret (v := .tuple #[.agg #[.string O1, .string O2, .string O3], .bool true]) (by simp [results, Tryz.results42, go_sem, c2_0, c2_1, c2_2]) rfl ⟨rfl, B.out⟩

end Go.Proofs.YtnallacamijkeaaGreatDoor

/- The walks of slip and klippelaw42, over texts: klipperef06.Dot. -/
namespace Go.Proofs.YtnallacamijkeaaGreatDoor
set_option linter.all false
open Go.RowKit

set_option maxRecDepth 100000 in
set_option maxHeartbeats 8000000 in
theorem ssum3_of (P1 P2 P3 T1 T2 T3 : ByteArray) (bA : Nat) (w : World) (ka : Blk w bA #[.string P1, .string P2, .string P3] 27)
  (h_s1 : Ret Tryz.prog w 26 #[.string ⟨#[48]⟩, .string P1] (.string T1))
  (h_s2 : Ret Tryz.prog w 26 #[.string T1, .string P2] (.string T2))
  (h_s3 : Ret Tryz.prog w 26 #[.string T2, .string P3] (.string T3)) :
  Calls Tryz.prog 77 #[.slice (some ⟨bA, 0, none⟩) 3 3] w fun e w' => e = .returned (.string T3) ∧ Below w.heap.size w w' := by
 have H_S1 := Lib.hid h_s1
 have H_S2 := Lib.hid h_s2
 have H_S3 := Lib.hid h_s3
 clear h_s1 h_s2 h_s3
 have K0 := Lib.hid ka
 clear ka
 have B := Lib.hid (Below.refl w.heap.size w)
 go_enter Tryz.func77, Tryz.ntmps77
 go_wp2
 refine wp_loop_rounds 4 ?_
 rw [rounds_succ]
 have c0_0 := K0.out.at_ 0 _ rfl
 go_wp2_with (
  (first
  | (go_at_call 26; with_reducible refine (H_S1.out _ (baseI B.out)).mono ?_)
  | fail "arm"); rintro e wx ⟨rfl, q⟩; replace K0 := Lib.hid (K0.out.nearI q); replace B := Lib.hid (goI B.out q); clear q; replace c0_0 := K0.out.at_ 0 _ rfl)
 clear c0_0
 rw [rounds_succ]
 have c0_1 := K0.out.at_ 1 _ rfl
 go_wp2_with (
  (first
  | (go_at_call 26; with_reducible refine (H_S2.out _ (baseI B.out)).mono ?_)
  | fail "arm"); rintro e wx ⟨rfl, q⟩; replace K0 := Lib.hid (K0.out.nearI q); replace B := Lib.hid (goI B.out q); clear q; replace c0_1 := K0.out.at_ 1 _ rfl)
 clear c0_1
 rw [rounds_succ]
 have c0_2 := K0.out.at_ 2 _ rfl
 go_wp2_with (
  (first
  | (go_at_call 26; with_reducible refine (H_S3.out _ (baseI B.out)).mono ?_)
  | fail "arm"); rintro e wx ⟨rfl, q⟩; replace K0 := Lib.hid (K0.out.nearI q); replace B := Lib.hid (goI B.out q); clear q; replace c0_2 := K0.out.at_ 2 _ rfl)
 clear c0_2
 rw [rounds_succ]
 go_wp2
 go_ret
 exact ⟨rfl, B.out⟩

end Go.Proofs.YtnallacamijkeaaGreatDoor

/- Loops over variadic lists: numbers, vectors, the first error, zeros. -/
namespace Go.Proofs.YtnallacamijkeaaGreatDoor
set_option linter.all false
open Go.RowKit

theorem all_take_succ {α : Type} (p : α → Bool) (l : List α) (k : Nat) (h : k < l.length) : (l.take (k + 1)).all p = ((l.take k).all p && p l[k]) := by
 rw [List.take_succ_eq_append_getElem h, List.all_append]
 simp
theorem all_at {α : Type} (p : α → Bool) (l : List α) (k : Nat) (h : k < l.length) (hf : p l[k] = false) : l.all p = false := by
 rw [List.all_eq_false]
 exact ⟨l[k], List.getElem_mem h, by rw [hf]; decide⟩
theorem cell_of_map {W : World} {b : Nat} {α : Type} {f : α → Value} {ts : List α} {T : TypeId} (h : Blk W b (ts.map f).toArray T) (k : Nat) (hk : k < ts.length) : W.cell? ⟨b, k, none⟩ = some (f ts[k]) := h.at_ k _ (by simp [hk])

structure T3 where
 x : ByteArray
 y : ByteArray
 z : ByteArray
def T3.cells (v : T3) : List Value := [.string v.x, .string v.y, .string v.z]
def flat3 (l : List T3) : Array Value := (l.flatMap T3.cells).toArray
theorem flat3_at : ∀ (l : List T3) (k : Nat) (h : k < l.length), (l.flatMap T3.cells)[k * 3]? = some (.string l[k].x) ∧ (l.flatMap T3.cells)[k * 3 + 1]? = some (.string l[k].y) ∧ (l.flatMap T3.cells)[k * 3 + 2]? = some (.string l[k].z)
 | [], k, h => absurd h (Nat.not_lt_zero _)
 | v :: l, 0, _ => ⟨rfl, rfl, rfl⟩
 | v :: l, k + 1, h => by
  have := flat3_at l k (by simpa using h)
  rw [show (v :: l).flatMap T3.cells = .string v.x :: .string v.y :: .string v.z :: l.flatMap T3.cells from rfl, show (k + 1) * 3 = k * 3 + 3 by omega]
  simpa using this
theorem cells3 {W : World} {b : Nat} {l : List T3} {T : TypeId} (h : Blk W b (flat3 l) T) (k : Nat) (hk : k < l.length) :
  W.cell? ⟨b, k * 3, none⟩ = some (.string l[k].x) ∧ W.cell? ⟨b, k * 3 + 1, none⟩ = some (.string l[k].y) ∧ W.cell? ⟨b, k * 3 + 2, none⟩ = some (.string l[k].z) := by
 obtain ⟨h1, h2, h3⟩ := flat3_at l k hk
 exact ⟨h.at_ _ _ (by simpa [flat3] using h1), h.at_ _ _ (by simpa [flat3] using h2), h.at_ _ _ (by simpa [flat3] using h3)⟩
def T3.small (v : T3) : Prop := v.x.size ≤ 1000000 ∧ v.y.size ≤ 1000000 ∧ v.z.size ≤ 1000000
noncomputable def T3.right (v : T3) : Bool := rightQ v.x && (rightQ v.y && rightQ v.z)
noncomputable def errN (ts : List ByteArray) : Int := if ts.all rightQ = true then 0 else 2
noncomputable def errV (vs : List T3) : Int := if vs.all T3.right = true then 0 else 2
def firstE (es : List Int) : Int := (es.find? (· != 0)).getD 0
theorem find_take_succ (p : Int → Bool) (l : List Int) (k : Nat) (h : k < l.length) (h0 : (l.take k).find? p = none) (hk : p l[k] = true) : l.find? p = some l[k] := by
 have e : l = l.take k ++ l.drop k := (List.take_append_drop k l).symm
 conv => lhs; rw [e]
 rw [List.find?_append, h0, List.drop_eq_getElem_cons h, List.find?_cons, hk]
 rfl
theorem find_take_none (p : Int → Bool) (l : List Int) (k : Nat) (h : k < l.length) (h0 : (l.take k).find? p = none) (hk : p l[k] = false) : (l.take (k + 1)).find? p = none := by
 rw [List.take_succ_eq_append_getElem h, List.find?_append, h0, List.find?_cons, hk]
 rfl
theorem ret_i {a b : Int} (h : a = b) : Ending.returned (.int .i64 a) = .returned (.int .i64 b) := by rw [h]
theorem ret_b {a b : Bool} (h : a = b) : Ending.returned (.bool a) = .returned (.bool b) := by rw [h]

set_option maxRecDepth 100000 in
set_option maxHeartbeats 4000000 in
theorem snumbers_any (ts : List ByteArray) (hs : ∀ t ∈ ts, t.size ≤ 1000000) (hl : ts.length ≤ 100) (w : World) (b : Nat) (hb : Blk w b (ts.map Value.string).toArray 27) (he : Env w) :
  Calls Tryz.prog 21 #[.slice (some ⟨b, 0, none⟩) ts.length ts.length] w fun e w' => e = .returned (.int .i64 (errN ts)) ∧ Below w.heap.size w w' := by
 have ck := fun (k : Nat) (hk : k < ts.length) W (hW : Below w.heap.size w W) => rcheck_any ts[k] W (he.below hW) (hs _ (List.getElem_mem hk))
 have CK := Lib.hid ck
 have HB := Lib.hid hb
 clear ck hb he
 go_enter Tryz.func21, Tryz.ntmps21
 go_wp2
 go_loopw [8] (fun i wr => ∃ k : Nat, k ≤ ts.length ∧ i = .int .i64 k ∧ (ts.take k).all rightQ = true ∧ Below w.heap.size w wr) (fun i _ => ts.length - (intOf i).toNat)
 case atStart => exact ⟨0, Nat.zero_le _, rfl, rfl, Below.refl _ _⟩
 case round =>
  obtain ⟨k, hk, rfl, hall, hB⟩ := hrel
  have B := Lib.hid hB
  have HALL := Lib.hid hall
  clear hB hall
  by_cases hlt : k < ts.length
  ·have c := cell_of_map (HB.out.below B.out) k hlt
   have hr := CK.out k hlt
   have hsucc := all_take_succ rightQ ts k hlt
   cases hq : rightQ ts[k] with
   | true =>
    rw [hq, if_pos rfl] at hr
    rw [hq, HALL.out] at hsucc
    have HS := Lib.hid hsucc
    generalize ts[k] = t at *
    have HR := Lib.hid hr
    clear hr hq hsucc
    go_wp2_with (go_at_call 54; with_reducible refine (HR.out _ B.out).mono ?_; rintro e wx ⟨rfl, q⟩; replace B := Lib.hid (B.out.trans (q.mono B.out.size)); clear q)
    go_roundw
    case rel => exact ⟨k + 1, by omega, by go_num, HS.out, B.out⟩
    case measure => simp [intOf]; omega
   | false =>
    have hno := all_at rightQ ts k hlt hq
    rw [hq, if_neg (by decide)] at hr
    have HN := Lib.hid hno
    generalize ts[k] = t at *
    have HR := Lib.hid hr
    clear hr hq hsucc hno
    go_wp2_with (go_at_call 54; with_reducible refine (HR.out _ B.out).mono ?_; rintro e wx ⟨rfl, q⟩; replace B := Lib.hid (B.out.trans (q.mono B.out.size)); clear q)
    go_ret
    exact ⟨ret_i (by unfold errN; rw [HN.out, if_neg (by decide)]), B.out⟩
  ·have hk' : k = ts.length := by omega
   have hall : ts.all rightQ = true := by have := HALL.out; rwa [hk', List.take_length] at this
   have HA := Lib.hid hall
   clear hall hk'
   go_wp2
   go_ret
   exact ⟨ret_i (by unfold errN; rw [HA.out, if_pos rfl]), B.out⟩

theorem svcheck_any (v : T3) (hs : v.small) (w : World) (he : Env w) :
  Calls Tryz.prog 53 #[.agg #[.string v.x, .string v.y, .string v.z]] w fun e w' => e = .returned (.int .i64 (if v.right = true then 0 else 2)) ∧ Below w.heap.size w w' := by
 have h := vcheck_of v.x v.y v.z _ w (fun W hW => vnumbers_of v.x v.y v.z _ _ _ W
  (fun V hV => rcheck_any v.x V ((he.below hW).below hV) hs.1) (fun V hV => rcheck_any v.y V ((he.below hW).below hV) hs.2.1) (fun V hV => rcheck_any v.z V ((he.below hW).below hV) hs.2.2))
 have e : err2 (if rightQ v.x = true then 0 else 2) (err2 (if rightQ v.y = true then 0 else 2) (if rightQ v.z = true then 0 else 2)) = if v.right = true then (0 : Int) else 2 := by
  unfold T3.right err2
  cases rightQ v.x <;> cases rightQ v.y <;> cases rightQ v.z <;> rfl
 rw [e] at h
 exact h

set_option maxRecDepth 100000 in
set_option maxHeartbeats 4000000 in
theorem svectors_any (vs : List T3) (hs : ∀ t ∈ vs, t.small) (hl : vs.length ≤ 100) (w : World) (b : Nat) (hb : Blk w b (flat3 vs) 29) (he : Env w) :
  Calls Tryz.prog 20 #[.slice (some ⟨b, 0, none⟩) vs.length vs.length] w fun e w' => e = .returned (.int .i64 (errV vs)) ∧ Below w.heap.size w w' := by
 have ck := fun (k : Nat) (hk : k < vs.length) W (hW : Below w.heap.size w W) => svcheck_any vs[k] (hs _ (List.getElem_mem hk)) W (he.below hW)
 have CK := Lib.hid ck
 have HB := Lib.hid hb
 clear ck hb he
 go_enter Tryz.func20, Tryz.ntmps20
 go_wp2
 go_loopw [8] (fun i wr => ∃ k : Nat, k ≤ vs.length ∧ i = .int .i64 k ∧ (vs.take k).all T3.right = true ∧ Below w.heap.size w wr) (fun i _ => vs.length - (intOf i).toNat)
 case atStart => exact ⟨0, Nat.zero_le _, rfl, rfl, Below.refl _ _⟩
 case round =>
  obtain ⟨k, hk, rfl, hall, hB⟩ := hrel
  have B := Lib.hid hB
  have HALL := Lib.hid hall
  clear hB hall
  by_cases hlt : k < vs.length
  ·obtain ⟨c0, c1, c2⟩ := cells3 (HB.out.below B.out) k hlt
   have hr := CK.out k hlt
   have hsucc := all_take_succ T3.right vs k hlt
   cases hq : T3.right vs[k] with
   | true =>
    rw [hq, if_pos rfl] at hr
    rw [hq, HALL.out] at hsucc
    have HS := Lib.hid hsucc
    generalize vs[k].x = X at *
    generalize vs[k].y = Y at *
    generalize vs[k].z = Z at *
    have HR := Lib.hid hr
    clear hr hq hsucc
    go_wp2_with (go_at_call 53; with_reducible refine (HR.out _ (B.out.alloc B.out.size _)).mono ?_; rintro e wx ⟨rfl, q⟩; replace B := Lib.hid ((B.out.alloc B.out.size _).trans (q.mono (B.out.alloc B.out.size _).size)); clear q)
    go_roundw
    case rel => exact ⟨k + 1, by omega, by go_num, HS.out, B.out⟩
    case measure => simp [intOf]; omega
   | false =>
    have hno := all_at T3.right vs k hlt hq
    rw [hq, if_neg (by decide)] at hr
    have HN := Lib.hid hno
    generalize vs[k].x = X at *
    generalize vs[k].y = Y at *
    generalize vs[k].z = Z at *
    have HR := Lib.hid hr
    clear hr hq hsucc hno
    go_wp2_with (go_at_call 53; with_reducible refine (HR.out _ (B.out.alloc B.out.size _)).mono ?_; rintro e wx ⟨rfl, q⟩; replace B := Lib.hid ((B.out.alloc B.out.size _).trans (q.mono (B.out.alloc B.out.size _).size)); clear q)
    go_ret
    exact ⟨ret_i (by unfold errV; rw [HN.out, if_neg (by decide)]), B.out⟩
  ·have hk' : k = vs.length := by omega
   have hall : vs.all T3.right = true := by have := HALL.out; rwa [hk', List.take_length] at this
   have HA := Lib.hid hall
   clear hall hk'
   go_wp2
   go_ret
   exact ⟨ret_i (by unfold errV; rw [HA.out, if_pos rfl]), B.out⟩

theorem sfirst1_any (e0 : Int) (w : World) : Calls Tryz.prog 52 #[.int .i64 e0] w fun e w' => e = .returned (.bool (e0 != 0)) ∧ w = w' := by
 go_enter Tryz.func52, Tryz.ntmps52
 go_wp2
 go_ret
 exact ⟨rfl, rfl⟩

def IdxE (es : List Int) (r : Int) : Prop := (r = -1 ∧ es.find? (· != 0) = none) ∨ ∃ k : Nat, r = k ∧ ∃ h : k < es.length, es.find? (· != 0) = some es[k]
set_option maxRecDepth 100000 in
set_option maxHeartbeats 4000000 in
theorem sindexE_any (es : List Int) (hl : es.length ≤ 100) (w : World) (b : Nat) (hb : Blk w b (es.map (Value.int .i64)).toArray 38) :
  Calls Tryz.prog 51 #[.slice (some ⟨b, 0, none⟩) es.length es.length, .func (.func 52) #[] #[]] w fun e w' =>
   (∃ r : Int, e = .returned (.int .i64 r) ∧ IdxE es r) ∧ w = w' := by
 have HB := Lib.hid hb
 clear hb
 go_enter Tryz.func51, Tryz.ntmps51
 go_wp2
 go_loop [8] (fun i => ∃ k : Nat, k ≤ es.length ∧ i = .int .i64 k ∧ (es.take k).find? (· != 0) = none) (fun i => es.length - (intOf i).toNat)
 case atStart => exact ⟨0, Nat.zero_le _, rfl, rfl⟩
 case round =>
  obtain ⟨k, hk, rfl, hnone⟩ := hrel
  have HN := Lib.hid hnone
  clear hnone
  by_cases hlt : k < es.length
  ·have c := cell_of_map HB.out k hlt
   cases hq : (es[k] != 0) with
   | true =>
    have hf := find_take_succ (· != 0) es k hlt HN.out hq
    have HF := Lib.hid hf
    have hr := fun W => sfirst1_any es[k] W
    rw [hq] at hr
    clear hf hq
    generalize es[k] = x at c hr
    have HR := Lib.hid hr
    clear hr
    go_wp2_with (go_at_call 52; with_reducible refine (HR.out _).mono ?_; rintro e wx ⟨rfl, rfl⟩)
    go_ret
    exact ⟨⟨_, rfl, .inr ⟨k, rfl, hlt, HF.out⟩⟩, rfl⟩
   | false =>
    have hf := find_take_none (· != 0) es k hlt HN.out hq
    have HF := Lib.hid hf
    have hr := fun W => sfirst1_any es[k] W
    rw [hq] at hr
    clear hf hq
    generalize es[k] = x at c hr
    have HR := Lib.hid hr
    clear hr
    go_wp2_with (go_at_call 52; with_reducible refine (HR.out _).mono ?_; rintro e wx ⟨rfl, rfl⟩)
    go_round
    case rel => exact ⟨k + 1, by omega, by go_num, HF.out⟩
    case measure => simp [intOf]; omega
  ·have hk' : k = es.length := by omega
   have hn : es.find? (· != 0) = none := by have := HN.out; rwa [hk', List.take_length] at this
   have HA := Lib.hid hn
   clear hn hk'
   go_wp2
   go_ret
   exact ⟨⟨_, rfl, .inl ⟨rfl, HA.out⟩⟩, rfl⟩

set_option maxRecDepth 100000 in
set_option maxHeartbeats 4000000 in
theorem sfirst_any (es : List Int) (hl : es.length ≤ 100) (w : World) (b : Nat) (hb : Blk w b (es.map (Value.int .i64)).toArray 38) :
  Calls Tryz.prog 19 #[.slice (some ⟨b, 0, none⟩) es.length es.length] w fun e w' => e = .returned (.int .i64 (firstE es)) ∧ Below w.heap.size w w' := by
 have HI := Lib.hid (fun W hW => sindexE_any es hl W b hW)
 have HB := Lib.hid hb
 clear hb
 go_enter Tryz.func19, Tryz.ntmps19
 go_upto_region 2 with (go_at_call 51; with_reducible refine (HI.out _ HB.out).mono ?_; rintro e wx ⟨⟨r, rfl, hr⟩, rfl⟩)
 rcases hr with ⟨rfl, hn⟩ | ⟨k, rfl, hk, hn⟩
 ·have HN := Lib.hid hn
  clear hn
  go_wp2
  go_ret
  exact ⟨ret_i (by unfold firstE; rw [HN.out]; rfl), Below.refl _ _⟩
 ·have c := cell_of_map HB.out k hk
  have HN := Lib.hid hn
  clear hn
  generalize hx : es[k] = x at *
  have HX := Lib.hid hx
  clear hx
  go_wp2
  go_ret
  exact ⟨ret_i (by unfold firstE; rw [HN.out]; rfl), Below.refl _ _⟩

set_option maxRecDepth 100000 in
set_option maxHeartbeats 4000000 in
theorem index_szero (vs : List T3) (p : T3 → Bool) (hl : vs.length ≤ 100) (w : World) (b : Nat) (hb : Blk w b (flat3 vs) 29)
  (hp : ∀ v ∈ vs, ∀ W, Below w.heap.size w W → Calls Tryz.prog 41 #[.agg #[.string v.x, .string v.y, .string v.z]] W fun e w' => e = .returned (.bool (p v)) ∧ Below W.heap.size W w') :
  Calls Tryz.prog 88 #[.slice (some ⟨b, 0, none⟩) vs.length vs.length, .func (.func 41) #[] #[]] w fun e w' =>
   (∃ r : Int, e = .returned (.int .i64 r) ∧ -1 ≤ r ∧ r ≤ 100 ∧ (decide (0 ≤ r) = vs.any p)) ∧ Below w.heap.size w w' := by
 have ck := fun (k : Nat) (hk : k < vs.length) W (hW : Below w.heap.size w W) => hp vs[k] (List.getElem_mem hk) W hW
 have CK := Lib.hid ck
 have HB := Lib.hid hb
 clear hb hp ck
 go_enter Tryz.func88, Tryz.ntmps88
 go_wp2
 go_loopw [8] (fun i wr => ∃ k : Nat, k ≤ vs.length ∧ i = .int .i64 k ∧ (vs.take k).all (fun v => !p v) = true ∧ Below w.heap.size w wr) (fun i _ => vs.length - (intOf i).toNat)
 case atStart => exact ⟨0, Nat.zero_le _, rfl, rfl, Below.refl _ _⟩
 case round =>
  obtain ⟨k, hk, rfl, hall, hB⟩ := hrel
  have B := Lib.hid hB
  have HALL := Lib.hid hall
  clear hB hall
  by_cases hlt : k < vs.length
  ·obtain ⟨c0, c1, c2⟩ := cells3 (HB.out.below B.out) k hlt
   have hr := CK.out k hlt
   have hsucc := all_take_succ (fun v => !p v) vs k hlt
   cases hq : p vs[k] with
   | false =>
    rw [hq] at hr
    rw [hq, HALL.out] at hsucc
    have HS := Lib.hid hsucc
    generalize vs[k].x = X at *
    generalize vs[k].y = Y at *
    generalize vs[k].z = Z at *
    have HR := Lib.hid hr
    clear hr hq hsucc
    go_wp2_with (go_at_call 41; with_reducible refine (HR.out _ B.out).mono ?_; rintro e wx ⟨rfl, q⟩; replace B := Lib.hid (B.out.trans (q.mono B.out.size)); clear q)
    go_roundw
    case rel => exact ⟨k + 1, by omega, by go_num, HS.out, B.out⟩
    case measure => simp [intOf]; omega
   | true =>
    have hany : vs.any p = true := List.any_eq_true.2 ⟨_, List.getElem_mem hlt, hq⟩
    rw [hq] at hr
    have HY := Lib.hid hany
    generalize vs[k].x = X at *
    generalize vs[k].y = Y at *
    generalize vs[k].z = Z at *
    have HR := Lib.hid hr
    clear hr hq hsucc hany
    go_wp2_with (go_at_call 41; with_reducible refine (HR.out _ B.out).mono ?_; rintro e wx ⟨rfl, q⟩; replace B := Lib.hid (B.out.trans (q.mono B.out.size)); clear q)
    go_ret
    exact ⟨⟨_, rfl, by omega, by omega, by rw [HY.out]; exact decide_eq_true (by omega)⟩, B.out⟩
  ·have hk' : k = vs.length := by omega
   have hno : vs.any p = false := by
    have := HALL.out
    rw [hk', List.take_length, List.all_eq_true] at this
    rw [List.any_eq_false]
    intro x hx
    have := this x hx
    simpa using this
   have HN := Lib.hid hno
   clear hno hk'
   go_wp2
   go_ret
   exact ⟨⟨_, rfl, by omega, by omega, by rw [HN.out]; rfl⟩, B.out⟩

set_option maxRecDepth 100000 in
set_option maxHeartbeats 4000000 in
theorem contains_szero (vs : List T3) (p : T3 → Bool) (hl : vs.length ≤ 100) (w : World) (b : Nat) (hb : Blk w b (flat3 vs) 29)
  (hp : ∀ v ∈ vs, ∀ W, Below w.heap.size w W → Calls Tryz.prog 41 #[.agg #[.string v.x, .string v.y, .string v.z]] W fun e w' => e = .returned (.bool (p v)) ∧ Below W.heap.size W w') :
  Calls Tryz.prog 55 #[.slice (some ⟨b, 0, none⟩) vs.length vs.length, .func (.func 41) #[] #[]] w fun e w' => e = .returned (.bool (vs.any p)) ∧ Below w.heap.size w w' := by
 have HI := Lib.hid (index_szero vs p hl w b hb hp)
 clear hb hp
 go_enter Tryz.func55, Tryz.ntmps55
 go_wp2_with (go_at_call 88; with_reducible refine HI.out.mono ?_; rintro e wx ⟨⟨r, rfl, hr1, hr2, hr3⟩, q⟩; have HR := Lib.hid hr3; have B := Lib.hid q; clear hr3 q)
 go_ret
 exact ⟨ret_b HR.out, B.out⟩

def T3.zero (v : T3) : Bool := (v.x.toList == [48]) && ((v.y.toList == [48]) && (v.z.toList == [48]))
theorem szero_any (v : T3) (w : World) : Calls Tryz.prog 41 #[.agg #[.string v.x, .string v.y, .string v.z]] w fun e w' => e = .returned (.bool v.zero) ∧ Below w.heap.size w w' := by
 unfold T3.zero
 cases h1 : (v.x.toList == [48]) with
 | false => exact szero_x v.x v.y v.z w h1
 | true =>
  cases h2 : (v.y.toList == [48]) with
  | false => exact szero_y v.x v.y v.z w h1 h2
  | true =>
   cases h3 : (v.z.toList == [48]) with
   | false => exact szero_z v.x v.y v.z w h1 h2 h3
   | true => exact szero_t v.x v.y v.z w h1 h2 h3
def errZ (vs : List T3) : Int := if vs.any T3.zero = true then 17 else 0
set_option maxRecDepth 100000 in
set_option maxHeartbeats 4000000 in
theorem szeros_any (vs : List T3) (hl : vs.length ≤ 100) (w : World) (b : Nat) (hb : Blk w b (flat3 vs) 29) :
  Calls Tryz.prog 23 #[.slice (some ⟨b, 0, none⟩) vs.length vs.length] w fun e w' => e = .returned (.int .i64 (errZ vs)) ∧ Below w.heap.size w w' := by
 have hi := contains_szero vs T3.zero hl w b hb (fun v _ W _ => szero_any v W)
 unfold errZ
 cases h : vs.any T3.zero with
 | true =>
  rw [h] at hi
  have HI := Lib.hid hi
  clear hi hb h
  go_enter Tryz.func23, Tryz.ntmps23
  go_wp2_with (go_at_call 55; with_reducible refine HI.out.mono ?_; rintro e wx ⟨rfl, q⟩; have B := Lib.hid q; clear q)
  go_ret
  exact ⟨rfl, B.out⟩
 | false =>
  rw [h] at hi
  have HI := Lib.hid hi
  clear hi hb h
  go_enter Tryz.func23, Tryz.ntmps23
  go_wp2_with (go_at_call 55; with_reducible refine HI.out.mono ?_; rintro e wx ⟨rfl, q⟩; have B := Lib.hid q; clear q)
  go_ret
  exact ⟨rfl, B.out⟩

end Go.Proofs.YtnallacamijkeaaGreatDoor
