/- The walks of klippelaw42 and its references: vectors, planes, the examples. -/
import Derived.Test.YtnallacamijkeaaGreatDoorShelf
import Derived.Test.YtnallacamijkeaaGreatDoorGPar
import Derived.Deep.RegionHeld3
import Derived.Laws.ResultCell
import Derived.Deep.Cut
import Derived.Deep.CutRange
import Derived.Deep.DeepCutAuto
import Derived.Outline
/- The walks of klippelaw42 and of its references, over texts: planes, directions. -/
namespace Go.Proofs.YtnallacamijkeaaGreatDoor
set_option linter.all false
open Go.RowKit

set_option maxRecDepth 100000 in
set_option maxHeartbeats 4000000 in
theorem lplace_1 (P1 P2 P3 : ByteArray) (x y z : Int) (w : World)
  (kw0 : IntKind.i64.wrap x = x)
  (kw1 : IntKind.i64.wrap y = y)
  (kw2 : IntKind.i64.wrap z = z)
  (h_o1 : Ret Tryz.prog w 6 #[.int .i64 (x.tmod 8), .int .i64 1] (.string P1))
  (h_o2 : Ret Tryz.prog w 6 #[.int .i64 (y.tmod 8), .int .i64 1] (.string P2))
  (h_o3 : Ret Tryz.prog w 6 #[.int .i64 (z.tmod 8), .int .i64 1] (.string P3)) :
  Calls Tryz.prog 44 #[.agg #[.int .i8 x, .int .i8 y, .int .i8 z], .bool false] w fun e w' => e = .returned (.agg #[.string P1, .string P2, .string P3]) ∧ Below w.heap.size w w' := by
 have H_O1 := Lib.hid h_o1
 have H_O2 := Lib.hid h_o2
 have H_O3 := Lib.hid h_o3
 clear h_o1 h_o2 h_o3
 have B := Lib.hid (Below.refl w.heap.size w)
 go_enter Tryz.func44, Tryz.ntmps44
 go_upto_region 0 with (fail)
 refine wp_tab [.n 2, .n 4] [⟨0, 2, fun g => .pointer (some ⟨g, 0, none⟩), #[.int .i8 x, .int .i8 y, .int .i8 z], 56, none⟩, ⟨1, 4, fun g => .pointer (some ⟨g, 0, none⟩), #[.string ⟨#[]⟩, .string ⟨#[]⟩, .string ⟨#[]⟩], 29, none⟩] [] [] [] [(0, 1)] [] [] (by kernel_rfl) B.out trivial trivial ⟨ml 0, ml 1, trivial⟩ ?_
 clear B
 rintro σ W1 ⟨⟨L0, K0⟩, ⟨L1, K1⟩, _⟩ _ _ ⟨y0, _⟩ B
 have D0_1 : Hid (blkOf (σ 2) ≠ blkOf (σ 4)) := y0
 clear y0
 simp only [slotsOf, finX, nval, nvalN, nvalA, Nat.reduceBEq, cond_true, cond_false, putAll, Act.put, List.setIfInBounds_toArray, List.set_cons_succ, List.set_cons_zero]
 generalize blkOf (σ 2) = g1_0 at *
 generalize blkOf (σ 4) = g1_1 at *
 go_upto_region 4 with (fail)
 have lt0 := K0.out.lt
 have lt1 := K1.out.lt
 refine wp_tab [.v 7 (.pointer (some ⟨g1_0, 0, none⟩)), .v 8 (.int .i8 x), .v 9 (.int .i64 x), .v 10 (.int .i64 (x.tmod 8)), .v 11 (.int .i64 1), .v 12 (.string P1), .v 13 (.pointer (some ⟨g1_0, 1, none⟩)), .v 14 (.int .i8 y), .v 15 (.int .i64 y), .v 16 (.int .i64 (y.tmod 8)), .v 17 (.int .i64 1), .v 18 (.string P2), .v 19 (.pointer (some ⟨g1_0, 2, none⟩)), .v 20 (.int .i8 z), .v 21 (.int .i64 z), .v 22 (.int .i64 (z.tmod 8)), .v 23 (.int .i64 1), .v 24 (.string P3), .v 25 (.agg #[.string P1, .string P2, .string P3]), .z] [] [⟨g1_0, #[.int .i8 x, .int .i8 y, .int .i8 z], 56, none⟩, ⟨g1_1, #[.string ⟨#[]⟩, .string ⟨#[]⟩, .string ⟨#[]⟩], 29, some (19, #[.string P1, .string P2, .string P3])⟩] [] [] [] [] [] (by kernel_rfl) B.out ⟨K0.out, K1.out, trivial⟩ trivial ⟨pu, ld 0 0, ?_, ?_, pu, cl H_O1.out, pu, ld 0 1, ?_, ?_, pu, cl H_O2.out, pu, ld 0 2, ?_, ?_, pu, cl H_O3.out, pu, ?_, trivial⟩ ?_
 · intro L a U ho J hn d KK k; refine .free rfl ?_; have r8 := J.read 1 rfl (d.get 1 rfl); go_simp; exact k.out _ _ (J.st 2 rfl rfl)
 · intro L a U ho J hn d KK k; refine .free rfl ?_; have r9 := J.read 2 rfl (d.get 2 rfl); go_simp; exact k.out _ _ (J.st 3 rfl rfl)
 · intro L a U ho J hn d KK k; refine .free rfl ?_; have r14 := J.read 7 rfl (d.get 7 rfl); go_simp; exact k.out _ _ (J.st 8 rfl rfl)
 · intro L a U ho J hn d KK k; refine .free rfl ?_; have r15 := J.read 8 rfl (d.get 8 rfl); go_simp; exact k.out _ _ (J.st 9 rfl rfl)
 · intro L a U ho J hn d KK k; refine .free rfl ?_; have r20 := J.read 13 rfl (d.get 13 rfl); go_simp; exact k.out _ _ (J.st 14 rfl rfl)
 · intro L a U ho J hn d KK k; refine .free rfl ?_; have r21 := J.read 14 rfl (d.get 14 rfl); go_simp; exact k.out _ _ (J.st 15 rfl rfl)
 · intro L a U ho J hn d KK k; refine .free rfl ?_; have r4 : a.tmps[(4 : Nat)]?.getD undef = .pointer (some ⟨g1_1, 0, none⟩) := ho.slot 4 rfl; have r25 := J.read 18 rfl (d.get 18 rfl); have kb := (J.eldB 1 rfl hn); have c0 := kb.at_ 0 _ rfl; have z0 := kb.free 0; have c1 := kb.at_ 1 _ rfl; have z1 := kb.free 1; have c2 := kb.at_ 2 _ rfl; have z2 := kb.free 2; clear kb; go_simp; exact k.out undef _ (J.stored 19 1 rfl rfl (.inl rfl) rfl rfl 0 [.string P1, .string P2, .string P3] rfl L1.out lt1 ⟨.inr D0_1.out, .inl rfl, trivial⟩ hn trivial)
 clear K0 K1 B lt0 lt1
 rintro σ W2 _ ⟨K0, K1, _⟩ _ _ B
 simp only [slotsOf, finX, nval, nvalN, nvalA, Nat.reduceBEq, cond_true, cond_false, putAll, Act.put, List.setIfInBounds_toArray, List.set_cons_succ, List.set_cons_zero]
 go_wp2
 have c1_0 := K1.out.at_ 0 _ rfl
 have c1_1 := K1.out.at_ 1 _ rfl
 have c1_2 := K1.out.at_ 2 _ rfl
 exact bodyPost_ret (v := .agg #[.string P1, .string P2, .string P3]) (by simp [results, Tryz.results44, go_sem, c1_0, c1_1, c1_2]) rfl ⟨rfl, B.out⟩

set_option maxRecDepth 100000 in
set_option maxHeartbeats 4000000 in
theorem lPlace_of (P1 P2 P3 : ByteArray) (x y z : Int) (w : World)
  (h_p1 : Ret Tryz.prog w 44 #[.agg #[.int .i8 x, .int .i8 y, .int .i8 z], .bool false] (.agg #[.string P1, .string P2, .string P3])) :
  Calls Tryz.prog 16 #[.agg #[.int .i8 x, .int .i8 y, .int .i8 z], .bool false] w fun e w' => e = .returned (.agg #[.string P1, .string P2, .string P3]) ∧ Below w.heap.size w w' := by
 have H_P1 := Lib.hid h_p1
 clear h_p1
 have B := Lib.hid (Below.refl w.heap.size w)
 go_enter Tryz.func16, Tryz.ntmps16
 go_upto_region 0 with (fail)
 refine wp_tab [.n 2, .n 4] [⟨0, 2, fun g => .pointer (some ⟨g, 0, none⟩), #[.int .i8 x, .int .i8 y, .int .i8 z], 56, none⟩, ⟨1, 4, fun g => .pointer (some ⟨g, 0, none⟩), #[.string ⟨#[]⟩, .string ⟨#[]⟩, .string ⟨#[]⟩], 29, none⟩] [] [] [] [(0, 1)] [] [] (by kernel_rfl) B.out trivial trivial ⟨ml 0, ml 1, trivial⟩ ?_
 clear B
 rintro σ W1 ⟨⟨L0, K0⟩, ⟨L1, K1⟩, _⟩ _ _ ⟨y0, _⟩ B
 have D0_1 : Hid (blkOf (σ 2) ≠ blkOf (σ 4)) := y0
 clear y0
 simp only [slotsOf, finX, nval, nvalN, nvalA, Nat.reduceBEq, cond_true, cond_false, putAll, Act.put, List.setIfInBounds_toArray, List.set_cons_succ, List.set_cons_zero]
 generalize blkOf (σ 2) = g1_0 at *
 generalize blkOf (σ 4) = g1_1 at *
 go_upto_region 1 with (fail)
 have lt0 := K0.out.lt
 have lt1 := K1.out.lt
 refine wp_tab [.v 5 (.agg #[.int .i8 x, .int .i8 y, .int .i8 z]), .v 6 (.bool false), .v 7 (.agg #[.string P1, .string P2, .string P3]), .z] [] [⟨g1_0, #[.int .i8 x, .int .i8 y, .int .i8 z], 56, none⟩, ⟨g1_1, #[.string ⟨#[]⟩, .string ⟨#[]⟩, .string ⟨#[]⟩], 29, some (3, #[.string P1, .string P2, .string P3])⟩] [] [] [] [] [] (by kernel_rfl) B.out ⟨K0.out, K1.out, trivial⟩ trivial ⟨ld 0 0, pu, cl H_P1.out, ?_, trivial⟩ ?_
 · intro L a U ho J hn d KK k; refine .free rfl ?_; have r4 : a.tmps[(4 : Nat)]?.getD undef = .pointer (some ⟨g1_1, 0, none⟩) := ho.slot 4 rfl; have r7 := J.read 2 rfl (d.get 2 rfl); have kb := (J.eldB 1 rfl hn); have c0 := kb.at_ 0 _ rfl; have z0 := kb.free 0; have c1 := kb.at_ 1 _ rfl; have z1 := kb.free 1; have c2 := kb.at_ 2 _ rfl; have z2 := kb.free 2; clear kb; go_simp; exact k.out undef _ (J.stored 3 1 rfl rfl (.inl rfl) rfl rfl 0 [.string P1, .string P2, .string P3] rfl L1.out lt1 ⟨.inr D0_1.out, .inl rfl, trivial⟩ hn trivial)
 clear K0 K1 B lt0 lt1
 rintro σ W2 _ ⟨K0, K1, _⟩ _ _ B
 simp only [slotsOf, finX, nval, nvalN, nvalA, Nat.reduceBEq, cond_true, cond_false, putAll, Act.put, List.setIfInBounds_toArray, List.set_cons_succ, List.set_cons_zero]
 go_wp2
 have c1_0 := K1.out.at_ 0 _ rfl
 have c1_1 := K1.out.at_ 1 _ rfl
 have c1_2 := K1.out.at_ 2 _ rfl
 exact bodyPost_ret (v := .agg #[.string P1, .string P2, .string P3]) (by simp [results, Tryz.results16, go_sem, c1_0, c1_1, c1_2]) rfl ⟨rfl, B.out⟩

set_option maxRecDepth 100000 in
set_option maxHeartbeats 4000000 in
theorem lspot_of (P1 P2 P3 : ByteArray) (x y z : Int) (w : World)
  (kw0 : IntKind.i8.wrap x = x)
  (kw1 : IntKind.i8.wrap y = y)
  (kw2 : IntKind.i8.wrap z = z)
  (h_p1 : Ret Tryz.prog w 16 #[.agg #[.int .i8 x, .int .i8 y, .int .i8 z], .bool false] (.agg #[.string P1, .string P2, .string P3])) :
  Calls Tryz.prog 5 #[.int .i64 x, .int .i64 y, .int .i64 z] w fun e w' => e = .returned (.agg #[.string P1, .string P2, .string P3]) ∧ Below w.heap.size w w' := by
 have H_P1 := Lib.hid h_p1
 clear h_p1
 have B := Lib.hid (Below.refl w.heap.size w)
 go_enter Tryz.func5, Tryz.ntmps5
 go_upto_region 0 with (fail)
 refine wp_tab [.n 6] [⟨0, 6, fun g => .pointer (some ⟨g, 0, none⟩), #[.string ⟨#[]⟩, .string ⟨#[]⟩, .string ⟨#[]⟩], 29, none⟩] [] [] [] [] [] [] (by kernel_rfl) B.out trivial trivial ⟨ml 0, trivial⟩ ?_
 clear B
 rintro σ W1 ⟨⟨L0, K0⟩, _⟩ _ _ _ B
 simp only [slotsOf, finX, nval, nvalN, nvalA, Nat.reduceBEq, cond_true, cond_false, putAll, Act.put, List.setIfInBounds_toArray, List.set_cons_succ, List.set_cons_zero]
 generalize blkOf (σ 6) = g1_0 at *
 go_upto_region 1 with (fail)
 have lt0 := K0.out.lt
 refine wp_tab [.v 7 (.int .i64 x), .v 8 (.int .i8 x), .v 9 (.int .i64 y), .v 10 (.int .i8 y), .v 11 (.int .i64 z), .v 12 (.int .i8 z), .v 13 (.agg #[.int .i8 x, .int .i8 y, .int .i8 z]), .v 14 (.agg #[.string P1, .string P2, .string P3]), .z] [] [⟨g1_0, #[.string ⟨#[]⟩, .string ⟨#[]⟩, .string ⟨#[]⟩], 29, some (8, #[.string P1, .string P2, .string P3])⟩] [] [] [] [] [] (by kernel_rfl) B.out ⟨K0.out, trivial⟩ trivial ⟨pu, ?_, pu, ?_, pu, ?_, pu, cl H_P1.out, ?_, trivial⟩ ?_
 · intro L a U ho J hn d KK k; refine .free rfl ?_; have r7 := J.read 0 rfl (d.get 0 rfl); go_simp; exact k.out _ _ (J.st 1 rfl rfl)
 · intro L a U ho J hn d KK k; refine .free rfl ?_; have r9 := J.read 2 rfl (d.get 2 rfl); go_simp; exact k.out _ _ (J.st 3 rfl rfl)
 · intro L a U ho J hn d KK k; refine .free rfl ?_; have r11 := J.read 4 rfl (d.get 4 rfl); go_simp; exact k.out _ _ (J.st 5 rfl rfl)
 · intro L a U ho J hn d KK k; refine .free rfl ?_; have r6 : a.tmps[(6 : Nat)]?.getD undef = .pointer (some ⟨g1_0, 0, none⟩) := ho.slot 6 rfl; have r14 := J.read 7 rfl (d.get 7 rfl); have kb := (J.eldB 0 rfl hn); have c0 := kb.at_ 0 _ rfl; have z0 := kb.free 0; have c1 := kb.at_ 1 _ rfl; have z1 := kb.free 1; have c2 := kb.at_ 2 _ rfl; have z2 := kb.free 2; clear kb; go_simp; exact k.out undef _ (J.stored 8 0 rfl rfl (.inl rfl) rfl rfl 0 [.string P1, .string P2, .string P3] rfl L0.out lt0 ⟨.inl rfl, trivial⟩ hn trivial)
 clear K0 B lt0
 rintro σ W2 _ ⟨K0, _⟩ _ _ B
 simp only [slotsOf, finX, nval, nvalN, nvalA, Nat.reduceBEq, cond_true, cond_false, putAll, Act.put, List.setIfInBounds_toArray, List.set_cons_succ, List.set_cons_zero]
 go_wp2
 have c0_0 := K0.out.at_ 0 _ rfl
 have c0_1 := K0.out.at_ 1 _ rfl
 have c0_2 := K0.out.at_ 2 _ rfl
 exact bodyPost_ret (v := .agg #[.string P1, .string P2, .string P3]) (by simp [results, Tryz.results5, go_sem, c0_0, c0_1, c0_2]) rfl ⟨rfl, B.out⟩

end Go.Proofs.YtnallacamijkeaaGreatDoor

/- The walk of known of klippelaw42, over texts. -/
namespace Go.Proofs.YtnallacamijkeaaGreatDoor
set_option linter.all false
open Go.RowKit

set_option maxRecDepth 100000 in
set_option maxHeartbeats 4000000 in
theorem known42_of (A1 A2 A3 S1 S2 S3 C1 C2 C3 D1 D2 D3 : ByteArray) (w : World)
  (h_s1 : Ret Tryz.prog w 5 #[.int .i64 1, .int .i64 0, .int .i64 1] (.agg #[.string A1, .string A2, .string A3]))
  (h_s2 : Ret Tryz.prog w 5 #[.int .i64 1, .int .i64 0, .int .i64 (-1)] (.agg #[.string S1, .string S2, .string S3]))
  (h_s3 : Ret Tryz.prog w 5 #[.int .i64 0, .int .i64 0, .int .i64 1] (.agg #[.string C1, .string C2, .string C3]))
  (h_s4 : Ret Tryz.prog w 5 #[.int .i64 0, .int .i64 1, .int .i64 0] (.agg #[.string D1, .string D2, .string D3]))
  (h_pa : Ret Tryz.prog w 13 #[.agg #[.string A1, .string A2, .string A3, .string ⟨#[48]⟩, .string S1, .string S2, .string S3]] (.tuple #[.string ⟨#[48]⟩, .string ⟨#[45, 49]⟩, .int .i64 0]))
  (h_ki : Ret Tryz.prog w 14 #[.agg #[.string A1, .string A2, .string A3, .string ⟨#[48]⟩, .string S1, .string S2, .string S3]] (.tuple #[.int .i64 1, .int .i64 0]))
  (h_so : Ret Tryz.prog w 15 #[.agg #[.string A1, .string A2, .string A3, .string ⟨#[48]⟩], .agg #[.string C1, .string C2, .string C3, .string ⟨#[48]⟩, .string ⟨#[45, 49]⟩], .agg #[.string D1, .string D2, .string D3, .string ⟨#[48]⟩, .string ⟨#[48]⟩]] (.tuple #[.agg #[.string S1, .string S2, .string S3], .int .i64 0])) :
  Calls Tryz.prog 4 #[] w fun e w' => e = .returned (.bool true) ∧ Below w.heap.size w w' := by
 have H_S1 := Lib.hid h_s1
 have H_S2 := Lib.hid h_s2
 have H_S3 := Lib.hid h_s3
 have H_S4 := Lib.hid h_s4
 have H_PA := Lib.hid h_pa
 have H_KI := Lib.hid h_ki
 have H_SO := Lib.hid h_so
 clear h_s1 h_s2 h_s3 h_s4 h_pa h_ki h_so
 have B := Lib.hid (Below.refl w.heap.size w)
 go_enter Tryz.func4, Tryz.ntmps4
 go_upto_region 1 with (fail)
 refine wp_tab [.v 11 (.agg #[.string A1, .string A2, .string A3]), .v 12 (.agg #[.string A1, .string A2, .string A3, .string ⟨#[48]⟩]), .v 13 (.agg #[.string S1, .string S2, .string S3]), .v 14 (.agg #[.string A1, .string A2, .string A3, .string ⟨#[48]⟩, .string S1, .string S2, .string S3]), .n 1, .z] [⟨4, 1, fun g => .pointer (some ⟨g, 0, none⟩), #[.string ⟨#[]⟩, .string ⟨#[]⟩, .string ⟨#[]⟩, .string ⟨#[]⟩, .string ⟨#[]⟩, .string ⟨#[]⟩, .string ⟨#[]⟩], 46, some (5, #[.string A1, .string A2, .string A3, .string ⟨#[48]⟩, .string S1, .string S2, .string S3])⟩] [] [] [(5, 4)] [] [] [] (by kernel_rfl) B.out trivial trivial ⟨cl H_S1.out, pu, cl H_S2.out, pu, ml 0, ?_, trivial⟩ ?_
 · intro L a U ho J hn d KK k; refine .free rfl ?_; have r1 : a.tmps[(1 : Nat)]?.getD undef = .pointer (some ⟨(blkOf (slotOf a 1)), 0, none⟩) := J.readN 0 rfl (d.get 4 rfl); have r14 := J.read 3 rfl (d.get 3 rfl); have kb := (J.nwB 0 rfl (d.get 4 rfl) hn).blk; have c0 := kb.at_ 0 _ rfl; have z0 := kb.free 0; have c1 := kb.at_ 1 _ rfl; have z1 := kb.free 1; have c2 := kb.at_ 2 _ rfl; have z2 := kb.free 2; have c3 := kb.at_ 3 _ rfl; have z3 := kb.free 3; have c4 := kb.at_ 4 _ rfl; have z4 := kb.free 4; have c5 := kb.at_ 5 _ rfl; have z5 := kb.free 5; have c6 := kb.at_ 6 _ rfl; have z6 := kb.free 6; clear kb; go_simp; exact k.out undef _ (J.storedN 5 0 rfl rfl rfl rfl rfl 0 [.string A1, .string A2, .string A3, .string ⟨#[48]⟩, .string S1, .string S2, .string S3] rfl trivial (d.get 4 rfl) hn ⟨.inr (d.get 4 rfl), trivial⟩)
 clear B
 rintro σ W1 ⟨⟨L0, K0⟩, _⟩ _ _ _ B
 simp only [slotsOf, finX, nval, nvalN, nvalA, Nat.reduceBEq, cond_true, cond_false, putAll, Act.put, List.setIfInBounds_toArray, List.set_cons_succ, List.set_cons_zero]
 generalize blkOf (σ 1) = g1_4 at *
 have c0_0 := K0.out.at_ 0 _ rfl
 have c0_1 := K0.out.at_ 1 _ rfl
 have c0_2 := K0.out.at_ 2 _ rfl
 have c0_3 := K0.out.at_ 3 _ rfl
 have c0_4 := K0.out.at_ 4 _ rfl
 have c0_5 := K0.out.at_ 5 _ rfl
 have c0_6 := K0.out.at_ 6 _ rfl
 go_upto_region 4 with (
  (first
  | (go_at_call 13; with_reducible refine (H_PA.out _ (baseI B.out)).mono ?_)
  | (go_at_call 14; with_reducible refine (H_KI.out _ (baseI B.out)).mono ?_)
  | fail "arm"); rintro e wx ⟨rfl, q⟩; replace K0 := Lib.hid (K0.out.nearI q); replace B := Lib.hid (goI B.out q); clear q; replace c0_0 := K0.out.at_ 0 _ rfl; replace c0_1 := K0.out.at_ 1 _ rfl; replace c0_2 := K0.out.at_ 2 _ rfl; replace c0_3 := K0.out.at_ 3 _ rfl; replace c0_4 := K0.out.at_ 4 _ rfl; replace c0_5 := K0.out.at_ 5 _ rfl; replace c0_6 := K0.out.at_ 6 _ rfl)
 clear c0_0 c0_1 c0_2 c0_3 c0_4 c0_5 c0_6
 have lt0 := K0.out.lt
 refine wp_tab [.v 26 (.agg #[.string C1, .string C2, .string C3]), .v 27 (.agg #[.string C1, .string C2, .string C3, .string ⟨#[48]⟩]), .v 28 (.agg #[.string D1, .string D2, .string D3]), .v 29 (.agg #[.string D1, .string D2, .string D3, .string ⟨#[48]⟩]), .n 7, .n 8, .z, .z] [⟨4, 7, fun g => .pointer (some ⟨g, 0, none⟩), #[.string ⟨#[]⟩, .string ⟨#[]⟩, .string ⟨#[]⟩, .string ⟨#[]⟩], 35, some (6, #[.string C1, .string C2, .string C3, .string ⟨#[48]⟩])⟩, ⟨5, 8, fun g => .pointer (some ⟨g, 0, none⟩), #[.string ⟨#[]⟩, .string ⟨#[]⟩, .string ⟨#[]⟩, .string ⟨#[]⟩], 35, some (7, #[.string D1, .string D2, .string D3, .string ⟨#[48]⟩])⟩] [⟨g1_4, #[.string A1, .string A2, .string A3, .string ⟨#[48]⟩, .string S1, .string S2, .string S3], 46, none⟩] [] [(6, 4), (7, 5)] [(0, 1)] [] [] (by kernel_rfl) B.out ⟨K0.out, trivial⟩ trivial ⟨cl H_S3.out, pu, cl H_S4.out, pu, ml 0, ml 1, ?_, ?_, trivial⟩ ?_
 · intro L a U ho J hn d KK k; refine .free rfl ?_; have r7 : a.tmps[(7 : Nat)]?.getD undef = .pointer (some ⟨(blkOf (slotOf a 7)), 0, none⟩) := J.readN 0 rfl (d.get 4 rfl); have r27 := J.read 1 rfl (d.get 1 rfl); have kb := (J.nwB 0 rfl (d.get 4 rfl) hn).blk; have c0 := kb.at_ 0 _ rfl; have z0 := kb.free 0; have c1 := kb.at_ 1 _ rfl; have z1 := kb.free 1; have c2 := kb.at_ 2 _ rfl; have z2 := kb.free 2; have c3 := kb.at_ 3 _ rfl; have z3 := kb.free 3; clear kb; go_simp; exact k.out undef _ (J.storedN 6 0 rfl rfl rfl rfl rfl 0 [.string C1, .string C2, .string C3, .string ⟨#[48]⟩] rfl ⟨lt0, trivial⟩ (d.get 4 rfl) hn ⟨.inr (d.get 4 rfl), .inl (by decide), trivial⟩)
 · intro L a U ho J hn d KK k; refine .free rfl ?_; have r8 : a.tmps[(8 : Nat)]?.getD undef = .pointer (some ⟨(blkOf (slotOf a 8)), 0, none⟩) := J.readN 1 rfl (d.get 5 rfl); have r29 := J.read 3 rfl (d.get 3 rfl); have kb := (J.nwB 1 rfl (d.get 5 rfl) hn).blk; have c0 := kb.at_ 0 _ rfl; have z0 := kb.free 0; have c1 := kb.at_ 1 _ rfl; have z1 := kb.free 1; have c2 := kb.at_ 2 _ rfl; have z2 := kb.free 2; have c3 := kb.at_ 3 _ rfl; have z3 := kb.free 3; clear kb; go_simp; exact k.out undef _ (J.storedN 7 1 rfl rfl rfl rfl rfl 0 [.string D1, .string D2, .string D3, .string ⟨#[48]⟩] rfl ⟨lt0, trivial⟩ (d.get 5 rfl) hn ⟨.inl (by decide), .inr (d.get 5 rfl), trivial⟩)
 clear K0 B lt0
 rintro σ W2 ⟨⟨L1, K1⟩, ⟨L2, K2⟩, _⟩ ⟨K0, _⟩ _ ⟨y0, _⟩ B
 have D1_2 : Hid (blkOf (σ 7) ≠ blkOf (σ 8)) := y0
 clear y0
 simp only [slotsOf, finX, nval, nvalN, nvalA, Nat.reduceBEq, cond_true, cond_false, putAll, Act.put, List.setIfInBounds_toArray, List.set_cons_succ, List.set_cons_zero]
 generalize blkOf (σ 7) = g2_4 at *
 generalize blkOf (σ 8) = g2_5 at *
 go_upto_region 5 with (fail)
 have lt0 := K0.out.lt
 have lt1 := K1.out.lt
 have lt2 := K2.out.lt
 refine wp_tab [.v 31 (.pointer (some ⟨g1_4, 0, none⟩)), .v 32 (.agg #[.string A1, .string A2, .string A3, .string ⟨#[48]⟩]), .v 33 (.agg #[.string C1, .string C2, .string C3, .string ⟨#[48]⟩]), .v 34 (.agg #[.string C1, .string C2, .string C3, .string ⟨#[48]⟩, .string ⟨#[45, 49]⟩]), .v 35 (.agg #[.string D1, .string D2, .string D3, .string ⟨#[48]⟩]), .v 36 (.agg #[.string D1, .string D2, .string D3, .string ⟨#[48]⟩, .string ⟨#[48]⟩]), .v 37 (.tuple #[.agg #[.string S1, .string S2, .string S3], .int .i64 0]), .v 30 (.tuple #[.agg #[.string S1, .string S2, .string S3], .int .i64 0]), .v 38 (.agg #[.string S1, .string S2, .string S3]), .v 39 (.int .i64 0), .n 9, .z, .v 10 (.int .i64 0)] [⟨10, 9, fun g => .pointer (some ⟨g, 0, none⟩), #[.string ⟨#[]⟩, .string ⟨#[]⟩, .string ⟨#[]⟩], 29, some (11, #[.string S1, .string S2, .string S3])⟩] [⟨g1_4, #[.string A1, .string A2, .string A3, .string ⟨#[48]⟩, .string S1, .string S2, .string S3], 46, none⟩, ⟨g2_4, #[.string C1, .string C2, .string C3, .string ⟨#[48]⟩], 35, none⟩, ⟨g2_5, #[.string D1, .string D2, .string D3, .string ⟨#[48]⟩], 35, none⟩] [] [(11, 10)] [] [] [] (by kernel_rfl) B.out ⟨K0.out, K1.out, K2.out, trivial⟩ trivial ⟨pu, ld 0 0, ld 1 0, pu, ld 2 0, pu, cl H_SO.out, pu, pu, pu, ml 0, ?_, pu, trivial⟩ ?_
 · intro L a U ho J hn d KK k; refine .free rfl ?_; have r9 : a.tmps[(9 : Nat)]?.getD undef = .pointer (some ⟨(blkOf (slotOf a 9)), 0, none⟩) := J.readN 0 rfl (d.get 10 rfl); have r38 := J.read 8 rfl (d.get 8 rfl); have kb := (J.nwB 0 rfl (d.get 10 rfl) hn).blk; have c0 := kb.at_ 0 _ rfl; have z0 := kb.free 0; have c1 := kb.at_ 1 _ rfl; have z1 := kb.free 1; have c2 := kb.at_ 2 _ rfl; have z2 := kb.free 2; clear kb; go_simp; exact k.out undef _ (J.storedN 11 0 rfl rfl rfl rfl rfl 0 [.string S1, .string S2, .string S3] rfl ⟨lt0, lt1, lt2, trivial⟩ (d.get 10 rfl) hn ⟨.inr (d.get 10 rfl), trivial⟩)
 clear K0 K1 K2 B lt0 lt1 lt2
 rintro σ W3 ⟨⟨L3, K3⟩, _⟩ ⟨K0, K1, K2, _⟩ _ _ B
 simp only [slotsOf, finX, nval, nvalN, nvalA, Nat.reduceBEq, cond_true, cond_false, putAll, Act.put, List.setIfInBounds_toArray, List.set_cons_succ, List.set_cons_zero]
 generalize blkOf (σ 9) = g3_10 at *
 have c0_4 := K0.out.at_ 4 _ rfl
 have c0_5 := K0.out.at_ 5 _ rfl
 have c0_6 := K0.out.at_ 6 _ rfl
 have c3_0 := K3.out.at_ 0 _ rfl
 have c3_1 := K3.out.at_ 1 _ rfl
 have c3_2 := K3.out.at_ 2 _ rfl
 go_wp2
 clear c0_4 c0_5 c0_6 c3_0 c3_1 c3_2
 go_ret
 exact ⟨rfl, B.out⟩

end Go.Proofs.YtnallacamijkeaaGreatDoor
