/- The walks of package slip, over texts: Solve. -/
import Derived.Test.YtnallacamijkeaaGreatDoorShelf
import Derived.Test.YtnallacamijkeaaGreatDoorGPar
import Derived.Deep.RegionHeld3
import Derived.Laws.ResultCell
import Derived.Deep.Cut
import Derived.Deep.CutRange
import Derived.Deep.DeepCutAuto
import Derived.Outline
namespace Go.Proofs.YtnallacamijkeaaGreatDoor
set_option linter.all false
open Go.RowKit

set_option maxRecDepth 100000 in
set_option maxHeartbeats 8000000 in
theorem ssolve_of (A1 A2 A3 A0 C1 C2 C3 C0 M1 D1 D2 D3 D0 M2 X2 X3 O1 O2 O3 : ByteArray) (e1 e2 e3 e4 e5 ef ez : Int) (ok : Bool) (res : Value) (w : World)
  (r1 : ¬ ef = 0 → res = .tuple #[.agg #[.string ⟨#[]⟩, .string ⟨#[]⟩, .string ⟨#[]⟩], .int .i64 ef])
  (r2 : ef = 0 → ¬ ez = 0 → res = .tuple #[.agg #[.string ⟨#[]⟩, .string ⟨#[]⟩, .string ⟨#[]⟩], .int .i64 ez])
  (r3 : ef = 0 → ez = 0 → ¬ ok = true → res = .tuple #[.agg #[.string ⟨#[]⟩, .string ⟨#[]⟩, .string ⟨#[]⟩], .int .i64 18])
  (r4 : ef = 0 → ez = 0 → ok = true → res = .tuple #[.agg #[.string O1, .string O2, .string O3], .int .i64 0])
  (h_p1 : Ret Tryz.prog w 22 #[.agg #[.string A1, .string A2, .string A3, .string A0]] (.int .i64 e1))
  (h_p2 : Ret Tryz.prog w 22 #[.agg #[.string C1, .string C2, .string C3, .string C0]] (.int .i64 e2))
  (h_n1 : ∀ (W : World) (b0 : Nat), Blk W b0 #[.string M1] 27 → Below w.heap.size w W → Calls Tryz.prog 21 #[.slice (some ⟨b0, 0, none⟩) 1 1] W fun e w' => e = .returned (.int .i64 e3) ∧ Below W.heap.size W w')
  (h_p3 : Ret Tryz.prog w 22 #[.agg #[.string D1, .string D2, .string D3, .string D0]] (.int .i64 e4))
  (h_n2 : ∀ (W : World) (b0 : Nat), Blk W b0 #[.string M2] 27 → Below w.heap.size w W → Calls Tryz.prog 21 #[.slice (some ⟨b0, 0, none⟩) 1 1] W fun e w' => e = .returned (.int .i64 e5) ∧ Below W.heap.size W w')
  (h_f1 : ∀ (W : World) (b0 : Nat), Blk W b0 #[.int .i64 e1, .int .i64 e2, .int .i64 e3, .int .i64 e4, .int .i64 e5] 38 → Below w.heap.size w W → Calls Tryz.prog 19 #[.slice (some ⟨b0, 0, none⟩) 5 5] W fun e w' => e = .returned (.int .i64 ef) ∧ Below W.heap.size W w')
  (h_z1 : ef = 0 → ∀ (W : World) (b0 : Nat), Blk W b0 #[.string A1, .string A2, .string A3, .string C1, .string C2, .string C3, .string D1, .string D2, .string D3] 29 → Below w.heap.size w W → Calls Tryz.prog 23 #[.slice (some ⟨b0, 0, none⟩) 3 3] W fun e w' => e = .returned (.int .i64 ez) ∧ Below W.heap.size W w')
  (h_u1 : ef = 0 ∧ ez = 0 → Ret Tryz.prog w 28 #[.string M1, .string C0] (.string X2))
  (h_u2 : ef = 0 ∧ ez = 0 → Ret Tryz.prog w 28 #[.string M2, .string D0] (.string X3))
  (h_mt : ef = 0 ∧ ez = 0 ∧ ok = true → Ret Tryz.prog w 42 #[.agg #[.string A1, .string A2, .string A3, .string C1, .string C2, .string C3, .string D1, .string D2, .string D3], .agg #[.string ⟨#[48]⟩, .string X2, .string X3]] (.tuple #[.agg #[.string O1, .string O2, .string O3], .bool true]))
  (h_mf : ef = 0 ∧ ez = 0 ∧ ¬ ok = true → Ret Tryz.prog w 42 #[.agg #[.string A1, .string A2, .string A3, .string C1, .string C2, .string C3, .string D1, .string D2, .string D3], .agg #[.string ⟨#[48]⟩, .string X2, .string X3]] (.tuple #[.agg #[.string ⟨#[]⟩, .string ⟨#[]⟩, .string ⟨#[]⟩], .bool false]))
  (h_sv : ef = 0 ∧ ez = 0 ∧ ok = true → Ret Tryz.prog w 43 #[.agg #[.string O1, .string O2, .string O3]] (.tuple #[.agg #[.string O1, .string O2, .string O3], .int .i64 0])) :
  Calls Tryz.prog 15 #[.agg #[.string A1, .string A2, .string A3, .string A0], .agg #[.string C1, .string C2, .string C3, .string C0, .string M1], .agg #[.string D1, .string D2, .string D3, .string D0, .string M2]] w fun e w' => e = .returned (res) ∧ Below w.heap.size w w' := by
 have H_P1 := Lib.hid h_p1
 have H_P2 := Lib.hid h_p2
 have H_N1 := Lib.hid h_n1
 have H_P3 := Lib.hid h_p3
 have H_N2 := Lib.hid h_n2
 have H_F1 := Lib.hid h_f1
 clear h_p1 h_p2 h_n1 h_p3 h_n2 h_f1
 have B := Lib.hid (Below.refl w.heap.size w)
 go_enter Tryz.func15, Tryz.ntmps15
 go_upto_region 0 with (fail)
 refine wp_tab [.n 3, .n 4, .n 5, .n 6, .v 7 (.int .i64 0)] [⟨0, 3, fun g => .pointer (some ⟨g, 0, none⟩), #[.string A1, .string A2, .string A3, .string A0], 35, none⟩, ⟨1, 4, fun g => .pointer (some ⟨g, 0, none⟩), #[.string C1, .string C2, .string C3, .string C0, .string M1], 54, none⟩, ⟨2, 5, fun g => .pointer (some ⟨g, 0, none⟩), #[.string D1, .string D2, .string D3, .string D0, .string M2], 54, none⟩, ⟨3, 6, fun g => .pointer (some ⟨g, 0, none⟩), #[.string ⟨#[]⟩, .string ⟨#[]⟩, .string ⟨#[]⟩], 29, none⟩] [] [] [] [(0, 3), (1, 3), (2, 3)] [] [] (by kernel_rfl) B.out trivial trivial ⟨ml 0, ml 1, ml 2, ml 3, pu, trivial⟩ ?_
 clear B
 rintro σ W1 ⟨⟨L0, K0⟩, ⟨L1, K1⟩, ⟨L2, K2⟩, ⟨L3, K3⟩, _⟩ _ _ ⟨y0, y1, y2, _⟩ B
 have D0_3 : Hid (blkOf (σ 3) ≠ blkOf (σ 6)) := y0
 have D1_3 : Hid (blkOf (σ 4) ≠ blkOf (σ 6)) := y1
 have D2_3 : Hid (blkOf (σ 5) ≠ blkOf (σ 6)) := y2
 clear y0 y1 y2
 simp only [slotsOf, finX, nval, nvalN, nvalA, Nat.reduceBEq, cond_true, cond_false, putAll, Act.put, List.setIfInBounds_toArray, List.set_cons_succ, List.set_cons_zero]
 generalize blkOf (σ 3) = g1_0 at *
 generalize blkOf (σ 4) = g1_1 at *
 generalize blkOf (σ 5) = g1_2 at *
 generalize blkOf (σ 6) = g1_3 at *
 go_upto_region 1 with (fail)
 refine wp_tab [.v 13 (.agg #[.string A1, .string A2, .string A3, .string A0]), .v 14 (.int .i64 e1), .v 15 (.pointer (some ⟨g1_1, 0, none⟩)), .v 16 (.agg #[.string C1, .string C2, .string C3, .string C0]), .v 17 (.int .i64 e2), .v 18 (.pointer (some ⟨g1_1, 4, none⟩)), .v 19 (.string M1), .n 20, .v 21 (.int .i64 e3), .v 22 (.pointer (some ⟨g1_2, 0, none⟩)), .v 23 (.agg #[.string D1, .string D2, .string D3, .string D0]), .v 24 (.int .i64 e4), .v 25 (.pointer (some ⟨g1_2, 4, none⟩)), .v 26 (.string M2), .n 27, .v 28 (.int .i64 e5), .n 29, .v 30 (.int .i64 ef), .v 8 (.int .i64 ef)] [⟨7, 20, fun g => .slice (some ⟨g, 0, none⟩) 1 1, #[.string M1], 27, none⟩, ⟨14, 27, fun g => .slice (some ⟨g, 0, none⟩) 1 1, #[.string M2], 27, none⟩, ⟨16, 29, fun g => .slice (some ⟨g, 0, none⟩) 5 5, #[.int .i64 e1, .int .i64 e2, .int .i64 e3, .int .i64 e4, .int .i64 e5], 38, none⟩] [⟨g1_0, #[.string A1, .string A2, .string A3, .string A0], 35, none⟩, ⟨g1_1, #[.string C1, .string C2, .string C3, .string C0, .string M1], 54, none⟩, ⟨g1_2, #[.string D1, .string D2, .string D3, .string D0, .string M2], 54, none⟩, ⟨g1_3, #[.string ⟨#[]⟩, .string ⟨#[]⟩, .string ⟨#[]⟩], 29, none⟩] [] [] [] [(3, 0), (3, 1), (3, 2)] [] (by kernel_rfl) B.out ⟨K0.out, K1.out, K2.out, K3.out, trivial⟩ trivial ⟨ld 0 0, cl H_P1.out, pu, ld 1 0, cl H_P2.out, pu, ld 1 4, ml 0, c1 0 H_N1.out, pu, ld 2 0, cl H_P3.out, pu, ld 2 4, ml 1, c1 1 H_N2.out, ml 2, c1 2 H_F1.out, pu, trivial⟩ ?_
 clear K0 K1 K2 K3 B
 rintro σ W2 ⟨⟨L4, K4⟩, ⟨L5, K5⟩, ⟨L6, K6⟩, _⟩ ⟨K0, K1, K2, K3, _⟩ ⟨x0, x1, x2, _⟩ _ B
 have D3_4 : Hid (g1_3 ≠ blkOf (σ 20)) := x0
 have D3_5 : Hid (g1_3 ≠ blkOf (σ 27)) := x1
 have D3_6 : Hid (g1_3 ≠ blkOf (σ 29)) := x2
 clear x0 x1 x2
 simp only [slotsOf, finX, nval, nvalN, nvalA, Nat.reduceBEq, cond_true, cond_false, putAll, Act.put, List.setIfInBounds_toArray, List.set_cons_succ, List.set_cons_zero]
 generalize blkOf (σ 20) = g2_7 at *
 generalize blkOf (σ 27) = g2_14 at *
 generalize blkOf (σ 29) = g2_16 at *
 go_upto_region 2 with (fail)
 by_cases hef : ef = 0
 ·
  have qef : (ef != 0) = false := by simp [hef]
  have H_Z1 := Lib.hid (h_z1 hef)
  clear h_z1
  go_upto_region 4 with (fail)
  refine wp_tab [.v 35 (.pointer (some ⟨g1_0, 0, none⟩)), .v 36 (.agg #[.string A1, .string A2, .string A3]), .v 37 (.pointer (some ⟨g1_1, 0, none⟩)), .v 38 (.pointer (some ⟨g1_1, 0, none⟩)), .v 39 (.agg #[.string C1, .string C2, .string C3]), .v 40 (.pointer (some ⟨g1_2, 0, none⟩)), .v 41 (.pointer (some ⟨g1_2, 0, none⟩)), .v 42 (.agg #[.string D1, .string D2, .string D3]), .n 43, .v 44 (.int .i64 ez), .v 9 (.int .i64 ez)] [⟨8, 43, fun g => .slice (some ⟨g, 0, none⟩) 3 3, #[.string A1, .string A2, .string A3, .string C1, .string C2, .string C3, .string D1, .string D2, .string D3], 29, none⟩] [⟨g1_0, #[.string A1, .string A2, .string A3, .string A0], 35, none⟩, ⟨g1_1, #[.string C1, .string C2, .string C3, .string C0, .string M1], 54, none⟩, ⟨g1_2, #[.string D1, .string D2, .string D3, .string D0, .string M2], 54, none⟩, ⟨g1_3, #[.string ⟨#[]⟩, .string ⟨#[]⟩, .string ⟨#[]⟩], 29, none⟩, ⟨g2_7, #[.string M1], 27, none⟩, ⟨g2_14, #[.string M2], 27, none⟩, ⟨g2_16, #[.int .i64 e1, .int .i64 e2, .int .i64 e3, .int .i64 e4, .int .i64 e5], 38, none⟩] [] [] [] [(3, 0)] [] (by kernel_rfl) B.out ⟨K0.out, K1.out, K2.out, K3.out, K4.out, K5.out, K6.out, trivial⟩ trivial ⟨pu, ld 0 0, pu, pu, ld 1 0, pu, pu, ld 2 0, ml 0, c1 0 H_Z1.out, pu, trivial⟩ ?_
  clear K0 K1 K2 K3 K4 K5 K6 B
  rintro σ W3 ⟨⟨L7, K7⟩, _⟩ ⟨K0, K1, K2, K3, K4, K5, K6, _⟩ ⟨x0, _⟩ _ B
  have D3_7 : Hid (g1_3 ≠ blkOf (σ 43)) := x0
  clear x0
  simp only [slotsOf, finX, nval, nvalN, nvalA, Nat.reduceBEq, cond_true, cond_false, putAll, Act.put, List.setIfInBounds_toArray, List.set_cons_succ, List.set_cons_zero]
  generalize blkOf (σ 43) = g3_8 at *
  go_upto_region 5 with (fail)
  by_cases hez : ez = 0
  ·
   have qez : (ez != 0) = false := by simp [hez]
   have H_U1 := Lib.hid (h_u1 ⟨hef, hez⟩)
   have H_U2 := Lib.hid (h_u2 ⟨hef, hez⟩)
   clear h_u1 h_u2
   go_upto_region 7 with (fail)
   have lt0 := K0.out.lt
   have lt1 := K1.out.lt
   have lt2 := K2.out.lt
   have lt3 := K3.out.lt
   have lt4 := K4.out.lt
   have lt5 := K5.out.lt
   have lt6 := K6.out.lt
   have lt7 := K7.out.lt
   refine wp_tab [.v 49 (.pointer (some ⟨g1_1, 4, none⟩)), .v 50 (.string M1), .v 51 (.pointer (some ⟨g1_1, 0, none⟩)), .v 52 (.pointer (some ⟨g1_1, 3, none⟩)), .v 53 (.string C0), .v 54 (.string X2), .v 55 (.pointer (some ⟨g1_2, 4, none⟩)), .v 56 (.string M2), .v 57 (.pointer (some ⟨g1_2, 0, none⟩)), .v 58 (.pointer (some ⟨g1_2, 3, none⟩)), .v 59 (.string D0), .v 60 (.string X3), .v 61 (.agg #[.string ⟨#[48]⟩, .string X2, .string X3]), .n 10, .z] [⟨13, 10, fun g => .pointer (some ⟨g, 0, none⟩), #[.string ⟨#[]⟩, .string ⟨#[]⟩, .string ⟨#[]⟩], 77, some (14, #[.string ⟨#[48]⟩, .string X2, .string X3])⟩] [⟨g1_0, #[.string A1, .string A2, .string A3, .string A0], 35, none⟩, ⟨g1_1, #[.string C1, .string C2, .string C3, .string C0, .string M1], 54, none⟩, ⟨g1_2, #[.string D1, .string D2, .string D3, .string D0, .string M2], 54, none⟩, ⟨g1_3, #[.string ⟨#[]⟩, .string ⟨#[]⟩, .string ⟨#[]⟩], 29, none⟩, ⟨g2_7, #[.string M1], 27, none⟩, ⟨g2_14, #[.string M2], 27, none⟩, ⟨g2_16, #[.int .i64 e1, .int .i64 e2, .int .i64 e3, .int .i64 e4, .int .i64 e5], 38, none⟩, ⟨g3_8, #[.string A1, .string A2, .string A3, .string C1, .string C2, .string C3, .string D1, .string D2, .string D3], 29, none⟩] [] [(14, 13)] [] [(3, 0)] [] (by kernel_rfl) B.out ⟨K0.out, K1.out, K2.out, K3.out, K4.out, K5.out, K6.out, K7.out, trivial⟩ trivial ⟨pu, ld 1 4, pu, pu, ld 1 3, cl H_U1.out, pu, ld 2 4, pu, pu, ld 2 3, cl H_U2.out, pu, ml 0, ?_, trivial⟩ ?_
   · intro L a U ho J hn d KK k; refine .free rfl ?_; have r10 : a.tmps[(10 : Nat)]?.getD undef = .pointer (some ⟨(blkOf (slotOf a 10)), 0, none⟩) := J.readN 0 rfl (d.get 13 rfl); have r61 := J.read 12 rfl (d.get 12 rfl); have kb := (J.nwB 0 rfl (d.get 13 rfl) hn).blk; have c0 := kb.at_ 0 _ rfl; have z0 := kb.free 0; have c1 := kb.at_ 1 _ rfl; have z1 := kb.free 1; have c2 := kb.at_ 2 _ rfl; have z2 := kb.free 2; clear kb; go_simp; exact k.out undef _ (J.storedN 14 0 rfl rfl rfl rfl rfl 0 [.string ⟨#[48]⟩, .string X2, .string X3] rfl ⟨lt0, lt1, lt2, lt3, lt4, lt5, lt6, lt7, trivial⟩ (d.get 13 rfl) hn ⟨.inr (d.get 13 rfl), trivial⟩)
   clear K0 K1 K2 K3 K4 K5 K6 K7 B lt0 lt1 lt2 lt3 lt4 lt5 lt6 lt7
   rintro σ W4 ⟨⟨L8, K8⟩, _⟩ ⟨K0, K1, K2, K3, K4, K5, K6, K7, _⟩ ⟨x0, _⟩ _ B
   have D3_8 : Hid (g1_3 ≠ blkOf (σ 10)) := x0
   clear x0
   simp only [slotsOf, finX, nval, nvalN, nvalA, Nat.reduceBEq, cond_true, cond_false, putAll, Act.put, List.setIfInBounds_toArray, List.set_cons_succ, List.set_cons_zero]
   generalize blkOf (σ 10) = g4_13 at *
   go_upto_region 8 with (fail)
   by_cases hok : ok = true
   ·
    have H_MT := Lib.hid (h_mt ⟨hef, hez, hok⟩)
    have H_SV := Lib.hid (h_sv ⟨hef, hez, hok⟩)
    clear h_mt h_sv
    go_upto_region 8 with (fail)
    have lt0 := K0.out.lt
    have lt1 := K1.out.lt
    have lt2 := K2.out.lt
    have lt3 := K3.out.lt
    have lt4 := K4.out.lt
    have lt5 := K5.out.lt
    have lt6 := K6.out.lt
    have lt7 := K7.out.lt
    have lt8 := K8.out.lt
    refine wp_tab [.v 63 (.pointer (some ⟨g1_0, 0, none⟩)), .v 64 (.agg #[.string A1, .string A2, .string A3]), .v 65 (.pointer (some ⟨g1_1, 0, none⟩)), .v 66 (.pointer (some ⟨g1_1, 0, none⟩)), .v 67 (.agg #[.string C1, .string C2, .string C3]), .v 68 (.pointer (some ⟨g1_2, 0, none⟩)), .v 69 (.pointer (some ⟨g1_2, 0, none⟩)), .v 70 (.agg #[.string D1, .string D2, .string D3]), .v 71 (.agg #[.string A1, .string A2, .string A3, .string C1, .string C2, .string C3, .string D1, .string D2, .string D3]), .v 72 (.agg #[.string ⟨#[48]⟩, .string X2, .string X3]), .v 73 (.tuple #[.agg #[.string O1, .string O2, .string O3], .bool true]), .v 62 (.tuple #[.agg #[.string O1, .string O2, .string O3], .bool true]), .v 74 (.agg #[.string O1, .string O2, .string O3]), .v 75 (.bool true), .n 11, .z, .v 12 (.bool true)] [⟨14, 11, fun g => .pointer (some ⟨g, 0, none⟩), #[.string ⟨#[]⟩, .string ⟨#[]⟩, .string ⟨#[]⟩], 29, some (15, #[.string O1, .string O2, .string O3])⟩] [⟨g1_0, #[.string A1, .string A2, .string A3, .string A0], 35, none⟩, ⟨g1_1, #[.string C1, .string C2, .string C3, .string C0, .string M1], 54, none⟩, ⟨g1_2, #[.string D1, .string D2, .string D3, .string D0, .string M2], 54, none⟩, ⟨g1_3, #[.string ⟨#[]⟩, .string ⟨#[]⟩, .string ⟨#[]⟩], 29, none⟩, ⟨g2_7, #[.string M1], 27, none⟩, ⟨g2_14, #[.string M2], 27, none⟩, ⟨g2_16, #[.int .i64 e1, .int .i64 e2, .int .i64 e3, .int .i64 e4, .int .i64 e5], 38, none⟩, ⟨g3_8, #[.string A1, .string A2, .string A3, .string C1, .string C2, .string C3, .string D1, .string D2, .string D3], 29, none⟩, ⟨g4_13, #[.string ⟨#[48]⟩, .string X2, .string X3], 77, none⟩] [] [(15, 14)] [] [(3, 0)] [] (by kernel_rfl) B.out ⟨K0.out, K1.out, K2.out, K3.out, K4.out, K5.out, K6.out, K7.out, K8.out, trivial⟩ trivial ⟨pu, ld 0 0, pu, pu, ld 1 0, pu, pu, ld 2 0, pu, ld 8 0, cl H_MT.out, pu, pu, pu, ml 0, ?_, pu, trivial⟩ ?_
    · intro L a U ho J hn d KK k; refine .free rfl ?_; have r11 : a.tmps[(11 : Nat)]?.getD undef = .pointer (some ⟨(blkOf (slotOf a 11)), 0, none⟩) := J.readN 0 rfl (d.get 14 rfl); have r74 := J.read 12 rfl (d.get 12 rfl); have kb := (J.nwB 0 rfl (d.get 14 rfl) hn).blk; have c0 := kb.at_ 0 _ rfl; have z0 := kb.free 0; have c1 := kb.at_ 1 _ rfl; have z1 := kb.free 1; have c2 := kb.at_ 2 _ rfl; have z2 := kb.free 2; clear kb; go_simp; exact k.out undef _ (J.storedN 15 0 rfl rfl rfl rfl rfl 0 [.string O1, .string O2, .string O3] rfl ⟨lt0, lt1, lt2, lt3, lt4, lt5, lt6, lt7, lt8, trivial⟩ (d.get 14 rfl) hn ⟨.inr (d.get 14 rfl), trivial⟩)
    clear K0 K1 K2 K3 K4 K5 K6 K7 K8 B lt0 lt1 lt2 lt3 lt4 lt5 lt6 lt7 lt8
    rintro σ W5 ⟨⟨L9, K9⟩, _⟩ ⟨K0, K1, K2, K3, K4, K5, K6, K7, K8, _⟩ ⟨x0, _⟩ _ B
    have D3_9 : Hid (g1_3 ≠ blkOf (σ 11)) := x0
    clear x0
    simp only [slotsOf, finX, nval, nvalN, nvalA, Nat.reduceBEq, cond_true, cond_false, putAll, Act.put, List.setIfInBounds_toArray, List.set_cons_succ, List.set_cons_zero]
    generalize blkOf (σ 11) = g5_14 at *
    go_upto_region 11 with (fail)
    have lt0 := K0.out.lt
    have lt1 := K1.out.lt
    have lt2 := K2.out.lt
    have lt3 := K3.out.lt
    have lt4 := K4.out.lt
    have lt5 := K5.out.lt
    have lt6 := K6.out.lt
    have lt7 := K7.out.lt
    have lt8 := K8.out.lt
    have lt9 := K9.out.lt
    refine wp_tab [.v 79 (.agg #[.string O1, .string O2, .string O3]), .v 80 (.tuple #[.agg #[.string O1, .string O2, .string O3], .int .i64 0]), .v 81 (.agg #[.string O1, .string O2, .string O3]), .v 82 (.int .i64 0), .z, .v 7 (.int .i64 0)] [] [⟨g1_0, #[.string A1, .string A2, .string A3, .string A0], 35, none⟩, ⟨g1_1, #[.string C1, .string C2, .string C3, .string C0, .string M1], 54, none⟩, ⟨g1_2, #[.string D1, .string D2, .string D3, .string D0, .string M2], 54, none⟩, ⟨g1_3, #[.string ⟨#[]⟩, .string ⟨#[]⟩, .string ⟨#[]⟩], 29, some (4, #[.string O1, .string O2, .string O3])⟩, ⟨g2_7, #[.string M1], 27, none⟩, ⟨g2_14, #[.string M2], 27, none⟩, ⟨g2_16, #[.int .i64 e1, .int .i64 e2, .int .i64 e3, .int .i64 e4, .int .i64 e5], 38, none⟩, ⟨g3_8, #[.string A1, .string A2, .string A3, .string C1, .string C2, .string C3, .string D1, .string D2, .string D3], 29, none⟩, ⟨g4_13, #[.string ⟨#[48]⟩, .string X2, .string X3], 77, none⟩, ⟨g5_14, #[.string O1, .string O2, .string O3], 29, none⟩] [] [] [] [] [] (by kernel_rfl) B.out ⟨K0.out, K1.out, K2.out, K3.out, K4.out, K5.out, K6.out, K7.out, K8.out, K9.out, trivial⟩ trivial ⟨ld 9 0, cl H_SV.out, pu, pu, ?_, pu, trivial⟩ ?_
    · intro L a U ho J hn d KK k; refine .free rfl ?_; have r6 : a.tmps[(6 : Nat)]?.getD undef = .pointer (some ⟨g1_3, 0, none⟩) := ho.slot 6 rfl; have r81 := J.read 2 rfl (d.get 2 rfl); have kb := (J.eldB 3 rfl hn); have c0 := kb.at_ 0 _ rfl; have z0 := kb.free 0; have c1 := kb.at_ 1 _ rfl; have z1 := kb.free 1; have c2 := kb.at_ 2 _ rfl; have z2 := kb.free 2; clear kb; go_simp; exact k.out undef _ (J.stored 4 3 rfl rfl (.inl rfl) rfl rfl 0 [.string O1, .string O2, .string O3] rfl L3.out lt3 ⟨.inr D0_3.out, .inr D1_3.out, .inr D2_3.out, .inl rfl, .inr (Ne.symm D3_4.out), .inr (Ne.symm D3_5.out), .inr (Ne.symm D3_6.out), .inr (Ne.symm D3_7.out), .inr (Ne.symm D3_8.out), .inr (Ne.symm D3_9.out), trivial⟩ hn trivial)
    clear K0 K1 K2 K3 K4 K5 K6 K7 K8 K9 B lt0 lt1 lt2 lt3 lt4 lt5 lt6 lt7 lt8 lt9
    rintro σ W6 _ ⟨K0, K1, K2, K3, K4, K5, K6, K7, K8, K9, _⟩ _ _ B
    simp only [slotsOf, finX, nval, nvalN, nvalA, Nat.reduceBEq, cond_true, cond_false, putAll, Act.put, List.setIfInBounds_toArray, List.set_cons_succ, List.set_cons_zero]
    go_wp2
    have c3_0 := K3.out.at_ 0 _ rfl
    have c3_1 := K3.out.at_ 1 _ rfl
    have c3_2 := K3.out.at_ 2 _ rfl
    exact bodyPost_ret (v := .tuple #[.agg #[.string O1, .string O2, .string O3], .int .i64 0]) (by simp [results, Tryz.results15, go_sem, c3_0, c3_1, c3_2]) rfl ⟨by first | rfl | (rw [r4 hef hez hok] <;> rfl), B.out⟩
   ·
    have H_MF := Lib.hid (h_mf ⟨hef, hez, hok⟩)
    clear h_mf
    go_upto_region 8 with (fail)
    have lt0 := K0.out.lt
    have lt1 := K1.out.lt
    have lt2 := K2.out.lt
    have lt3 := K3.out.lt
    have lt4 := K4.out.lt
    have lt5 := K5.out.lt
    have lt6 := K6.out.lt
    have lt7 := K7.out.lt
    have lt8 := K8.out.lt
    refine wp_tab [.v 63 (.pointer (some ⟨g1_0, 0, none⟩)), .v 64 (.agg #[.string A1, .string A2, .string A3]), .v 65 (.pointer (some ⟨g1_1, 0, none⟩)), .v 66 (.pointer (some ⟨g1_1, 0, none⟩)), .v 67 (.agg #[.string C1, .string C2, .string C3]), .v 68 (.pointer (some ⟨g1_2, 0, none⟩)), .v 69 (.pointer (some ⟨g1_2, 0, none⟩)), .v 70 (.agg #[.string D1, .string D2, .string D3]), .v 71 (.agg #[.string A1, .string A2, .string A3, .string C1, .string C2, .string C3, .string D1, .string D2, .string D3]), .v 72 (.agg #[.string ⟨#[48]⟩, .string X2, .string X3]), .v 73 (.tuple #[.agg #[.string ⟨#[]⟩, .string ⟨#[]⟩, .string ⟨#[]⟩], .bool false]), .v 62 (.tuple #[.agg #[.string ⟨#[]⟩, .string ⟨#[]⟩, .string ⟨#[]⟩], .bool false]), .v 74 (.agg #[.string ⟨#[]⟩, .string ⟨#[]⟩, .string ⟨#[]⟩]), .v 75 (.bool false), .n 11, .z, .v 12 (.bool false)] [⟨14, 11, fun g => .pointer (some ⟨g, 0, none⟩), #[.string ⟨#[]⟩, .string ⟨#[]⟩, .string ⟨#[]⟩], 29, some (15, #[.string ⟨#[]⟩, .string ⟨#[]⟩, .string ⟨#[]⟩])⟩] [⟨g1_0, #[.string A1, .string A2, .string A3, .string A0], 35, none⟩, ⟨g1_1, #[.string C1, .string C2, .string C3, .string C0, .string M1], 54, none⟩, ⟨g1_2, #[.string D1, .string D2, .string D3, .string D0, .string M2], 54, none⟩, ⟨g1_3, #[.string ⟨#[]⟩, .string ⟨#[]⟩, .string ⟨#[]⟩], 29, none⟩, ⟨g2_7, #[.string M1], 27, none⟩, ⟨g2_14, #[.string M2], 27, none⟩, ⟨g2_16, #[.int .i64 e1, .int .i64 e2, .int .i64 e3, .int .i64 e4, .int .i64 e5], 38, none⟩, ⟨g3_8, #[.string A1, .string A2, .string A3, .string C1, .string C2, .string C3, .string D1, .string D2, .string D3], 29, none⟩, ⟨g4_13, #[.string ⟨#[48]⟩, .string X2, .string X3], 77, none⟩] [] [(15, 14)] [] [(3, 0)] [] (by kernel_rfl) B.out ⟨K0.out, K1.out, K2.out, K3.out, K4.out, K5.out, K6.out, K7.out, K8.out, trivial⟩ trivial ⟨pu, ld 0 0, pu, pu, ld 1 0, pu, pu, ld 2 0, pu, ld 8 0, cl H_MF.out, pu, pu, pu, ml 0, ?_, pu, trivial⟩ ?_
    · intro L a U ho J hn d KK k; refine .free rfl ?_; have r11 : a.tmps[(11 : Nat)]?.getD undef = .pointer (some ⟨(blkOf (slotOf a 11)), 0, none⟩) := J.readN 0 rfl (d.get 14 rfl); have r74 := J.read 12 rfl (d.get 12 rfl); have kb := (J.nwB 0 rfl (d.get 14 rfl) hn).blk; have c0 := kb.at_ 0 _ rfl; have z0 := kb.free 0; have c1 := kb.at_ 1 _ rfl; have z1 := kb.free 1; have c2 := kb.at_ 2 _ rfl; have z2 := kb.free 2; clear kb; go_simp; exact k.out undef _ (J.storedN 15 0 rfl rfl rfl rfl rfl 0 [.string ⟨#[]⟩, .string ⟨#[]⟩, .string ⟨#[]⟩] rfl ⟨lt0, lt1, lt2, lt3, lt4, lt5, lt6, lt7, lt8, trivial⟩ (d.get 14 rfl) hn ⟨.inr (d.get 14 rfl), trivial⟩)
    clear K0 K1 K2 K3 K4 K5 K6 K7 K8 B lt0 lt1 lt2 lt3 lt4 lt5 lt6 lt7 lt8
    rintro σ W5 ⟨⟨L9, K9⟩, _⟩ ⟨K0, K1, K2, K3, K4, K5, K6, K7, K8, _⟩ ⟨x0, _⟩ _ B
    have D3_9 : Hid (g1_3 ≠ blkOf (σ 11)) := x0
    clear x0
    simp only [slotsOf, finX, nval, nvalN, nvalA, Nat.reduceBEq, cond_true, cond_false, putAll, Act.put, List.setIfInBounds_toArray, List.set_cons_succ, List.set_cons_zero]
    generalize blkOf (σ 11) = g5_14 at *
    go_upto_region 10 with (fail)
    have lt0 := K0.out.lt
    have lt1 := K1.out.lt
    have lt2 := K2.out.lt
    have lt3 := K3.out.lt
    have lt4 := K4.out.lt
    have lt5 := K5.out.lt
    have lt6 := K6.out.lt
    have lt7 := K7.out.lt
    have lt8 := K8.out.lt
    have lt9 := K9.out.lt
    refine wp_tab [.v 78 (.agg #[.string ⟨#[]⟩, .string ⟨#[]⟩, .string ⟨#[]⟩]), .z, .v 7 (.int .i64 18)] [] [⟨g1_0, #[.string A1, .string A2, .string A3, .string A0], 35, none⟩, ⟨g1_1, #[.string C1, .string C2, .string C3, .string C0, .string M1], 54, none⟩, ⟨g1_2, #[.string D1, .string D2, .string D3, .string D0, .string M2], 54, none⟩, ⟨g1_3, #[.string ⟨#[]⟩, .string ⟨#[]⟩, .string ⟨#[]⟩], 29, none⟩, ⟨g2_7, #[.string M1], 27, none⟩, ⟨g2_14, #[.string M2], 27, none⟩, ⟨g2_16, #[.int .i64 e1, .int .i64 e2, .int .i64 e3, .int .i64 e4, .int .i64 e5], 38, none⟩, ⟨g3_8, #[.string A1, .string A2, .string A3, .string C1, .string C2, .string C3, .string D1, .string D2, .string D3], 29, none⟩, ⟨g4_13, #[.string ⟨#[48]⟩, .string X2, .string X3], 77, none⟩, ⟨g5_14, #[.string ⟨#[]⟩, .string ⟨#[]⟩, .string ⟨#[]⟩], 29, none⟩] [] [] [] [] [] (by kernel_rfl) B.out ⟨K0.out, K1.out, K2.out, K3.out, K4.out, K5.out, K6.out, K7.out, K8.out, K9.out, trivial⟩ trivial ⟨pu, ?_, pu, trivial⟩ ?_
    · intro L a U ho J hn d KK k; refine .free rfl ?_; have r6 : a.tmps[(6 : Nat)]?.getD undef = .pointer (some ⟨g1_3, 0, none⟩) := ho.slot 6 rfl; have r78 := J.read 0 rfl (d.get 0 rfl); have kb := (J.eld 3 rfl); have c0 := kb.at_ 0 _ rfl; have z0 := kb.free 0; have c1 := kb.at_ 1 _ rfl; have z1 := kb.free 1; have c2 := kb.at_ 2 _ rfl; have z2 := kb.free 2; clear kb; go_simp; exact k.out undef _ (J.stored 1 3 rfl rfl (.inr ⟨rfl, rfl⟩) rfl rfl 0 [.string ⟨#[]⟩, .string ⟨#[]⟩, .string ⟨#[]⟩] rfl L3.out lt3 ⟨.inr D0_3.out, .inr D1_3.out, .inr D2_3.out, .inl rfl, .inr (Ne.symm D3_4.out), .inr (Ne.symm D3_5.out), .inr (Ne.symm D3_6.out), .inr (Ne.symm D3_7.out), .inr (Ne.symm D3_8.out), .inr (Ne.symm D3_9.out), trivial⟩ hn trivial)
    clear K0 K1 K2 K3 K4 K5 K6 K7 K8 K9 B lt0 lt1 lt2 lt3 lt4 lt5 lt6 lt7 lt8 lt9
    rintro σ W6 _ ⟨K0, K1, K2, K3, K4, K5, K6, K7, K8, K9, _⟩ _ _ B
    simp only [slotsOf, finX, nval, nvalN, nvalA, Nat.reduceBEq, cond_true, cond_false, putAll, Act.put, List.setIfInBounds_toArray, List.set_cons_succ, List.set_cons_zero]
    go_wp2
    have c3_0 := K3.out.at_ 0 _ rfl
    have c3_1 := K3.out.at_ 1 _ rfl
    have c3_2 := K3.out.at_ 2 _ rfl
    exact bodyPost_ret (v := .tuple #[.agg #[.string ⟨#[]⟩, .string ⟨#[]⟩, .string ⟨#[]⟩], .int .i64 18]) (by simp [results, Tryz.results15, go_sem, c3_0, c3_1, c3_2]) rfl ⟨by first | rfl | (rw [r3 hef hez hok] <;> rfl), B.out⟩
  ·
   have qez : (ez != 0) = true := by simp [hez]
   go_upto_region 6 with (fail)
   have lt0 := K0.out.lt
   have lt1 := K1.out.lt
   have lt2 := K2.out.lt
   have lt3 := K3.out.lt
   have lt4 := K4.out.lt
   have lt5 := K5.out.lt
   have lt6 := K6.out.lt
   have lt7 := K7.out.lt
   refine wp_tab [.v 47 (.agg #[.string ⟨#[]⟩, .string ⟨#[]⟩, .string ⟨#[]⟩]), .v 48 (.int .i64 ez), .z, .v 7 (.int .i64 ez)] [] [⟨g1_0, #[.string A1, .string A2, .string A3, .string A0], 35, none⟩, ⟨g1_1, #[.string C1, .string C2, .string C3, .string C0, .string M1], 54, none⟩, ⟨g1_2, #[.string D1, .string D2, .string D3, .string D0, .string M2], 54, none⟩, ⟨g1_3, #[.string ⟨#[]⟩, .string ⟨#[]⟩, .string ⟨#[]⟩], 29, none⟩, ⟨g2_7, #[.string M1], 27, none⟩, ⟨g2_14, #[.string M2], 27, none⟩, ⟨g2_16, #[.int .i64 e1, .int .i64 e2, .int .i64 e3, .int .i64 e4, .int .i64 e5], 38, none⟩, ⟨g3_8, #[.string A1, .string A2, .string A3, .string C1, .string C2, .string C3, .string D1, .string D2, .string D3], 29, none⟩] [] [] [] [] [] (by kernel_rfl) B.out ⟨K0.out, K1.out, K2.out, K3.out, K4.out, K5.out, K6.out, K7.out, trivial⟩ trivial ⟨pu, pu, ?_, pu, trivial⟩ ?_
   · intro L a U ho J hn d KK k; refine .free rfl ?_; have r6 : a.tmps[(6 : Nat)]?.getD undef = .pointer (some ⟨g1_3, 0, none⟩) := ho.slot 6 rfl; have r47 := J.read 0 rfl (d.get 0 rfl); have kb := (J.eld 3 rfl); have c0 := kb.at_ 0 _ rfl; have z0 := kb.free 0; have c1 := kb.at_ 1 _ rfl; have z1 := kb.free 1; have c2 := kb.at_ 2 _ rfl; have z2 := kb.free 2; clear kb; go_simp; exact k.out undef _ (J.stored 2 3 rfl rfl (.inr ⟨rfl, rfl⟩) rfl rfl 0 [.string ⟨#[]⟩, .string ⟨#[]⟩, .string ⟨#[]⟩] rfl L3.out lt3 ⟨.inr D0_3.out, .inr D1_3.out, .inr D2_3.out, .inl rfl, .inr (Ne.symm D3_4.out), .inr (Ne.symm D3_5.out), .inr (Ne.symm D3_6.out), .inr (Ne.symm D3_7.out), trivial⟩ hn trivial)
   clear K0 K1 K2 K3 K4 K5 K6 K7 B lt0 lt1 lt2 lt3 lt4 lt5 lt6 lt7
   rintro σ W4 _ ⟨K0, K1, K2, K3, K4, K5, K6, K7, _⟩ _ _ B
   simp only [slotsOf, finX, nval, nvalN, nvalA, Nat.reduceBEq, cond_true, cond_false, putAll, Act.put, List.setIfInBounds_toArray, List.set_cons_succ, List.set_cons_zero]
   go_wp2
   have c3_0 := K3.out.at_ 0 _ rfl
   have c3_1 := K3.out.at_ 1 _ rfl
   have c3_2 := K3.out.at_ 2 _ rfl
   exact bodyPost_ret (v := .tuple #[.agg #[.string ⟨#[]⟩, .string ⟨#[]⟩, .string ⟨#[]⟩], .int .i64 ez]) (by simp [results, Tryz.results15, go_sem, c3_0, c3_1, c3_2]) rfl ⟨by first | rfl | (rw [r2 hef hez] <;> rfl), B.out⟩
 ·
  have qef : (ef != 0) = true := by simp [hef]
  go_upto_region 3 with (fail)
  have lt0 := K0.out.lt
  have lt1 := K1.out.lt
  have lt2 := K2.out.lt
  have lt3 := K3.out.lt
  have lt4 := K4.out.lt
  have lt5 := K5.out.lt
  have lt6 := K6.out.lt
  refine wp_tab [.v 33 (.agg #[.string ⟨#[]⟩, .string ⟨#[]⟩, .string ⟨#[]⟩]), .v 34 (.int .i64 ef), .z, .v 7 (.int .i64 ef)] [] [⟨g1_0, #[.string A1, .string A2, .string A3, .string A0], 35, none⟩, ⟨g1_1, #[.string C1, .string C2, .string C3, .string C0, .string M1], 54, none⟩, ⟨g1_2, #[.string D1, .string D2, .string D3, .string D0, .string M2], 54, none⟩, ⟨g1_3, #[.string ⟨#[]⟩, .string ⟨#[]⟩, .string ⟨#[]⟩], 29, none⟩, ⟨g2_7, #[.string M1], 27, none⟩, ⟨g2_14, #[.string M2], 27, none⟩, ⟨g2_16, #[.int .i64 e1, .int .i64 e2, .int .i64 e3, .int .i64 e4, .int .i64 e5], 38, none⟩] [] [] [] [] [] (by kernel_rfl) B.out ⟨K0.out, K1.out, K2.out, K3.out, K4.out, K5.out, K6.out, trivial⟩ trivial ⟨pu, pu, ?_, pu, trivial⟩ ?_
  · intro L a U ho J hn d KK k; refine .free rfl ?_; have r6 : a.tmps[(6 : Nat)]?.getD undef = .pointer (some ⟨g1_3, 0, none⟩) := ho.slot 6 rfl; have r33 := J.read 0 rfl (d.get 0 rfl); have kb := (J.eld 3 rfl); have c0 := kb.at_ 0 _ rfl; have z0 := kb.free 0; have c1 := kb.at_ 1 _ rfl; have z1 := kb.free 1; have c2 := kb.at_ 2 _ rfl; have z2 := kb.free 2; clear kb; go_simp; exact k.out undef _ (J.stored 2 3 rfl rfl (.inr ⟨rfl, rfl⟩) rfl rfl 0 [.string ⟨#[]⟩, .string ⟨#[]⟩, .string ⟨#[]⟩] rfl L3.out lt3 ⟨.inr D0_3.out, .inr D1_3.out, .inr D2_3.out, .inl rfl, .inr (Ne.symm D3_4.out), .inr (Ne.symm D3_5.out), .inr (Ne.symm D3_6.out), trivial⟩ hn trivial)
  clear K0 K1 K2 K3 K4 K5 K6 B lt0 lt1 lt2 lt3 lt4 lt5 lt6
  rintro σ W3 _ ⟨K0, K1, K2, K3, K4, K5, K6, _⟩ _ _ B
  simp only [slotsOf, finX, nval, nvalN, nvalA, Nat.reduceBEq, cond_true, cond_false, putAll, Act.put, List.setIfInBounds_toArray, List.set_cons_succ, List.set_cons_zero]
  go_wp2
  have c3_0 := K3.out.at_ 0 _ rfl
  have c3_1 := K3.out.at_ 1 _ rfl
  have c3_2 := K3.out.at_ 2 _ rfl
  exact bodyPost_ret (v := .tuple #[.agg #[.string ⟨#[]⟩, .string ⟨#[]⟩, .string ⟨#[]⟩], .int .i64 ef]) (by simp [results, Tryz.results15, go_sem, c3_0, c3_1, c3_2]) rfl ⟨by first | rfl | (rw [r1 hef] <;> rfl), B.out⟩

end Go.Proofs.YtnallacamijkeaaGreatDoor
