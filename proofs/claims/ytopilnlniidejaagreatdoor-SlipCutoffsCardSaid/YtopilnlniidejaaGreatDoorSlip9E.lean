/- The walks of the laws of klippelaw42, over texts: SlipCutoffs. -/
import Derived.Test.YtopilnlniidejaaGreatDoorShelf
import Derived.Test.YtopilnlniidejaaGreatDoorGPar
import Derived.Deep.RegionHeld3
import Derived.Laws.ResultCell
import Derived.Deep.Cut
import Derived.Deep.CutRange
import Derived.Deep.DeepCutAuto
import Derived.Outline
namespace Go.Proofs.YtopilnlniidejaaGreatDoor
set_option linter.all false
open Go.RowKit

set_option maxRecDepth 100000 in
set_option maxHeartbeats 4000000 in
theorem cutoffs_long1 (C1 C2 C3 C0 D1 D2 D3 D0 : ByteArray) (x y z t s d : Int) (sl sp : Bool) (w : World)
  (h_kn : Ret Tryz.prog w 11 #[] (.bool true))
  (h_br : ∀ (W : World) (b0 : Nat), Blk W b0 #[.string C1, .string C2, .string C3, .string D1, .string D2, .string D3] 24 → Below w.heap.size w W → Calls Tryz.prog 12 #[.slice (some ⟨b0, 0, none⟩) 2 2] W fun e w' => e = .returned (.bool false) ∧ Below W.heap.size W w') :
  Calls Tryz.prog 8 #[.agg #[.int .i8 x, .int .i8 y, .int .i8 z, .int .i8 t, .int .i8 s, .int .i8 d, .bool sl, .bool sp], .agg #[.string C1, .string C2, .string C3, .string C0], .agg #[.string D1, .string D2, .string D3, .string D0]] w fun e w' => e = .returned (.bool true) ∧ Below w.heap.size w w' := by
 have H_KN := Lib.hid h_kn
 have H_BR := Lib.hid h_br
 clear h_kn h_br
 have B := Lib.hid (Below.refl w.heap.size w)
 go_enter Tryz.func8, Tryz.ntmps8
 go_upto_region 0 with (fail)
 refine wp_tab [.n 3, .n 4, .n 5, .v 6 (.bool false)] [⟨0, 3, fun g => .pointer (some ⟨g, 0, none⟩), #[.int .i8 x, .int .i8 y, .int .i8 z, .int .i8 t, .int .i8 s, .int .i8 d, .bool sl, .bool sp], 56, none⟩, ⟨1, 4, fun g => .pointer (some ⟨g, 0, none⟩), #[.string C1, .string C2, .string C3, .string C0], 26, none⟩, ⟨2, 5, fun g => .pointer (some ⟨g, 0, none⟩), #[.string D1, .string D2, .string D3, .string D0], 26, none⟩] [] [] [] [] [] [] (by kernel_rfl) B.out trivial trivial ⟨ml 0, ml 1, ml 2, pu, trivial⟩ ?_
 clear B
 rintro σ W1 ⟨⟨L0, K0⟩, ⟨L1, K1⟩, ⟨L2, K2⟩, _⟩ _ _ _ B
 simp only [slotsOf, finX, nval, nvalN, nvalA, Nat.reduceBEq, cond_true, cond_false, putAll, Act.put, List.setIfInBounds_toArray, List.set_cons_succ, List.set_cons_zero]
 generalize blkOf (σ 3) = g1_0 at *
 generalize blkOf (σ 4) = g1_1 at *
 generalize blkOf (σ 5) = g1_2 at *
 go_upto_region 1 with (fail)
 refine wp_tab [.v 13 (.bool true), .v 14 (.bool false), .v 15 (.bool false), .v 16 (.pointer (some ⟨g1_1, 0, none⟩)), .v 17 (.agg #[.string C1, .string C2, .string C3]), .v 18 (.pointer (some ⟨g1_2, 0, none⟩)), .v 19 (.agg #[.string D1, .string D2, .string D3]), .n 20, .v 21 (.bool false), .v 22 (.bool true), .v 23 (.bool true), .v 24 (.bool true), .v 25 (undef), .v 26 (undef), .v 27 (undef), .v 28 (undef), .v 29 (.bool true), .v 30 (.bool true), .v 31 (undef), .v 32 (undef), .v 33 (undef), .v 34 (undef), .v 35 (.bool true)] [⟨7, 20, fun g => .slice (some ⟨g, 0, none⟩) 2 2, #[.string C1, .string C2, .string C3, .string D1, .string D2, .string D3], 24, none⟩] [⟨g1_0, #[.int .i8 x, .int .i8 y, .int .i8 z, .int .i8 t, .int .i8 s, .int .i8 d, .bool sl, .bool sp], 56, none⟩, ⟨g1_1, #[.string C1, .string C2, .string C3, .string C0], 26, none⟩, ⟨g1_2, #[.string D1, .string D2, .string D3, .string D0], 26, none⟩] [] [] [] [] [] (by kernel_rfl) B.out ⟨K0.out, K1.out, K2.out, trivial⟩ trivial ⟨cl H_KN.out, pu, pu, pu, ld 1 0, pu, ld 2 0, ml 0, c1 0 H_BR.out, pu, pu, pu, sk, sk, sk, sk, pu, pu, sk, sk, sk, sk, pu, trivial⟩ ?_
 clear K0 K1 K2 B
 rintro σ W2 ⟨⟨L3, K3⟩, _⟩ ⟨K0, K1, K2, _⟩ _ _ B
 simp only [slotsOf, finX, nval, nvalN, nvalA, Nat.reduceBEq, cond_true, cond_false, putAll, Act.put, List.setIfInBounds_toArray, List.set_cons_succ, List.set_cons_zero]
 generalize blkOf (σ 20) = g2_7 at *
 go_wp2_with (
  (first
  | (go_at_call 11; with_reducible refine (H_KN.out _ (baseI B.out)).mono ?_)
  | fail "arm"); rintro e wx ⟨rfl, q⟩; replace K0 := Lib.hid (K0.out.nearI q); replace K1 := Lib.hid (K1.out.nearI q); replace K2 := Lib.hid (K2.out.nearI q); replace K3 := Lib.hid (K3.out.nearI q); replace B := Lib.hid (goI B.out q); clear q)
 go_ret
 exact ⟨rfl, B.out⟩

set_option maxRecDepth 100000 in
set_option maxHeartbeats 4000000 in
theorem cutoffs_long2 (C1 C2 C3 C0 D1 D2 D3 D0 : ByteArray) (x y z t s d : Int) (sl sp : Bool) (w : World)
  (hmC0 : decide ((8 : Int) < (C0.size : Int)) = true)
  (h_kn : Ret Tryz.prog w 11 #[] (.bool true))
  (h_br : ∀ (W : World) (b0 : Nat), Blk W b0 #[.string C1, .string C2, .string C3, .string D1, .string D2, .string D3] 24 → Below w.heap.size w W → Calls Tryz.prog 12 #[.slice (some ⟨b0, 0, none⟩) 2 2] W fun e w' => e = .returned (.bool true) ∧ Below W.heap.size W w') :
  Calls Tryz.prog 8 #[.agg #[.int .i8 x, .int .i8 y, .int .i8 z, .int .i8 t, .int .i8 s, .int .i8 d, .bool sl, .bool sp], .agg #[.string C1, .string C2, .string C3, .string C0], .agg #[.string D1, .string D2, .string D3, .string D0]] w fun e w' => e = .returned (.bool true) ∧ Below w.heap.size w w' := by
 have H_KN := Lib.hid h_kn
 have H_BR := Lib.hid h_br
 clear h_kn h_br
 have B := Lib.hid (Below.refl w.heap.size w)
 go_enter Tryz.func8, Tryz.ntmps8
 go_upto_region 0 with (fail)
 refine wp_tab [.n 3, .n 4, .n 5, .v 6 (.bool false)] [⟨0, 3, fun g => .pointer (some ⟨g, 0, none⟩), #[.int .i8 x, .int .i8 y, .int .i8 z, .int .i8 t, .int .i8 s, .int .i8 d, .bool sl, .bool sp], 56, none⟩, ⟨1, 4, fun g => .pointer (some ⟨g, 0, none⟩), #[.string C1, .string C2, .string C3, .string C0], 26, none⟩, ⟨2, 5, fun g => .pointer (some ⟨g, 0, none⟩), #[.string D1, .string D2, .string D3, .string D0], 26, none⟩] [] [] [] [] [] [] (by kernel_rfl) B.out trivial trivial ⟨ml 0, ml 1, ml 2, pu, trivial⟩ ?_
 clear B
 rintro σ W1 ⟨⟨L0, K0⟩, ⟨L1, K1⟩, ⟨L2, K2⟩, _⟩ _ _ _ B
 simp only [slotsOf, finX, nval, nvalN, nvalA, Nat.reduceBEq, cond_true, cond_false, putAll, Act.put, List.setIfInBounds_toArray, List.set_cons_succ, List.set_cons_zero]
 generalize blkOf (σ 3) = g1_0 at *
 generalize blkOf (σ 4) = g1_1 at *
 generalize blkOf (σ 5) = g1_2 at *
 go_upto_region 1 with (fail)
 refine wp_tab [.v 13 (.bool true), .v 14 (.bool false), .v 15 (.bool false), .v 16 (.pointer (some ⟨g1_1, 0, none⟩)), .v 17 (.agg #[.string C1, .string C2, .string C3]), .v 18 (.pointer (some ⟨g1_2, 0, none⟩)), .v 19 (.agg #[.string D1, .string D2, .string D3]), .n 20, .v 21 (.bool true), .v 22 (.bool false), .v 23 (.bool false), .v 24 (.bool false), .v 25 (.pointer (some ⟨g1_1, 3, none⟩)), .v 26 (.string C0), .v 27 (.int .i64 (C0.size : Int)), .v 28 (.bool true), .v 29 (.bool true), .v 30 (.bool true), .v 31 (undef), .v 32 (undef), .v 33 (undef), .v 34 (undef), .v 35 (.bool true)] [⟨7, 20, fun g => .slice (some ⟨g, 0, none⟩) 2 2, #[.string C1, .string C2, .string C3, .string D1, .string D2, .string D3], 24, none⟩] [⟨g1_0, #[.int .i8 x, .int .i8 y, .int .i8 z, .int .i8 t, .int .i8 s, .int .i8 d, .bool sl, .bool sp], 56, none⟩, ⟨g1_1, #[.string C1, .string C2, .string C3, .string C0], 26, none⟩, ⟨g1_2, #[.string D1, .string D2, .string D3, .string D0], 26, none⟩] [] [] [] [] [] (by kernel_rfl) B.out ⟨K0.out, K1.out, K2.out, trivial⟩ trivial ⟨cl H_KN.out, pu, pu, pu, ld 1 0, pu, ld 2 0, ml 0, c1 0 H_BR.out, pu, pu, pu, pu, ld 1 3, ?_, ?_, pu, pu, sk, sk, sk, sk, pu, trivial⟩ ?_
 · intro L a U ho J hn d KK k; refine .pos (s := 24) rfl rfl (J.vals 11 _ _ rfl (d.get 11 rfl)) ?_; have r26 := J.read 13 rfl (d.get 13 rfl); go_simp; exact k.out _ _ (J.st 14 rfl rfl)
 · intro L a U ho J hn d KK k; refine .pos (s := 24) rfl rfl (J.vals 11 _ _ rfl (d.get 11 rfl)) ?_; have r27 := J.read 14 rfl (d.get 14 rfl); go_simp; exact k.out _ _ (J.st 15 rfl rfl)
 clear K0 K1 K2 B
 rintro σ W2 ⟨⟨L3, K3⟩, _⟩ ⟨K0, K1, K2, _⟩ _ _ B
 simp only [slotsOf, finX, nval, nvalN, nvalA, Nat.reduceBEq, cond_true, cond_false, putAll, Act.put, List.setIfInBounds_toArray, List.set_cons_succ, List.set_cons_zero]
 generalize blkOf (σ 20) = g2_7 at *
 go_wp2_with (
  (first
  | (go_at_call 11; with_reducible refine (H_KN.out _ (baseI B.out)).mono ?_)
  | fail "arm"); rintro e wx ⟨rfl, q⟩; replace K0 := Lib.hid (K0.out.nearI q); replace K1 := Lib.hid (K1.out.nearI q); replace K2 := Lib.hid (K2.out.nearI q); replace K3 := Lib.hid (K3.out.nearI q); replace B := Lib.hid (goI B.out q); clear q)
 go_ret
 exact ⟨rfl, B.out⟩

set_option maxRecDepth 100000 in
set_option maxHeartbeats 4000000 in
theorem cutoffs_long3 (C1 C2 C3 C0 D1 D2 D3 D0 : ByteArray) (x y z t s d : Int) (sl sp : Bool) (w : World)
  (hmC0 : decide ((8 : Int) < (C0.size : Int)) = false)
  (hmD0 : decide ((8 : Int) < (D0.size : Int)) = true)
  (h_kn : Ret Tryz.prog w 11 #[] (.bool true))
  (h_br : ∀ (W : World) (b0 : Nat), Blk W b0 #[.string C1, .string C2, .string C3, .string D1, .string D2, .string D3] 24 → Below w.heap.size w W → Calls Tryz.prog 12 #[.slice (some ⟨b0, 0, none⟩) 2 2] W fun e w' => e = .returned (.bool true) ∧ Below W.heap.size W w') :
  Calls Tryz.prog 8 #[.agg #[.int .i8 x, .int .i8 y, .int .i8 z, .int .i8 t, .int .i8 s, .int .i8 d, .bool sl, .bool sp], .agg #[.string C1, .string C2, .string C3, .string C0], .agg #[.string D1, .string D2, .string D3, .string D0]] w fun e w' => e = .returned (.bool true) ∧ Below w.heap.size w w' := by
 have H_KN := Lib.hid h_kn
 have H_BR := Lib.hid h_br
 clear h_kn h_br
 have B := Lib.hid (Below.refl w.heap.size w)
 go_enter Tryz.func8, Tryz.ntmps8
 go_upto_region 0 with (fail)
 refine wp_tab [.n 3, .n 4, .n 5, .v 6 (.bool false)] [⟨0, 3, fun g => .pointer (some ⟨g, 0, none⟩), #[.int .i8 x, .int .i8 y, .int .i8 z, .int .i8 t, .int .i8 s, .int .i8 d, .bool sl, .bool sp], 56, none⟩, ⟨1, 4, fun g => .pointer (some ⟨g, 0, none⟩), #[.string C1, .string C2, .string C3, .string C0], 26, none⟩, ⟨2, 5, fun g => .pointer (some ⟨g, 0, none⟩), #[.string D1, .string D2, .string D3, .string D0], 26, none⟩] [] [] [] [] [] [] (by kernel_rfl) B.out trivial trivial ⟨ml 0, ml 1, ml 2, pu, trivial⟩ ?_
 clear B
 rintro σ W1 ⟨⟨L0, K0⟩, ⟨L1, K1⟩, ⟨L2, K2⟩, _⟩ _ _ _ B
 simp only [slotsOf, finX, nval, nvalN, nvalA, Nat.reduceBEq, cond_true, cond_false, putAll, Act.put, List.setIfInBounds_toArray, List.set_cons_succ, List.set_cons_zero]
 generalize blkOf (σ 3) = g1_0 at *
 generalize blkOf (σ 4) = g1_1 at *
 generalize blkOf (σ 5) = g1_2 at *
 go_upto_region 1 with (fail)
 refine wp_tab [.v 13 (.bool true), .v 14 (.bool false), .v 15 (.bool false), .v 16 (.pointer (some ⟨g1_1, 0, none⟩)), .v 17 (.agg #[.string C1, .string C2, .string C3]), .v 18 (.pointer (some ⟨g1_2, 0, none⟩)), .v 19 (.agg #[.string D1, .string D2, .string D3]), .n 20, .v 21 (.bool true), .v 22 (.bool false), .v 23 (.bool false), .v 24 (.bool false), .v 25 (.pointer (some ⟨g1_1, 3, none⟩)), .v 26 (.string C0), .v 27 (.int .i64 (C0.size : Int)), .v 28 (.bool false), .v 29 (.bool false), .v 30 (.bool false), .v 31 (.pointer (some ⟨g1_2, 3, none⟩)), .v 32 (.string D0), .v 33 (.int .i64 (D0.size : Int)), .v 34 (.bool true), .v 35 (.bool true)] [⟨7, 20, fun g => .slice (some ⟨g, 0, none⟩) 2 2, #[.string C1, .string C2, .string C3, .string D1, .string D2, .string D3], 24, none⟩] [⟨g1_0, #[.int .i8 x, .int .i8 y, .int .i8 z, .int .i8 t, .int .i8 s, .int .i8 d, .bool sl, .bool sp], 56, none⟩, ⟨g1_1, #[.string C1, .string C2, .string C3, .string C0], 26, none⟩, ⟨g1_2, #[.string D1, .string D2, .string D3, .string D0], 26, none⟩] [] [] [] [] [] (by kernel_rfl) B.out ⟨K0.out, K1.out, K2.out, trivial⟩ trivial ⟨cl H_KN.out, pu, pu, pu, ld 1 0, pu, ld 2 0, ml 0, c1 0 H_BR.out, pu, pu, pu, pu, ld 1 3, ?_, ?_, pu, pu, pu, ld 2 3, ?_, ?_, pu, trivial⟩ ?_
 · intro L a U ho J hn d KK k; refine .pos (s := 24) rfl rfl (J.vals 11 _ _ rfl (d.get 11 rfl)) ?_; have r26 := J.read 13 rfl (d.get 13 rfl); go_simp; exact k.out _ _ (J.st 14 rfl rfl)
 · intro L a U ho J hn d KK k; refine .pos (s := 24) rfl rfl (J.vals 11 _ _ rfl (d.get 11 rfl)) ?_; have r27 := J.read 14 rfl (d.get 14 rfl); go_simp; exact k.out _ _ (J.st 15 rfl rfl)
 · intro L a U ho J hn d KK k; refine .pos (s := 30) rfl rfl (J.vals 17 _ _ rfl (d.get 17 rfl)) ?_; have r32 := J.read 19 rfl (d.get 19 rfl); go_simp; exact k.out _ _ (J.st 20 rfl rfl)
 · intro L a U ho J hn d KK k; refine .pos (s := 30) rfl rfl (J.vals 17 _ _ rfl (d.get 17 rfl)) ?_; have r33 := J.read 20 rfl (d.get 20 rfl); go_simp; exact k.out _ _ (J.st 21 rfl rfl)
 clear K0 K1 K2 B
 rintro σ W2 ⟨⟨L3, K3⟩, _⟩ ⟨K0, K1, K2, _⟩ _ _ B
 simp only [slotsOf, finX, nval, nvalN, nvalA, Nat.reduceBEq, cond_true, cond_false, putAll, Act.put, List.setIfInBounds_toArray, List.set_cons_succ, List.set_cons_zero]
 generalize blkOf (σ 20) = g2_7 at *
 go_wp2_with (
  (first
  | (go_at_call 11; with_reducible refine (H_KN.out _ (baseI B.out)).mono ?_)
  | fail "arm"); rintro e wx ⟨rfl, q⟩; replace K0 := Lib.hid (K0.out.nearI q); replace K1 := Lib.hid (K1.out.nearI q); replace K2 := Lib.hid (K2.out.nearI q); replace K3 := Lib.hid (K3.out.nearI q); replace B := Lib.hid (goI B.out q); clear q)
 go_ret
 exact ⟨rfl, B.out⟩

set_option maxRecDepth 100000 in
set_option maxHeartbeats 20000000 in
theorem cutoffs_of {A1 A2 A3 A0 S1 S2 S3 C1 C2 C3 C0 D1 D2 D3 D0 T P M X1 X2 X3 O1 O2 O3 I1 I2 I3 : ByteArray} {x y z t s d : Int} {sl sp : Bool} {er : Int} {ok nu zc zd td : Bool} (w : World)
  (hmC0 : decide ((8 : Int) < (C0.size : Int)) = false)
  (hmD0 : decide ((8 : Int) < (D0.size : Int)) = false)
  (g1 : ok = true → (O1.toList == []) = false := by intros; contradiction)
  (g2 : ok = true → O1.toList.isEmpty = false := by intros; contradiction)
  (f1 : ok = false → nu = false → (er == 2) = true := by intros; contradiction)
  (f2 : ok = false → nu = true → zc = true → (er == 17) = true := by intros; contradiction)
  (f3 : ok = false → nu = true → zc = false → zd = true → (er == 17) = true := by intros; contradiction)
  (f4 : nu = true → zc = false → zd = false → td = true → (T.toList == [48]) = true := by intros; contradiction)
  (f5 : nu = true → zc = false → zd = false → td = false → (T.toList == [48]) = false := by intros; contradiction)
  (f6 : ok = false → nu = true → zc = false → zd = false → td = true → (er == 18) = true := by intros; contradiction)
  (d1 : ok = true → nu = false → False := by intros; contradiction)
  (d2 : ok = true → nu = true → zc = true → False := by intros; contradiction)
  (d3 : ok = true → nu = true → zc = false → zd = true → False := by intros; contradiction)
  (d4 : ok = true → nu = true → zc = false → zd = false → td = true → False := by intros; contradiction)
  (d5 : ok = false → nu = true → zc = false → zd = false → td = false → False := by intros; contradiction)
  (h_kn : Ret Tryz.prog w 11 #[] (.bool true))
  (h_br : ∀ (W : World) (b0 : Nat), Blk W b0 #[.string C1, .string C2, .string C3, .string D1, .string D2, .string D3] 24 → Below w.heap.size w W → Calls Tryz.prog 12 #[.slice (some ⟨b0, 0, none⟩) 2 2] W fun e w' => e = .returned (.bool true) ∧ Below W.heap.size W w')
  (h_mk : Ret Tryz.prog w 27 #[.agg #[.int .i8 x, .int .i8 y, .int .i8 z, .int .i8 t, .int .i8 s, .int .i8 d, .bool sl, .bool sp]] (.agg #[.string A1, .string A2, .string A3, .string A0, .string S1, .string S2, .string S3]))
  (h_ce : ok = false → Ret Tryz.prog w 41 #[.agg #[.string A1, .string A2, .string A3, .string A0, .string S1, .string S2, .string S3], .agg #[.string C1, .string C2, .string C3, .string C0], .agg #[.string D1, .string D2, .string D3, .string D0]] (.tuple #[.agg #[.string ⟨#[]⟩, .string ⟨#[]⟩, .string ⟨#[]⟩], .agg #[.string ⟨#[]⟩, .string ⟨#[]⟩, .string ⟨#[]⟩], .int .i64 er]) := by intros; contradiction)
  (h_co : ok = true → Ret Tryz.prog w 41 #[.agg #[.string A1, .string A2, .string A3, .string A0, .string S1, .string S2, .string S3], .agg #[.string C1, .string C2, .string C3, .string C0], .agg #[.string D1, .string D2, .string D3, .string D0]] (.tuple #[.agg #[.string O1, .string O2, .string O3], .agg #[.string I1, .string I2, .string I3], .int .i64 0]) := by intros; contradiction)
  (h_nu : ∀ (W : World) (b0 : Nat) (b1 : Nat), Blk W b0 #[.string C1, .string C2, .string C3, .string D1, .string D2, .string D3] 24 → Blk W b1 #[.string C0, .string D0] 22 → Below w.heap.size w W → Calls Tryz.prog 14 #[.slice (some ⟨b0, 0, none⟩) 2 2, .slice (some ⟨b1, 0, none⟩) 2 2] W fun e w' => e = .returned (.bool nu) ∧ Below W.heap.size W w')
  (h_zc : Ret Tryz.prog w 16 #[.agg #[.string C1, .string C2, .string C3]] (.bool zc))
  (h_zd : Ret Tryz.prog w 16 #[.agg #[.string D1, .string D2, .string D3]] (.bool zd))
  (h_cx : nu = true → zc = false → zd = false → Ret Tryz.prog w 18 #[.agg #[.string C1, .string C2, .string C3], .agg #[.string D1, .string D2, .string D3]] (.agg #[.string X1, .string X2, .string X3]) := by intros; contradiction)
  (h_dx : nu = true → zc = false → zd = false → Ret Tryz.prog w 17 #[.agg #[.string A1, .string A2, .string A3], .agg #[.string X1, .string X2, .string X3]] (.string T) := by intros; contradiction)
  (h_ds : ok = true → nu = true → zc = false → zd = false → Ret Tryz.prog w 17 #[.agg #[.string C1, .string C2, .string C3], .agg #[.string S1, .string S2, .string S3]] (.string P) := by intros; contradiction)
  (h_ad : ok = true → nu = true → zc = false → zd = false → Ret Tryz.prog w 29 #[.string C0, .string P] (.string M) := by intros; contradiction)
  (h_ro : ok = true → nu = true → zc = false → zd = false → Ret Tryz.prog w 19 #[.agg #[.string O1, .string O2, .string O3]] (.bool true) := by intros; contradiction)
  (h_ri : ok = true → nu = true → zc = false → zd = false → Ret Tryz.prog w 19 #[.agg #[.string I1, .string I2, .string I3]] (.bool true) := by intros; contradiction)
  (h_o1 : ok = true → nu = true → zc = false → zd = false → Ret Tryz.prog w 25 #[.agg #[.string A1, .string A2, .string A3, .string A0], .agg #[.string O1, .string O2, .string O3]] (.bool true) := by intros; contradiction)
  (h_o2 : ok = true → nu = true → zc = false → zd = false → Ret Tryz.prog w 25 #[.agg #[.string C1, .string C2, .string C3, .string C0], .agg #[.string O1, .string O2, .string O3]] (.bool true) := by intros; contradiction)
  (h_o3 : ok = true → nu = true → zc = false → zd = false → Ret Tryz.prog w 25 #[.agg #[.string D1, .string D2, .string D3, .string D0], .agg #[.string O1, .string O2, .string O3]] (.bool true) := by intros; contradiction)
  (h_o4 : ok = true → nu = true → zc = false → zd = false → Ret Tryz.prog w 25 #[.agg #[.string A1, .string A2, .string A3, .string A0], .agg #[.string I1, .string I2, .string I3]] (.bool true) := by intros; contradiction)
  (h_o5 : ok = true → nu = true → zc = false → zd = false → Ret Tryz.prog w 25 #[.agg #[.string C1, .string C2, .string C3, .string M], .agg #[.string I1, .string I2, .string I3]] (.bool true) := by intros; contradiction)
  (h_o6 : ok = true → nu = true → zc = false → zd = false → Ret Tryz.prog w 25 #[.agg #[.string D1, .string D2, .string D3, .string D0], .agg #[.string I1, .string I2, .string I3]] (.bool true) := by intros; contradiction) :
  Calls Tryz.prog 8 #[.agg #[.int .i8 x, .int .i8 y, .int .i8 z, .int .i8 t, .int .i8 s, .int .i8 d, .bool sl, .bool sp], .agg #[.string C1, .string C2, .string C3, .string C0], .agg #[.string D1, .string D2, .string D3, .string D0]] w fun e w' => e = .returned (.bool true) ∧ Below w.heap.size w w' := by
 have H_KN := Lib.hid h_kn
 have H_BR := Lib.hid h_br
 have H_MK := Lib.hid h_mk
 have H_NU := Lib.hid h_nu
 have H_ZC := Lib.hid h_zc
 have H_ZD := Lib.hid h_zd
 clear h_kn h_br h_mk h_nu h_zc h_zd
 have B := Lib.hid (Below.refl w.heap.size w)
 go_enter Tryz.func8, Tryz.ntmps8
 go_upto_region 0 with (fail)
 refine wp_tab [.n 3, .n 4, .n 5, .v 6 (.bool false)] [⟨0, 3, fun g => .pointer (some ⟨g, 0, none⟩), #[.int .i8 x, .int .i8 y, .int .i8 z, .int .i8 t, .int .i8 s, .int .i8 d, .bool sl, .bool sp], 56, none⟩, ⟨1, 4, fun g => .pointer (some ⟨g, 0, none⟩), #[.string C1, .string C2, .string C3, .string C0], 26, none⟩, ⟨2, 5, fun g => .pointer (some ⟨g, 0, none⟩), #[.string D1, .string D2, .string D3, .string D0], 26, none⟩] [] [] [] [] [] [] (by kernel_rfl) B.out trivial trivial ⟨ml 0, ml 1, ml 2, pu, trivial⟩ ?_
 clear B
 rintro σ W1 ⟨⟨L0, K0⟩, ⟨L1, K1⟩, ⟨L2, K2⟩, _⟩ _ _ _ B
 simp only [slotsOf, finX, nval, nvalN, nvalA, Nat.reduceBEq, cond_true, cond_false, putAll, Act.put, List.setIfInBounds_toArray, List.set_cons_succ, List.set_cons_zero]
 generalize blkOf (σ 3) = g1_0 at *
 generalize blkOf (σ 4) = g1_1 at *
 generalize blkOf (σ 5) = g1_2 at *
 go_upto_region 1 with (fail)
 refine wp_tab [.v 13 (.bool true), .v 14 (.bool false), .v 15 (.bool false), .v 16 (.pointer (some ⟨g1_1, 0, none⟩)), .v 17 (.agg #[.string C1, .string C2, .string C3]), .v 18 (.pointer (some ⟨g1_2, 0, none⟩)), .v 19 (.agg #[.string D1, .string D2, .string D3]), .n 20, .v 21 (.bool true), .v 22 (.bool false), .v 23 (.bool false), .v 24 (.bool false), .v 25 (.pointer (some ⟨g1_1, 3, none⟩)), .v 26 (.string C0), .v 27 (.int .i64 (C0.size : Int)), .v 28 (.bool false), .v 29 (.bool false), .v 30 (.bool false), .v 31 (.pointer (some ⟨g1_2, 3, none⟩)), .v 32 (.string D0), .v 33 (.int .i64 (D0.size : Int)), .v 34 (.bool false), .v 35 (.bool false)] [⟨7, 20, fun g => .slice (some ⟨g, 0, none⟩) 2 2, #[.string C1, .string C2, .string C3, .string D1, .string D2, .string D3], 24, none⟩] [⟨g1_0, #[.int .i8 x, .int .i8 y, .int .i8 z, .int .i8 t, .int .i8 s, .int .i8 d, .bool sl, .bool sp], 56, none⟩, ⟨g1_1, #[.string C1, .string C2, .string C3, .string C0], 26, none⟩, ⟨g1_2, #[.string D1, .string D2, .string D3, .string D0], 26, none⟩] [] [] [] [] [] (by kernel_rfl) B.out ⟨K0.out, K1.out, K2.out, trivial⟩ trivial ⟨cl H_KN.out, pu, pu, pu, ld 1 0, pu, ld 2 0, ml 0, c1 0 H_BR.out, pu, pu, pu, pu, ld 1 3, ?_, ?_, pu, pu, pu, ld 2 3, ?_, ?_, pu, trivial⟩ ?_
 · intro L a U ho J hn d KK k; refine .pos (s := 24) rfl rfl (J.vals 11 _ _ rfl (d.get 11 rfl)) ?_; have r26 := J.read 13 rfl (d.get 13 rfl); go_simp; exact k.out _ _ (J.st 14 rfl rfl)
 · intro L a U ho J hn d KK k; refine .pos (s := 24) rfl rfl (J.vals 11 _ _ rfl (d.get 11 rfl)) ?_; have r27 := J.read 14 rfl (d.get 14 rfl); go_simp; exact k.out _ _ (J.st 15 rfl rfl)
 · intro L a U ho J hn d KK k; refine .pos (s := 30) rfl rfl (J.vals 17 _ _ rfl (d.get 17 rfl)) ?_; have r32 := J.read 19 rfl (d.get 19 rfl); go_simp; exact k.out _ _ (J.st 20 rfl rfl)
 · intro L a U ho J hn d KK k; refine .pos (s := 30) rfl rfl (J.vals 17 _ _ rfl (d.get 17 rfl)) ?_; have r33 := J.read 20 rfl (d.get 20 rfl); go_simp; exact k.out _ _ (J.st 21 rfl rfl)
 clear K0 K1 K2 B
 rintro σ W2 ⟨⟨L3, K3⟩, _⟩ ⟨K0, K1, K2, _⟩ _ _ B
 simp only [slotsOf, finX, nval, nvalN, nvalA, Nat.reduceBEq, cond_true, cond_false, putAll, Act.put, List.setIfInBounds_toArray, List.set_cons_succ, List.set_cons_zero]
 generalize blkOf (σ 20) = g2_7 at *
 go_upto_region 3 with (fail)
 have lt0 := K0.out.lt
 have lt1 := K1.out.lt
 have lt2 := K2.out.lt
 have lt3 := K3.out.lt
 refine wp_tab [.v 37 (.agg #[.int .i8 x, .int .i8 y, .int .i8 z, .int .i8 t, .int .i8 s, .int .i8 d, .bool sl, .bool sp]), .v 38 (.agg #[.string A1, .string A2, .string A3, .string A0, .string S1, .string S2, .string S3]), .n 7, .z] [⟨2, 7, fun g => .pointer (some ⟨g, 0, none⟩), #[.string ⟨#[]⟩, .string ⟨#[]⟩, .string ⟨#[]⟩, .string ⟨#[]⟩, .string ⟨#[]⟩, .string ⟨#[]⟩, .string ⟨#[]⟩], 58, some (3, #[.string A1, .string A2, .string A3, .string A0, .string S1, .string S2, .string S3])⟩] [⟨g1_0, #[.int .i8 x, .int .i8 y, .int .i8 z, .int .i8 t, .int .i8 s, .int .i8 d, .bool sl, .bool sp], 56, none⟩, ⟨g1_1, #[.string C1, .string C2, .string C3, .string C0], 26, none⟩, ⟨g1_2, #[.string D1, .string D2, .string D3, .string D0], 26, none⟩, ⟨g2_7, #[.string C1, .string C2, .string C3, .string D1, .string D2, .string D3], 24, none⟩] [] [(3, 2)] [] [] [] (by kernel_rfl) B.out ⟨K0.out, K1.out, K2.out, K3.out, trivial⟩ trivial ⟨ld 0 0, cl H_MK.out, ml 0, ?_, trivial⟩ ?_
 · intro L a U ho J hn d KK k; refine .free rfl ?_; have r7 : a.tmps[(7 : Nat)]?.getD undef = .pointer (some ⟨(blkOf (slotOf a 7)), 0, none⟩) := J.readN 0 rfl (d.get 2 rfl); have r38 := J.read 1 rfl (d.get 1 rfl); have kb := (J.nwB 0 rfl (d.get 2 rfl) hn).blk; have c0 := kb.at_ 0 _ rfl; have z0 := kb.free 0; have c1 := kb.at_ 1 _ rfl; have z1 := kb.free 1; have c2 := kb.at_ 2 _ rfl; have z2 := kb.free 2; have c3 := kb.at_ 3 _ rfl; have z3 := kb.free 3; have c4 := kb.at_ 4 _ rfl; have z4 := kb.free 4; have c5 := kb.at_ 5 _ rfl; have z5 := kb.free 5; have c6 := kb.at_ 6 _ rfl; have z6 := kb.free 6; clear kb; go_simp; exact k.out undef _ (J.storedN 3 0 rfl rfl rfl rfl rfl 0 [.string A1, .string A2, .string A3, .string A0, .string S1, .string S2, .string S3] rfl ⟨lt0, lt1, lt2, lt3, trivial⟩ (d.get 2 rfl) hn ⟨.inr (d.get 2 rfl), trivial⟩)
 clear K0 K1 K2 K3 B lt0 lt1 lt2 lt3
 rintro σ W3 ⟨⟨L4, K4⟩, _⟩ ⟨K0, K1, K2, K3, _⟩ _ _ B
 simp only [slotsOf, finX, nval, nvalN, nvalA, Nat.reduceBEq, cond_true, cond_false, putAll, Act.put, List.setIfInBounds_toArray, List.set_cons_succ, List.set_cons_zero]
 generalize blkOf (σ 7) = g3_2 at *
 go_upto_region 4 with (fail)
 cases ok
 ·
  have H_CE := Lib.hid (h_ce rfl)
  clear h_ce
  clear h_co
  clear h_ds
  clear h_ad
  clear h_ro
  clear h_ri
  clear h_o1
  clear h_o2
  clear h_o3
  clear h_o4
  clear h_o5
  clear h_o6
  clear g1
  clear g2
  replace f1 := f1 rfl
  replace f2 := f2 rfl
  replace f3 := f3 rfl
  replace f6 := f6 rfl
  clear d1
  clear d2
  clear d3
  clear d4
  replace d5 := d5 rfl
  go_upto_region 4 with (fail)
  have lt0 := K0.out.lt
  have lt1 := K1.out.lt
  have lt2 := K2.out.lt
  have lt3 := K3.out.lt
  have lt4 := K4.out.lt
  refine wp_tab [.v 40 (.agg #[.string A1, .string A2, .string A3, .string A0, .string S1, .string S2, .string S3]), .v 41 (.agg #[.string C1, .string C2, .string C3, .string C0]), .v 42 (.agg #[.string D1, .string D2, .string D3, .string D0]), .v 43 (.tuple #[.agg #[.string ⟨#[]⟩, .string ⟨#[]⟩, .string ⟨#[]⟩], .agg #[.string ⟨#[]⟩, .string ⟨#[]⟩, .string ⟨#[]⟩], .int .i64 er]), .v 39 (.tuple #[.agg #[.string ⟨#[]⟩, .string ⟨#[]⟩, .string ⟨#[]⟩], .agg #[.string ⟨#[]⟩, .string ⟨#[]⟩, .string ⟨#[]⟩], .int .i64 er]), .v 44 (.agg #[.string ⟨#[]⟩, .string ⟨#[]⟩, .string ⟨#[]⟩]), .v 45 (.agg #[.string ⟨#[]⟩, .string ⟨#[]⟩, .string ⟨#[]⟩]), .v 46 (.int .i64 er), .n 8, .n 9, .z, .z, .v 10 (.int .i64 er)] [⟨8, 8, fun g => .pointer (some ⟨g, 0, none⟩), #[.string ⟨#[]⟩, .string ⟨#[]⟩, .string ⟨#[]⟩], 24, some (10, #[.string ⟨#[]⟩, .string ⟨#[]⟩, .string ⟨#[]⟩])⟩, ⟨9, 9, fun g => .pointer (some ⟨g, 0, none⟩), #[.string ⟨#[]⟩, .string ⟨#[]⟩, .string ⟨#[]⟩], 24, some (11, #[.string ⟨#[]⟩, .string ⟨#[]⟩, .string ⟨#[]⟩])⟩] [⟨g1_0, #[.int .i8 x, .int .i8 y, .int .i8 z, .int .i8 t, .int .i8 s, .int .i8 d, .bool sl, .bool sp], 56, none⟩, ⟨g1_1, #[.string C1, .string C2, .string C3, .string C0], 26, none⟩, ⟨g1_2, #[.string D1, .string D2, .string D3, .string D0], 26, none⟩, ⟨g2_7, #[.string C1, .string C2, .string C3, .string D1, .string D2, .string D3], 24, none⟩, ⟨g3_2, #[.string A1, .string A2, .string A3, .string A0, .string S1, .string S2, .string S3], 58, none⟩] [] [(10, 8), (11, 9)] [(0, 1)] [] [] (by kernel_rfl) B.out ⟨K0.out, K1.out, K2.out, K3.out, K4.out, trivial⟩ trivial ⟨ld 4 0, ld 1 0, ld 2 0, cl H_CE.out, pu, pu, pu, pu, ml 0, ml 1, ?_, ?_, pu, trivial⟩ ?_
  · intro L a U ho J hn d KK k; refine .free rfl ?_; have r8 : a.tmps[(8 : Nat)]?.getD undef = .pointer (some ⟨(blkOf (slotOf a 8)), 0, none⟩) := J.readN 0 rfl (d.get 8 rfl); have r44 := J.read 5 rfl (d.get 5 rfl); have kb := (J.nwB 0 rfl (d.get 8 rfl) hn).blk; have c0 := kb.at_ 0 _ rfl; have z0 := kb.free 0; have c1 := kb.at_ 1 _ rfl; have z1 := kb.free 1; have c2 := kb.at_ 2 _ rfl; have z2 := kb.free 2; clear kb; go_simp; exact k.out undef _ (J.storedN 10 0 rfl rfl rfl rfl rfl 0 [.string ⟨#[]⟩, .string ⟨#[]⟩, .string ⟨#[]⟩] rfl ⟨lt0, lt1, lt2, lt3, lt4, trivial⟩ (d.get 8 rfl) hn ⟨.inr (d.get 8 rfl), .inl (by decide), trivial⟩)
  · intro L a U ho J hn d KK k; refine .free rfl ?_; have r9 : a.tmps[(9 : Nat)]?.getD undef = .pointer (some ⟨(blkOf (slotOf a 9)), 0, none⟩) := J.readN 1 rfl (d.get 9 rfl); have r45 := J.read 6 rfl (d.get 6 rfl); have kb := (J.nwB 1 rfl (d.get 9 rfl) hn).blk; have c0 := kb.at_ 0 _ rfl; have z0 := kb.free 0; have c1 := kb.at_ 1 _ rfl; have z1 := kb.free 1; have c2 := kb.at_ 2 _ rfl; have z2 := kb.free 2; clear kb; go_simp; exact k.out undef _ (J.storedN 11 1 rfl rfl rfl rfl rfl 0 [.string ⟨#[]⟩, .string ⟨#[]⟩, .string ⟨#[]⟩] rfl ⟨lt0, lt1, lt2, lt3, lt4, trivial⟩ (d.get 9 rfl) hn ⟨.inl (by decide), .inr (d.get 9 rfl), trivial⟩)
  clear K0 K1 K2 K3 K4 B lt0 lt1 lt2 lt3 lt4
  rintro σ W4 ⟨⟨L5, K5⟩, ⟨L6, K6⟩, _⟩ ⟨K0, K1, K2, K3, K4, _⟩ _ ⟨y0, _⟩ B
  have D5_6 : Hid (blkOf (σ 8) ≠ blkOf (σ 9)) := y0
  clear y0
  simp only [slotsOf, finX, nval, nvalN, nvalA, Nat.reduceBEq, cond_true, cond_false, putAll, Act.put, List.setIfInBounds_toArray, List.set_cons_succ, List.set_cons_zero]
  generalize blkOf (σ 8) = g4_8 at *
  generalize blkOf (σ 9) = g4_9 at *
  have c5_0 := K5.out.at_ 0 _ rfl
  have c5_1 := K5.out.at_ 1 _ rfl
  have c5_2 := K5.out.at_ 2 _ rfl
  have c6_0 := K6.out.at_ 0 _ rfl
  have c6_1 := K6.out.at_ 1 _ rfl
  have c6_2 := K6.out.at_ 2 _ rfl
  go_upto_region 6 with (fail)
  clear c5_0 c5_1 c5_2 c6_0 c6_1 c6_2
  cases nu
  ·
   clear h_cx
   clear h_dx
   have q_f1 := f1 rfl
   clear f1
   clear f2
   clear f3
   clear f4
   clear f5
   clear f6
   clear d5
   go_upto_region 6 with (fail)
   refine wp_tab [.v 56 (.pointer (some ⟨g1_1, 0, none⟩)), .v 57 (.agg #[.string C1, .string C2, .string C3]), .v 58 (.pointer (some ⟨g1_2, 0, none⟩)), .v 59 (.agg #[.string D1, .string D2, .string D3]), .n 60, .v 61 (.pointer (some ⟨g1_1, 3, none⟩)), .v 62 (.string C0), .v 63 (.pointer (some ⟨g1_2, 3, none⟩)), .v 64 (.string D0), .n 65, .v 66 (.bool false), .v 67 (.bool true), .v 55 (.bool true)] [⟨4, 60, fun g => .slice (some ⟨g, 0, none⟩) 2 2, #[.string C1, .string C2, .string C3, .string D1, .string D2, .string D3], 24, none⟩, ⟨9, 65, fun g => .slice (some ⟨g, 0, none⟩) 2 2, #[.string C0, .string D0], 22, none⟩] [⟨g1_0, #[.int .i8 x, .int .i8 y, .int .i8 z, .int .i8 t, .int .i8 s, .int .i8 d, .bool sl, .bool sp], 56, none⟩, ⟨g1_1, #[.string C1, .string C2, .string C3, .string C0], 26, none⟩, ⟨g1_2, #[.string D1, .string D2, .string D3, .string D0], 26, none⟩, ⟨g2_7, #[.string C1, .string C2, .string C3, .string D1, .string D2, .string D3], 24, none⟩, ⟨g3_2, #[.string A1, .string A2, .string A3, .string A0, .string S1, .string S2, .string S3], 58, none⟩, ⟨g4_8, #[.string ⟨#[]⟩, .string ⟨#[]⟩, .string ⟨#[]⟩], 24, none⟩, ⟨g4_9, #[.string ⟨#[]⟩, .string ⟨#[]⟩, .string ⟨#[]⟩], 24, none⟩] [] [] [] [] [] (by kernel_rfl) B.out ⟨K0.out, K1.out, K2.out, K3.out, K4.out, K5.out, K6.out, trivial⟩ trivial ⟨pu, ld 1 0, pu, ld 2 0, ml 0, pu, ld 1 3, pu, ld 2 3, ml 1, c2 0 1 H_NU.out, pu, pu, trivial⟩ ?_
   clear K0 K1 K2 K3 K4 K5 K6 B
   rintro σ W5 ⟨⟨L7, K7⟩, ⟨L8, K8⟩, _⟩ ⟨K0, K1, K2, K3, K4, K5, K6, _⟩ _ _ B
   simp only [slotsOf, finX, nval, nvalN, nvalA, Nat.reduceBEq, cond_true, cond_false, putAll, Act.put, List.setIfInBounds_toArray, List.set_cons_succ, List.set_cons_zero]
   generalize blkOf (σ 60) = g5_4 at *
   generalize blkOf (σ 65) = g5_9 at *
   go_wp2
   go_ret
   exact ⟨rfl, B.out⟩
  ·
   replace h_cx := h_cx rfl
   replace h_dx := h_dx rfl
   clear f1
   replace f2 := f2 rfl
   replace f3 := f3 rfl
   replace f4 := f4 rfl
   replace f5 := f5 rfl
   replace f6 := f6 rfl
   replace d5 := d5 rfl
   go_upto_region 6 with (fail)
   refine wp_tab [.v 56 (.pointer (some ⟨g1_1, 0, none⟩)), .v 57 (.agg #[.string C1, .string C2, .string C3]), .v 58 (.pointer (some ⟨g1_2, 0, none⟩)), .v 59 (.agg #[.string D1, .string D2, .string D3]), .n 60, .v 61 (.pointer (some ⟨g1_1, 3, none⟩)), .v 62 (.string C0), .v 63 (.pointer (some ⟨g1_2, 3, none⟩)), .v 64 (.string D0), .n 65, .v 66 (.bool true), .v 67 (.bool false), .v 55 (.bool false)] [⟨4, 60, fun g => .slice (some ⟨g, 0, none⟩) 2 2, #[.string C1, .string C2, .string C3, .string D1, .string D2, .string D3], 24, none⟩, ⟨9, 65, fun g => .slice (some ⟨g, 0, none⟩) 2 2, #[.string C0, .string D0], 22, none⟩] [⟨g1_0, #[.int .i8 x, .int .i8 y, .int .i8 z, .int .i8 t, .int .i8 s, .int .i8 d, .bool sl, .bool sp], 56, none⟩, ⟨g1_1, #[.string C1, .string C2, .string C3, .string C0], 26, none⟩, ⟨g1_2, #[.string D1, .string D2, .string D3, .string D0], 26, none⟩, ⟨g2_7, #[.string C1, .string C2, .string C3, .string D1, .string D2, .string D3], 24, none⟩, ⟨g3_2, #[.string A1, .string A2, .string A3, .string A0, .string S1, .string S2, .string S3], 58, none⟩, ⟨g4_8, #[.string ⟨#[]⟩, .string ⟨#[]⟩, .string ⟨#[]⟩], 24, none⟩, ⟨g4_9, #[.string ⟨#[]⟩, .string ⟨#[]⟩, .string ⟨#[]⟩], 24, none⟩] [] [] [] [] [] (by kernel_rfl) B.out ⟨K0.out, K1.out, K2.out, K3.out, K4.out, K5.out, K6.out, trivial⟩ trivial ⟨pu, ld 1 0, pu, ld 2 0, ml 0, pu, ld 1 3, pu, ld 2 3, ml 1, c2 0 1 H_NU.out, pu, pu, trivial⟩ ?_
   clear K0 K1 K2 K3 K4 K5 K6 B
   rintro σ W5 ⟨⟨L7, K7⟩, ⟨L8, K8⟩, _⟩ ⟨K0, K1, K2, K3, K4, K5, K6, _⟩ _ _ B
   simp only [slotsOf, finX, nval, nvalN, nvalA, Nat.reduceBEq, cond_true, cond_false, putAll, Act.put, List.setIfInBounds_toArray, List.set_cons_succ, List.set_cons_zero]
   generalize blkOf (σ 60) = g5_4 at *
   generalize blkOf (σ 65) = g5_9 at *
   go_upto_region 8 with (fail)
   cases zc
   ·
    replace h_cx := h_cx rfl
    replace h_dx := h_dx rfl
    clear f2
    replace f3 := f3 rfl
    replace f4 := f4 rfl
    replace f5 := f5 rfl
    replace f6 := f6 rfl
    replace d5 := d5 rfl
    cases zd
    ·
     have H_CX := Lib.hid (h_cx rfl)
     clear h_cx
     have H_DX := Lib.hid (h_dx rfl)
     clear h_dx
     clear f3
     replace f4 := f4 rfl
     replace f5 := f5 rfl
     replace f6 := f6 rfl
     replace d5 := d5 rfl
     have c1_0 := K1.out.at_ 0 _ rfl
     have c1_1 := K1.out.at_ 1 _ rfl
     have c1_2 := K1.out.at_ 2 _ rfl
     have c2_0 := K2.out.at_ 0 _ rfl
     have c2_1 := K2.out.at_ 1 _ rfl
     have c2_2 := K2.out.at_ 2 _ rfl
     go_upto_region 10 with (
      (first
      | (go_at_call 16; with_reducible refine (H_ZC.out _ (baseI B.out)).mono ?_)
      | (go_at_call 16; with_reducible refine (H_ZD.out _ (baseI B.out)).mono ?_)
      | fail "arm"); rintro e wx ⟨rfl, q⟩; replace K0 := Lib.hid (K0.out.nearI q); replace K1 := Lib.hid (K1.out.nearI q); replace K2 := Lib.hid (K2.out.nearI q); replace K3 := Lib.hid (K3.out.nearI q); replace K4 := Lib.hid (K4.out.nearI q); replace K5 := Lib.hid (K5.out.nearI q); replace K6 := Lib.hid (K6.out.nearI q); replace K7 := Lib.hid (K7.out.nearI q); replace K8 := Lib.hid (K8.out.nearI q); replace B := Lib.hid (goI B.out q); clear q; replace c1_0 := K1.out.at_ 0 _ rfl; replace c1_1 := K1.out.at_ 1 _ rfl; replace c1_2 := K1.out.at_ 2 _ rfl; replace c2_0 := K2.out.at_ 0 _ rfl; replace c2_1 := K2.out.at_ 1 _ rfl; replace c2_2 := K2.out.at_ 2 _ rfl)
     clear c1_0 c1_1 c1_2 c2_0 c2_1 c2_2
     cases td
     ·
      clear f4
      have q_f5 := f5 rfl
      clear f5
      clear f6
      have q_d5 := d5 rfl
      clear d5
      exact q_d5.elim
     ·
      have q_f4 := f4 rfl
      clear f4
      clear f5
      have q_f6 := f6 rfl
      clear f6
      clear d5
      go_upto_region 10 with (fail)
      refine wp_tab [.v 88 (.pointer (some ⟨g3_2, 0, none⟩)), .v 89 (.pointer (some ⟨g3_2, 0, none⟩)), .v 90 (.agg #[.string A1, .string A2, .string A3]), .v 91 (.pointer (some ⟨g1_1, 0, none⟩)), .v 92 (.agg #[.string C1, .string C2, .string C3]), .v 93 (.pointer (some ⟨g1_2, 0, none⟩)), .v 94 (.agg #[.string D1, .string D2, .string D3]), .v 95 (.agg #[.string X1, .string X2, .string X3]), .v 96 (.string T), .v 97 (.bool true), .v 87 (.bool true)] [] [⟨g1_0, #[.int .i8 x, .int .i8 y, .int .i8 z, .int .i8 t, .int .i8 s, .int .i8 d, .bool sl, .bool sp], 56, none⟩, ⟨g1_1, #[.string C1, .string C2, .string C3, .string C0], 26, none⟩, ⟨g1_2, #[.string D1, .string D2, .string D3, .string D0], 26, none⟩, ⟨g2_7, #[.string C1, .string C2, .string C3, .string D1, .string D2, .string D3], 24, none⟩, ⟨g3_2, #[.string A1, .string A2, .string A3, .string A0, .string S1, .string S2, .string S3], 58, none⟩, ⟨g4_8, #[.string ⟨#[]⟩, .string ⟨#[]⟩, .string ⟨#[]⟩], 24, none⟩, ⟨g4_9, #[.string ⟨#[]⟩, .string ⟨#[]⟩, .string ⟨#[]⟩], 24, none⟩, ⟨g5_4, #[.string C1, .string C2, .string C3, .string D1, .string D2, .string D3], 24, none⟩, ⟨g5_9, #[.string C0, .string D0], 22, none⟩] [] [] [] [] [] (by kernel_rfl) B.out ⟨K0.out, K1.out, K2.out, K3.out, K4.out, K5.out, K6.out, K7.out, K8.out, trivial⟩ trivial ⟨pu, pu, ld 4 0, pu, ld 1 0, pu, ld 2 0, cl H_CX.out, cl H_DX.out, ?_, pu, trivial⟩ ?_
      · intro L a U ho J hn d KK k; refine .free rfl ?_; have r96 := J.read 8 rfl (d.get 8 rfl); go_simp; exact k.out _ _ (J.st 9 rfl rfl)
      clear K0 K1 K2 K3 K4 K5 K6 K7 K8 B
      rintro σ W6 _ ⟨K0, K1, K2, K3, K4, K5, K6, K7, K8, _⟩ _ _ B
      simp only [slotsOf, finX, nval, nvalN, nvalA, Nat.reduceBEq, cond_true, cond_false, putAll, Act.put, List.setIfInBounds_toArray, List.set_cons_succ, List.set_cons_zero]
      go_wp2
      go_ret
      exact ⟨rfl, B.out⟩
    ·
     clear h_cx
     clear h_dx
     have q_f3 := f3 rfl
     clear f3
     clear f4
     clear f5
     clear f6
     clear d5
     have c1_0 := K1.out.at_ 0 _ rfl
     have c1_1 := K1.out.at_ 1 _ rfl
     have c1_2 := K1.out.at_ 2 _ rfl
     have c2_0 := K2.out.at_ 0 _ rfl
     have c2_1 := K2.out.at_ 1 _ rfl
     have c2_2 := K2.out.at_ 2 _ rfl
     go_wp2_with (
      (first
      | (go_at_call 16; with_reducible refine (H_ZC.out _ (baseI B.out)).mono ?_)
      | (go_at_call 16; with_reducible refine (H_ZD.out _ (baseI B.out)).mono ?_)
      | fail "arm"); rintro e wx ⟨rfl, q⟩; replace K0 := Lib.hid (K0.out.nearI q); replace K1 := Lib.hid (K1.out.nearI q); replace K2 := Lib.hid (K2.out.nearI q); replace K3 := Lib.hid (K3.out.nearI q); replace K4 := Lib.hid (K4.out.nearI q); replace K5 := Lib.hid (K5.out.nearI q); replace K6 := Lib.hid (K6.out.nearI q); replace K7 := Lib.hid (K7.out.nearI q); replace K8 := Lib.hid (K8.out.nearI q); replace B := Lib.hid (goI B.out q); clear q; replace c1_0 := K1.out.at_ 0 _ rfl; replace c1_1 := K1.out.at_ 1 _ rfl; replace c1_2 := K1.out.at_ 2 _ rfl; replace c2_0 := K2.out.at_ 0 _ rfl; replace c2_1 := K2.out.at_ 1 _ rfl; replace c2_2 := K2.out.at_ 2 _ rfl)
     clear c1_0 c1_1 c1_2 c2_0 c2_1 c2_2
     go_ret
     exact ⟨rfl, B.out⟩
   ·
    clear h_cx
    clear h_dx
    have q_f2 := f2 rfl
    clear f2
    clear f3
    clear f4
    clear f5
    clear f6
    clear d5
    have c1_0 := K1.out.at_ 0 _ rfl
    have c1_1 := K1.out.at_ 1 _ rfl
    have c1_2 := K1.out.at_ 2 _ rfl
    go_wp2_with (
     (first
     | (go_at_call 16; with_reducible refine (H_ZC.out _ (baseI B.out)).mono ?_)
     | fail "arm"); rintro e wx ⟨rfl, q⟩; replace K0 := Lib.hid (K0.out.nearI q); replace K1 := Lib.hid (K1.out.nearI q); replace K2 := Lib.hid (K2.out.nearI q); replace K3 := Lib.hid (K3.out.nearI q); replace K4 := Lib.hid (K4.out.nearI q); replace K5 := Lib.hid (K5.out.nearI q); replace K6 := Lib.hid (K6.out.nearI q); replace K7 := Lib.hid (K7.out.nearI q); replace K8 := Lib.hid (K8.out.nearI q); replace B := Lib.hid (goI B.out q); clear q; replace c1_0 := K1.out.at_ 0 _ rfl; replace c1_1 := K1.out.at_ 1 _ rfl; replace c1_2 := K1.out.at_ 2 _ rfl)
    clear c1_0 c1_1 c1_2
    go_ret
    exact ⟨rfl, B.out⟩
 ·
  clear h_ce
  have H_CO := Lib.hid (h_co rfl)
  clear h_co
  replace h_ds := h_ds rfl
  replace h_ad := h_ad rfl
  replace h_ro := h_ro rfl
  replace h_ri := h_ri rfl
  replace h_o1 := h_o1 rfl
  replace h_o2 := h_o2 rfl
  replace h_o3 := h_o3 rfl
  replace h_o4 := h_o4 rfl
  replace h_o5 := h_o5 rfl
  replace h_o6 := h_o6 rfl
  have q_g1 := g1 rfl
  clear g1
  have q_g2 := g2 rfl
  clear g2
  clear f1
  clear f2
  clear f3
  clear f6
  replace d1 := d1 rfl
  replace d2 := d2 rfl
  replace d3 := d3 rfl
  replace d4 := d4 rfl
  clear d5
  go_upto_region 4 with (fail)
  have lt0 := K0.out.lt
  have lt1 := K1.out.lt
  have lt2 := K2.out.lt
  have lt3 := K3.out.lt
  have lt4 := K4.out.lt
  refine wp_tab [.v 40 (.agg #[.string A1, .string A2, .string A3, .string A0, .string S1, .string S2, .string S3]), .v 41 (.agg #[.string C1, .string C2, .string C3, .string C0]), .v 42 (.agg #[.string D1, .string D2, .string D3, .string D0]), .v 43 (.tuple #[.agg #[.string O1, .string O2, .string O3], .agg #[.string I1, .string I2, .string I3], .int .i64 0]), .v 39 (.tuple #[.agg #[.string O1, .string O2, .string O3], .agg #[.string I1, .string I2, .string I3], .int .i64 0]), .v 44 (.agg #[.string O1, .string O2, .string O3]), .v 45 (.agg #[.string I1, .string I2, .string I3]), .v 46 (.int .i64 0), .n 8, .n 9, .z, .z, .v 10 (.int .i64 0)] [⟨8, 8, fun g => .pointer (some ⟨g, 0, none⟩), #[.string ⟨#[]⟩, .string ⟨#[]⟩, .string ⟨#[]⟩], 24, some (10, #[.string O1, .string O2, .string O3])⟩, ⟨9, 9, fun g => .pointer (some ⟨g, 0, none⟩), #[.string ⟨#[]⟩, .string ⟨#[]⟩, .string ⟨#[]⟩], 24, some (11, #[.string I1, .string I2, .string I3])⟩] [⟨g1_0, #[.int .i8 x, .int .i8 y, .int .i8 z, .int .i8 t, .int .i8 s, .int .i8 d, .bool sl, .bool sp], 56, none⟩, ⟨g1_1, #[.string C1, .string C2, .string C3, .string C0], 26, none⟩, ⟨g1_2, #[.string D1, .string D2, .string D3, .string D0], 26, none⟩, ⟨g2_7, #[.string C1, .string C2, .string C3, .string D1, .string D2, .string D3], 24, none⟩, ⟨g3_2, #[.string A1, .string A2, .string A3, .string A0, .string S1, .string S2, .string S3], 58, none⟩] [] [(10, 8), (11, 9)] [(0, 1)] [] [] (by kernel_rfl) B.out ⟨K0.out, K1.out, K2.out, K3.out, K4.out, trivial⟩ trivial ⟨ld 4 0, ld 1 0, ld 2 0, cl H_CO.out, pu, pu, pu, pu, ml 0, ml 1, ?_, ?_, pu, trivial⟩ ?_
  · intro L a U ho J hn d KK k; refine .free rfl ?_; have r8 : a.tmps[(8 : Nat)]?.getD undef = .pointer (some ⟨(blkOf (slotOf a 8)), 0, none⟩) := J.readN 0 rfl (d.get 8 rfl); have r44 := J.read 5 rfl (d.get 5 rfl); have kb := (J.nwB 0 rfl (d.get 8 rfl) hn).blk; have c0 := kb.at_ 0 _ rfl; have z0 := kb.free 0; have c1 := kb.at_ 1 _ rfl; have z1 := kb.free 1; have c2 := kb.at_ 2 _ rfl; have z2 := kb.free 2; clear kb; go_simp; exact k.out undef _ (J.storedN 10 0 rfl rfl rfl rfl rfl 0 [.string O1, .string O2, .string O3] rfl ⟨lt0, lt1, lt2, lt3, lt4, trivial⟩ (d.get 8 rfl) hn ⟨.inr (d.get 8 rfl), .inl (by decide), trivial⟩)
  · intro L a U ho J hn d KK k; refine .free rfl ?_; have r9 : a.tmps[(9 : Nat)]?.getD undef = .pointer (some ⟨(blkOf (slotOf a 9)), 0, none⟩) := J.readN 1 rfl (d.get 9 rfl); have r45 := J.read 6 rfl (d.get 6 rfl); have kb := (J.nwB 1 rfl (d.get 9 rfl) hn).blk; have c0 := kb.at_ 0 _ rfl; have z0 := kb.free 0; have c1 := kb.at_ 1 _ rfl; have z1 := kb.free 1; have c2 := kb.at_ 2 _ rfl; have z2 := kb.free 2; clear kb; go_simp; exact k.out undef _ (J.storedN 11 1 rfl rfl rfl rfl rfl 0 [.string I1, .string I2, .string I3] rfl ⟨lt0, lt1, lt2, lt3, lt4, trivial⟩ (d.get 9 rfl) hn ⟨.inl (by decide), .inr (d.get 9 rfl), trivial⟩)
  clear K0 K1 K2 K3 K4 B lt0 lt1 lt2 lt3 lt4
  rintro σ W4 ⟨⟨L5, K5⟩, ⟨L6, K6⟩, _⟩ ⟨K0, K1, K2, K3, K4, _⟩ _ ⟨y0, _⟩ B
  have D5_6 : Hid (blkOf (σ 8) ≠ blkOf (σ 9)) := y0
  clear y0
  simp only [slotsOf, finX, nval, nvalN, nvalA, Nat.reduceBEq, cond_true, cond_false, putAll, Act.put, List.setIfInBounds_toArray, List.set_cons_succ, List.set_cons_zero]
  generalize blkOf (σ 8) = g4_8 at *
  generalize blkOf (σ 9) = g4_9 at *
  have c5_0 := K5.out.at_ 0 _ rfl
  have c5_1 := K5.out.at_ 1 _ rfl
  have c5_2 := K5.out.at_ 2 _ rfl
  go_upto_region 6 with (fail)
  clear c5_0 c5_1 c5_2
  cases nu
  ·
   clear h_cx
   clear h_dx
   clear h_ds
   clear h_ad
   clear h_ro
   clear h_ri
   clear h_o1
   clear h_o2
   clear h_o3
   clear h_o4
   clear h_o5
   clear h_o6
   clear f4
   clear f5
   have q_d1 := d1 rfl
   clear d1
   clear d2
   clear d3
   clear d4
   exact q_d1.elim
  ·
   replace h_cx := h_cx rfl
   replace h_dx := h_dx rfl
   replace h_ds := h_ds rfl
   replace h_ad := h_ad rfl
   replace h_ro := h_ro rfl
   replace h_ri := h_ri rfl
   replace h_o1 := h_o1 rfl
   replace h_o2 := h_o2 rfl
   replace h_o3 := h_o3 rfl
   replace h_o4 := h_o4 rfl
   replace h_o5 := h_o5 rfl
   replace h_o6 := h_o6 rfl
   replace f4 := f4 rfl
   replace f5 := f5 rfl
   clear d1
   replace d2 := d2 rfl
   replace d3 := d3 rfl
   replace d4 := d4 rfl
   go_upto_region 6 with (fail)
   refine wp_tab [.v 56 (.pointer (some ⟨g1_1, 0, none⟩)), .v 57 (.agg #[.string C1, .string C2, .string C3]), .v 58 (.pointer (some ⟨g1_2, 0, none⟩)), .v 59 (.agg #[.string D1, .string D2, .string D3]), .n 60, .v 61 (.pointer (some ⟨g1_1, 3, none⟩)), .v 62 (.string C0), .v 63 (.pointer (some ⟨g1_2, 3, none⟩)), .v 64 (.string D0), .n 65, .v 66 (.bool true), .v 67 (.bool false), .v 55 (.bool false)] [⟨4, 60, fun g => .slice (some ⟨g, 0, none⟩) 2 2, #[.string C1, .string C2, .string C3, .string D1, .string D2, .string D3], 24, none⟩, ⟨9, 65, fun g => .slice (some ⟨g, 0, none⟩) 2 2, #[.string C0, .string D0], 22, none⟩] [⟨g1_0, #[.int .i8 x, .int .i8 y, .int .i8 z, .int .i8 t, .int .i8 s, .int .i8 d, .bool sl, .bool sp], 56, none⟩, ⟨g1_1, #[.string C1, .string C2, .string C3, .string C0], 26, none⟩, ⟨g1_2, #[.string D1, .string D2, .string D3, .string D0], 26, none⟩, ⟨g2_7, #[.string C1, .string C2, .string C3, .string D1, .string D2, .string D3], 24, none⟩, ⟨g3_2, #[.string A1, .string A2, .string A3, .string A0, .string S1, .string S2, .string S3], 58, none⟩, ⟨g4_8, #[.string O1, .string O2, .string O3], 24, none⟩, ⟨g4_9, #[.string I1, .string I2, .string I3], 24, none⟩] [] [] [] [] [] (by kernel_rfl) B.out ⟨K0.out, K1.out, K2.out, K3.out, K4.out, K5.out, K6.out, trivial⟩ trivial ⟨pu, ld 1 0, pu, ld 2 0, ml 0, pu, ld 1 3, pu, ld 2 3, ml 1, c2 0 1 H_NU.out, pu, pu, trivial⟩ ?_
   clear K0 K1 K2 K3 K4 K5 K6 B
   rintro σ W5 ⟨⟨L7, K7⟩, ⟨L8, K8⟩, _⟩ ⟨K0, K1, K2, K3, K4, K5, K6, _⟩ _ _ B
   simp only [slotsOf, finX, nval, nvalN, nvalA, Nat.reduceBEq, cond_true, cond_false, putAll, Act.put, List.setIfInBounds_toArray, List.set_cons_succ, List.set_cons_zero]
   generalize blkOf (σ 60) = g5_4 at *
   generalize blkOf (σ 65) = g5_9 at *
   go_upto_region 8 with (fail)
   cases zc
   ·
    replace h_cx := h_cx rfl
    replace h_dx := h_dx rfl
    replace h_ds := h_ds rfl
    replace h_ad := h_ad rfl
    replace h_ro := h_ro rfl
    replace h_ri := h_ri rfl
    replace h_o1 := h_o1 rfl
    replace h_o2 := h_o2 rfl
    replace h_o3 := h_o3 rfl
    replace h_o4 := h_o4 rfl
    replace h_o5 := h_o5 rfl
    replace h_o6 := h_o6 rfl
    replace f4 := f4 rfl
    replace f5 := f5 rfl
    clear d2
    replace d3 := d3 rfl
    replace d4 := d4 rfl
    cases zd
    ·
     have H_CX := Lib.hid (h_cx rfl)
     clear h_cx
     have H_DX := Lib.hid (h_dx rfl)
     clear h_dx
     have H_DS := Lib.hid (h_ds rfl)
     clear h_ds
     have H_AD := Lib.hid (h_ad rfl)
     clear h_ad
     have H_RO := Lib.hid (h_ro rfl)
     clear h_ro
     have H_RI := Lib.hid (h_ri rfl)
     clear h_ri
     have H_O1 := Lib.hid (h_o1 rfl)
     clear h_o1
     have H_O2 := Lib.hid (h_o2 rfl)
     clear h_o2
     have H_O3 := Lib.hid (h_o3 rfl)
     clear h_o3
     have H_O4 := Lib.hid (h_o4 rfl)
     clear h_o4
     have H_O5 := Lib.hid (h_o5 rfl)
     clear h_o5
     have H_O6 := Lib.hid (h_o6 rfl)
     clear h_o6
     replace f4 := f4 rfl
     replace f5 := f5 rfl
     clear d3
     replace d4 := d4 rfl
     have c1_0 := K1.out.at_ 0 _ rfl
     have c1_1 := K1.out.at_ 1 _ rfl
     have c1_2 := K1.out.at_ 2 _ rfl
     have c2_0 := K2.out.at_ 0 _ rfl
     have c2_1 := K2.out.at_ 1 _ rfl
     have c2_2 := K2.out.at_ 2 _ rfl
     go_upto_region 10 with (
      (first
      | (go_at_call 16; with_reducible refine (H_ZC.out _ (baseI B.out)).mono ?_)
      | (go_at_call 16; with_reducible refine (H_ZD.out _ (baseI B.out)).mono ?_)
      | fail "arm"); rintro e wx ⟨rfl, q⟩; replace K0 := Lib.hid (K0.out.nearI q); replace K1 := Lib.hid (K1.out.nearI q); replace K2 := Lib.hid (K2.out.nearI q); replace K3 := Lib.hid (K3.out.nearI q); replace K4 := Lib.hid (K4.out.nearI q); replace K5 := Lib.hid (K5.out.nearI q); replace K6 := Lib.hid (K6.out.nearI q); replace K7 := Lib.hid (K7.out.nearI q); replace K8 := Lib.hid (K8.out.nearI q); replace B := Lib.hid (goI B.out q); clear q; replace c1_0 := K1.out.at_ 0 _ rfl; replace c1_1 := K1.out.at_ 1 _ rfl; replace c1_2 := K1.out.at_ 2 _ rfl; replace c2_0 := K2.out.at_ 0 _ rfl; replace c2_1 := K2.out.at_ 1 _ rfl; replace c2_2 := K2.out.at_ 2 _ rfl)
     clear c1_0 c1_1 c1_2 c2_0 c2_1 c2_2
     cases td
     ·
      clear f4
      have q_f5 := f5 rfl
      clear f5
      clear d4
      go_upto_region 10 with (fail)
      refine wp_tab [.v 88 (.pointer (some ⟨g3_2, 0, none⟩)), .v 89 (.pointer (some ⟨g3_2, 0, none⟩)), .v 90 (.agg #[.string A1, .string A2, .string A3]), .v 91 (.pointer (some ⟨g1_1, 0, none⟩)), .v 92 (.agg #[.string C1, .string C2, .string C3]), .v 93 (.pointer (some ⟨g1_2, 0, none⟩)), .v 94 (.agg #[.string D1, .string D2, .string D3]), .v 95 (.agg #[.string X1, .string X2, .string X3]), .v 96 (.string T), .v 97 (.bool false), .v 87 (.bool false)] [] [⟨g1_0, #[.int .i8 x, .int .i8 y, .int .i8 z, .int .i8 t, .int .i8 s, .int .i8 d, .bool sl, .bool sp], 56, none⟩, ⟨g1_1, #[.string C1, .string C2, .string C3, .string C0], 26, none⟩, ⟨g1_2, #[.string D1, .string D2, .string D3, .string D0], 26, none⟩, ⟨g2_7, #[.string C1, .string C2, .string C3, .string D1, .string D2, .string D3], 24, none⟩, ⟨g3_2, #[.string A1, .string A2, .string A3, .string A0, .string S1, .string S2, .string S3], 58, none⟩, ⟨g4_8, #[.string O1, .string O2, .string O3], 24, none⟩, ⟨g4_9, #[.string I1, .string I2, .string I3], 24, none⟩, ⟨g5_4, #[.string C1, .string C2, .string C3, .string D1, .string D2, .string D3], 24, none⟩, ⟨g5_9, #[.string C0, .string D0], 22, none⟩] [] [] [] [] [] (by kernel_rfl) B.out ⟨K0.out, K1.out, K2.out, K3.out, K4.out, K5.out, K6.out, K7.out, K8.out, trivial⟩ trivial ⟨pu, pu, ld 4 0, pu, ld 1 0, pu, ld 2 0, cl H_CX.out, cl H_DX.out, ?_, pu, trivial⟩ ?_
      · intro L a U ho J hn d KK k; refine .free rfl ?_; have r96 := J.read 8 rfl (d.get 8 rfl); go_simp; exact k.out _ _ (J.st 9 rfl rfl)
      clear K0 K1 K2 K3 K4 K5 K6 K7 K8 B
      rintro σ W6 _ ⟨K0, K1, K2, K3, K4, K5, K6, K7, K8, _⟩ _ _ B
      simp only [slotsOf, finX, nval, nvalN, nvalA, Nat.reduceBEq, cond_true, cond_false, putAll, Act.put, List.setIfInBounds_toArray, List.set_cons_succ, List.set_cons_zero]
      go_upto_region 12 with (fail)
      have lt0 := K0.out.lt
      have lt1 := K1.out.lt
      have lt2 := K2.out.lt
      have lt3 := K3.out.lt
      have lt4 := K4.out.lt
      have lt5 := K5.out.lt
      have lt6 := K6.out.lt
      have lt7 := K7.out.lt
      have lt8 := K8.out.lt
      refine wp_tab [.v 103 (.agg #[.string C1, .string C2, .string C3, .string C0]), .n 12, .z] [⟨1, 12, fun g => .pointer (some ⟨g, 0, none⟩), #[.string ⟨#[]⟩, .string ⟨#[]⟩, .string ⟨#[]⟩, .string ⟨#[]⟩], 26, some (2, #[.string C1, .string C2, .string C3, .string C0])⟩] [⟨g1_0, #[.int .i8 x, .int .i8 y, .int .i8 z, .int .i8 t, .int .i8 s, .int .i8 d, .bool sl, .bool sp], 56, none⟩, ⟨g1_1, #[.string C1, .string C2, .string C3, .string C0], 26, none⟩, ⟨g1_2, #[.string D1, .string D2, .string D3, .string D0], 26, none⟩, ⟨g2_7, #[.string C1, .string C2, .string C3, .string D1, .string D2, .string D3], 24, none⟩, ⟨g3_2, #[.string A1, .string A2, .string A3, .string A0, .string S1, .string S2, .string S3], 58, none⟩, ⟨g4_8, #[.string O1, .string O2, .string O3], 24, none⟩, ⟨g4_9, #[.string I1, .string I2, .string I3], 24, none⟩, ⟨g5_4, #[.string C1, .string C2, .string C3, .string D1, .string D2, .string D3], 24, none⟩, ⟨g5_9, #[.string C0, .string D0], 22, none⟩] [] [(2, 1)] [] [(0, 0), (1, 0), (2, 0), (3, 0), (4, 0), (5, 0), (6, 0), (7, 0), (8, 0)] [] (by kernel_rfl) B.out ⟨K0.out, K1.out, K2.out, K3.out, K4.out, K5.out, K6.out, K7.out, K8.out, trivial⟩ trivial ⟨ld 1 0, ml 0, ?_, trivial⟩ ?_
      · intro L a U ho J hn d KK k; refine .free rfl ?_; have r12 : a.tmps[(12 : Nat)]?.getD undef = .pointer (some ⟨(blkOf (slotOf a 12)), 0, none⟩) := J.readN 0 rfl (d.get 1 rfl); have r103 := J.read 0 rfl (d.get 0 rfl); have kb := (J.nwB 0 rfl (d.get 1 rfl) hn).blk; have c0 := kb.at_ 0 _ rfl; have z0 := kb.free 0; have c1 := kb.at_ 1 _ rfl; have z1 := kb.free 1; have c2 := kb.at_ 2 _ rfl; have z2 := kb.free 2; have c3 := kb.at_ 3 _ rfl; have z3 := kb.free 3; clear kb; go_simp; exact k.out undef _ (J.storedN 2 0 rfl rfl rfl rfl rfl 0 [.string C1, .string C2, .string C3, .string C0] rfl ⟨lt0, lt1, lt2, lt3, lt4, lt5, lt6, lt7, lt8, trivial⟩ (d.get 1 rfl) hn ⟨.inr (d.get 1 rfl), trivial⟩)
      clear K0 K1 K2 K3 K4 K5 K6 K7 K8 B lt0 lt1 lt2 lt3 lt4 lt5 lt6 lt7 lt8
      rintro σ W7 ⟨⟨L9, K9⟩, _⟩ ⟨K0, K1, K2, K3, K4, K5, K6, K7, K8, _⟩ ⟨x0, x1, x2, x3, x4, x5, x6, x7, x8, _⟩ _ B
      have D0_9 : Hid (g1_0 ≠ blkOf (σ 12)) := x0
      have D1_9 : Hid (g1_1 ≠ blkOf (σ 12)) := x1
      have D2_9 : Hid (g1_2 ≠ blkOf (σ 12)) := x2
      have D3_9 : Hid (g2_7 ≠ blkOf (σ 12)) := x3
      have D4_9 : Hid (g3_2 ≠ blkOf (σ 12)) := x4
      have D5_9 : Hid (g4_8 ≠ blkOf (σ 12)) := x5
      have D6_9 : Hid (g4_9 ≠ blkOf (σ 12)) := x6
      have D7_9 : Hid (g5_4 ≠ blkOf (σ 12)) := x7
      have D8_9 : Hid (g5_9 ≠ blkOf (σ 12)) := x8
      clear x0 x1 x2 x3 x4 x5 x6 x7 x8
      simp only [slotsOf, finX, nval, nvalN, nvalA, Nat.reduceBEq, cond_true, cond_false, putAll, Act.put, List.setIfInBounds_toArray, List.set_cons_succ, List.set_cons_zero]
      generalize blkOf (σ 12) = g7_1 at *
      go_upto_region 13 with (fail)
      have lt0 := K0.out.lt
      have lt1 := K1.out.lt
      have lt2 := K2.out.lt
      have lt3 := K3.out.lt
      have lt4 := K4.out.lt
      have lt5 := K5.out.lt
      have lt6 := K6.out.lt
      have lt7 := K7.out.lt
      have lt8 := K8.out.lt
      have lt9 := K9.out.lt
      refine wp_tab [.v 104 (.pointer (some ⟨g1_1, 3, none⟩)), .v 105 (.string C0), .v 106 (.pointer (some ⟨g1_1, 0, none⟩)), .v 107 (.agg #[.string C1, .string C2, .string C3]), .v 108 (.pointer (some ⟨g3_2, 4, none⟩)), .v 109 (.agg #[.string S1, .string S2, .string S3]), .v 110 (.string P), .v 111 (.string M), .v 112 (.pointer (some ⟨g7_1, 3, none⟩)), .z] [] [⟨g1_0, #[.int .i8 x, .int .i8 y, .int .i8 z, .int .i8 t, .int .i8 s, .int .i8 d, .bool sl, .bool sp], 56, none⟩, ⟨g1_1, #[.string C1, .string C2, .string C3, .string C0], 26, none⟩, ⟨g1_2, #[.string D1, .string D2, .string D3, .string D0], 26, none⟩, ⟨g2_7, #[.string C1, .string C2, .string C3, .string D1, .string D2, .string D3], 24, none⟩, ⟨g3_2, #[.string A1, .string A2, .string A3, .string A0, .string S1, .string S2, .string S3], 58, none⟩, ⟨g4_8, #[.string O1, .string O2, .string O3], 24, none⟩, ⟨g4_9, #[.string I1, .string I2, .string I3], 24, none⟩, ⟨g5_4, #[.string C1, .string C2, .string C3, .string D1, .string D2, .string D3], 24, none⟩, ⟨g5_9, #[.string C0, .string D0], 22, none⟩, ⟨g7_1, #[.string C1, .string C2, .string C3, .string C0], 26, some (9, #[.string C1, .string C2, .string C3, .string M])⟩] [] [] [] [] [] (by kernel_rfl) B.out ⟨K0.out, K1.out, K2.out, K3.out, K4.out, K5.out, K6.out, K7.out, K8.out, K9.out, trivial⟩ trivial ⟨pu, ld 1 3, pu, ld 1 0, pu, ld 4 4, cl H_DS.out, cl H_AD.out, pu, ?_, trivial⟩ ?_
      · intro L a U ho J hn d KK k; refine .free rfl ?_; have r112 := J.read 8 rfl (d.get 8 rfl); have r111 := J.read 7 rfl (d.get 7 rfl); have kb := (J.eldB 9 rfl hn); have c3 := kb.at_ 3 _ rfl; have z3 := kb.free 3; clear kb; go_simp; exact k.out undef _ (J.stored 9 9 rfl rfl (.inl rfl) rfl rfl 3 [.string M] rfl L9.out lt9 ⟨.inr D0_9.out, .inr D1_9.out, .inr D2_9.out, .inr D3_9.out, .inr D4_9.out, .inr D5_9.out, .inr D6_9.out, .inr D7_9.out, .inr D8_9.out, .inl rfl, trivial⟩ hn trivial)
      clear K0 K1 K2 K3 K4 K5 K6 K7 K8 K9 B lt0 lt1 lt2 lt3 lt4 lt5 lt6 lt7 lt8 lt9
      rintro σ W8 _ ⟨K0, K1, K2, K3, K4, K5, K6, K7, K8, K9, _⟩ _ _ B
      simp only [slotsOf, finX, nval, nvalN, nvalA, Nat.reduceBEq, cond_true, cond_false, putAll, Act.put, List.setIfInBounds_toArray, List.set_cons_succ, List.set_cons_zero]
      have c1_0 := K1.out.at_ 0 _ rfl
      have c1_1 := K1.out.at_ 1 _ rfl
      have c1_2 := K1.out.at_ 2 _ rfl
      have c1_3 := K1.out.at_ 3 _ rfl
      have c2_0 := K2.out.at_ 0 _ rfl
      have c2_1 := K2.out.at_ 1 _ rfl
      have c2_2 := K2.out.at_ 2 _ rfl
      have c2_3 := K2.out.at_ 3 _ rfl
      have c4_0 := K4.out.at_ 0 _ rfl
      have c4_1 := K4.out.at_ 1 _ rfl
      have c4_2 := K4.out.at_ 2 _ rfl
      have c4_3 := K4.out.at_ 3 _ rfl
      have c5_0 := K5.out.at_ 0 _ rfl
      have c5_1 := K5.out.at_ 1 _ rfl
      have c5_2 := K5.out.at_ 2 _ rfl
      have c6_0 := K6.out.at_ 0 _ rfl
      have c6_1 := K6.out.at_ 1 _ rfl
      have c6_2 := K6.out.at_ 2 _ rfl
      have c9_0 := K9.out.at_ 0 _ rfl
      have c9_1 := K9.out.at_ 1 _ rfl
      have c9_2 := K9.out.at_ 2 _ rfl
      have c9_3 := K9.out.at_ 3 _ rfl
      go_wp2_with (
       (first
       | (go_at_call 19; with_reducible refine (H_RO.out _ (baseI B.out)).mono ?_)
       | (go_at_call 19; with_reducible refine (H_RI.out _ (baseI B.out)).mono ?_)
       | (go_at_call 25; with_reducible refine (H_O1.out _ (baseI B.out)).mono ?_)
       | (go_at_call 25; with_reducible refine (H_O2.out _ (baseI B.out)).mono ?_)
       | (go_at_call 25; with_reducible refine (H_O3.out _ (baseI B.out)).mono ?_)
       | (go_at_call 25; with_reducible refine (H_O4.out _ (baseI B.out)).mono ?_)
       | (go_at_call 25; with_reducible refine (H_O5.out _ (baseI B.out)).mono ?_)
       | (go_at_call 25; with_reducible refine (H_O6.out _ (baseI B.out)).mono ?_)
       | fail "arm"); rintro e wx ⟨rfl, q⟩; replace K0 := Lib.hid (K0.out.nearI q); replace K1 := Lib.hid (K1.out.nearI q); replace K2 := Lib.hid (K2.out.nearI q); replace K3 := Lib.hid (K3.out.nearI q); replace K4 := Lib.hid (K4.out.nearI q); replace K5 := Lib.hid (K5.out.nearI q); replace K6 := Lib.hid (K6.out.nearI q); replace K7 := Lib.hid (K7.out.nearI q); replace K8 := Lib.hid (K8.out.nearI q); replace K9 := Lib.hid (K9.out.nearI q); replace B := Lib.hid (goI B.out q); clear q; replace c1_0 := K1.out.at_ 0 _ rfl; replace c1_1 := K1.out.at_ 1 _ rfl; replace c1_2 := K1.out.at_ 2 _ rfl; replace c1_3 := K1.out.at_ 3 _ rfl; replace c2_0 := K2.out.at_ 0 _ rfl; replace c2_1 := K2.out.at_ 1 _ rfl; replace c2_2 := K2.out.at_ 2 _ rfl; replace c2_3 := K2.out.at_ 3 _ rfl; replace c4_0 := K4.out.at_ 0 _ rfl; replace c4_1 := K4.out.at_ 1 _ rfl; replace c4_2 := K4.out.at_ 2 _ rfl; replace c4_3 := K4.out.at_ 3 _ rfl; replace c5_0 := K5.out.at_ 0 _ rfl; replace c5_1 := K5.out.at_ 1 _ rfl; replace c5_2 := K5.out.at_ 2 _ rfl; replace c6_0 := K6.out.at_ 0 _ rfl; replace c6_1 := K6.out.at_ 1 _ rfl; replace c6_2 := K6.out.at_ 2 _ rfl; replace c9_0 := K9.out.at_ 0 _ rfl; replace c9_1 := K9.out.at_ 1 _ rfl; replace c9_2 := K9.out.at_ 2 _ rfl; replace c9_3 := K9.out.at_ 3 _ rfl)
      clear c1_0 c1_1 c1_2 c1_3 c2_0 c2_1 c2_2 c2_3 c4_0 c4_1 c4_2 c4_3 c5_0 c5_1 c5_2 c6_0 c6_1 c6_2 c9_0 c9_1 c9_2 c9_3
      go_ret
      exact ⟨rfl, B.out⟩
     ·
      have q_f4 := f4 rfl
      clear f4
      clear f5
      have q_d4 := d4 rfl
      clear d4
      exact q_d4.elim
    ·
     clear h_cx
     clear h_dx
     clear h_ds
     clear h_ad
     clear h_ro
     clear h_ri
     clear h_o1
     clear h_o2
     clear h_o3
     clear h_o4
     clear h_o5
     clear h_o6
     clear f4
     clear f5
     have q_d3 := d3 rfl
     clear d3
     clear d4
     exact q_d3.elim
   ·
    clear h_cx
    clear h_dx
    clear h_ds
    clear h_ad
    clear h_ro
    clear h_ri
    clear h_o1
    clear h_o2
    clear h_o3
    clear h_o4
    clear h_o5
    clear h_o6
    clear f4
    clear f5
    have q_d2 := d2 rfl
    clear d2
    clear d3
    clear d4
    exact q_d2.elim

end Go.Proofs.YtopilnlniidejaaGreatDoor
