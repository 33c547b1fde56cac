/- The walks of the laws of klippelaw42, over texts: SlipSeparations. -/
import Derived.Test.YtopilnlniidejaaGreatDoorShelf
import Derived.Test.YtopilnlniidejaaGreatDoorGPar
import Derived.Deep.RegionHeld3
import Derived.Laws.ResultCell
import Derived.Deep.Cut
import Derived.Deep.CutRange
import Derived.Deep.DeepCutAuto
import Derived.Outline
namespace Go.Proofs.YtopilnlniidejaaGreatDoor
set_option linter.all false
open Go.RowKit

set_option maxRecDepth 100000 in
set_option maxHeartbeats 4000000 in
theorem seps_long1 (C1 C2 C3 C0 D1 D2 D3 : ByteArray) (x y z t s d : Int) (sl sp : Bool) (w : World)
  (h_kn : Ret Tryz.prog w 11 #[] (.bool true))
  (h_br : ∀ (W : World) (b0 : Nat), Blk W b0 #[.string C1, .string C2, .string C3, .string D1, .string D2, .string D3] 24 → Below w.heap.size w W → Calls Tryz.prog 12 #[.slice (some ⟨b0, 0, none⟩) 2 2] W fun e w' => e = .returned (.bool false) ∧ Below W.heap.size W w') :
  Calls Tryz.prog 9 #[.agg #[.int .i8 x, .int .i8 y, .int .i8 z, .int .i8 t, .int .i8 s, .int .i8 d, .bool sl, .bool sp], .agg #[.string C1, .string C2, .string C3, .string C0], .agg #[.string D1, .string D2, .string D3]] w fun e w' => e = .returned (.bool true) ∧ Below w.heap.size w w' := by
 have H_KN := Lib.hid h_kn
 have H_BR := Lib.hid h_br
 clear h_kn h_br
 have B := Lib.hid (Below.refl w.heap.size w)
 go_enter Tryz.func9, Tryz.ntmps9
 go_upto_region 0 with (fail)
 refine wp_tab [.n 3, .n 4, .n 5, .v 6 (.bool false)] [⟨0, 3, fun g => .pointer (some ⟨g, 0, none⟩), #[.int .i8 x, .int .i8 y, .int .i8 z, .int .i8 t, .int .i8 s, .int .i8 d, .bool sl, .bool sp], 56, none⟩, ⟨1, 4, fun g => .pointer (some ⟨g, 0, none⟩), #[.string C1, .string C2, .string C3, .string C0], 26, none⟩, ⟨2, 5, fun g => .pointer (some ⟨g, 0, none⟩), #[.string D1, .string D2, .string D3], 24, none⟩] [] [] [] [] [] [] (by kernel_rfl) B.out trivial trivial ⟨ml 0, ml 1, ml 2, pu, trivial⟩ ?_
 clear B
 rintro σ W1 ⟨⟨L0, K0⟩, ⟨L1, K1⟩, ⟨L2, K2⟩, _⟩ _ _ _ B
 simp only [slotsOf, finX, nval, nvalN, nvalA, Nat.reduceBEq, cond_true, cond_false, putAll, Act.put, List.setIfInBounds_toArray, List.set_cons_succ, List.set_cons_zero]
 generalize blkOf (σ 3) = g1_0 at *
 generalize blkOf (σ 4) = g1_1 at *
 generalize blkOf (σ 5) = g1_2 at *
 go_upto_region 1 with (fail)
 refine wp_tab [.v 16 (.bool true), .v 17 (.bool false), .v 18 (.bool false), .v 19 (.pointer (some ⟨g1_1, 0, none⟩)), .v 20 (.agg #[.string C1, .string C2, .string C3]), .v 21 (.agg #[.string D1, .string D2, .string D3]), .n 22, .v 23 (.bool false), .v 24 (.bool true), .v 25 (.bool true), .v 26 (.bool true), .v 27 (undef), .v 28 (undef), .v 29 (undef), .v 30 (undef), .v 31 (.bool true)] [⟨6, 22, fun g => .slice (some ⟨g, 0, none⟩) 2 2, #[.string C1, .string C2, .string C3, .string D1, .string D2, .string D3], 24, none⟩] [⟨g1_0, #[.int .i8 x, .int .i8 y, .int .i8 z, .int .i8 t, .int .i8 s, .int .i8 d, .bool sl, .bool sp], 56, none⟩, ⟨g1_1, #[.string C1, .string C2, .string C3, .string C0], 26, none⟩, ⟨g1_2, #[.string D1, .string D2, .string D3], 24, none⟩] [] [] [] [] [] (by kernel_rfl) B.out ⟨K0.out, K1.out, K2.out, trivial⟩ trivial ⟨cl H_KN.out, pu, pu, pu, ld 1 0, ld 2 0, ml 0, c1 0 H_BR.out, pu, pu, pu, sk, sk, sk, sk, pu, trivial⟩ ?_
 clear K0 K1 K2 B
 rintro σ W2 ⟨⟨L3, K3⟩, _⟩ ⟨K0, K1, K2, _⟩ _ _ B
 simp only [slotsOf, finX, nval, nvalN, nvalA, Nat.reduceBEq, cond_true, cond_false, putAll, Act.put, List.setIfInBounds_toArray, List.set_cons_succ, List.set_cons_zero]
 generalize blkOf (σ 22) = g2_6 at *
 go_wp2_with (
  (first
  | (go_at_call 11; with_reducible refine (H_KN.out _ (baseI B.out)).mono ?_)
  | fail "arm"); rintro e wx ⟨rfl, q⟩; replace K0 := Lib.hid (K0.out.nearI q); replace K1 := Lib.hid (K1.out.nearI q); replace K2 := Lib.hid (K2.out.nearI q); replace K3 := Lib.hid (K3.out.nearI q); replace B := Lib.hid (goI B.out q); clear q)
 go_ret
 exact ⟨rfl, B.out⟩

set_option maxRecDepth 100000 in
set_option maxHeartbeats 4000000 in
theorem seps_long2 (C1 C2 C3 C0 D1 D2 D3 : ByteArray) (x y z t s d : Int) (sl sp : Bool) (w : World)
  (hm : decide ((8 : Int) < (C0.size : Int)) = true)
  (h_kn : Ret Tryz.prog w 11 #[] (.bool true))
  (h_br : ∀ (W : World) (b0 : Nat), Blk W b0 #[.string C1, .string C2, .string C3, .string D1, .string D2, .string D3] 24 → Below w.heap.size w W → Calls Tryz.prog 12 #[.slice (some ⟨b0, 0, none⟩) 2 2] W fun e w' => e = .returned (.bool true) ∧ Below W.heap.size W w') :
  Calls Tryz.prog 9 #[.agg #[.int .i8 x, .int .i8 y, .int .i8 z, .int .i8 t, .int .i8 s, .int .i8 d, .bool sl, .bool sp], .agg #[.string C1, .string C2, .string C3, .string C0], .agg #[.string D1, .string D2, .string D3]] w fun e w' => e = .returned (.bool true) ∧ Below w.heap.size w w' := by
 have H_KN := Lib.hid h_kn
 have H_BR := Lib.hid h_br
 clear h_kn h_br
 have B := Lib.hid (Below.refl w.heap.size w)
 go_enter Tryz.func9, Tryz.ntmps9
 go_upto_region 0 with (fail)
 refine wp_tab [.n 3, .n 4, .n 5, .v 6 (.bool false)] [⟨0, 3, fun g => .pointer (some ⟨g, 0, none⟩), #[.int .i8 x, .int .i8 y, .int .i8 z, .int .i8 t, .int .i8 s, .int .i8 d, .bool sl, .bool sp], 56, none⟩, ⟨1, 4, fun g => .pointer (some ⟨g, 0, none⟩), #[.string C1, .string C2, .string C3, .string C0], 26, none⟩, ⟨2, 5, fun g => .pointer (some ⟨g, 0, none⟩), #[.string D1, .string D2, .string D3], 24, none⟩] [] [] [] [] [] [] (by kernel_rfl) B.out trivial trivial ⟨ml 0, ml 1, ml 2, pu, trivial⟩ ?_
 clear B
 rintro σ W1 ⟨⟨L0, K0⟩, ⟨L1, K1⟩, ⟨L2, K2⟩, _⟩ _ _ _ B
 simp only [slotsOf, finX, nval, nvalN, nvalA, Nat.reduceBEq, cond_true, cond_false, putAll, Act.put, List.setIfInBounds_toArray, List.set_cons_succ, List.set_cons_zero]
 generalize blkOf (σ 3) = g1_0 at *
 generalize blkOf (σ 4) = g1_1 at *
 generalize blkOf (σ 5) = g1_2 at *
 go_upto_region 1 with (fail)
 refine wp_tab [.v 16 (.bool true), .v 17 (.bool false), .v 18 (.bool false), .v 19 (.pointer (some ⟨g1_1, 0, none⟩)), .v 20 (.agg #[.string C1, .string C2, .string C3]), .v 21 (.agg #[.string D1, .string D2, .string D3]), .n 22, .v 23 (.bool true), .v 24 (.bool false), .v 25 (.bool false), .v 26 (.bool false), .v 27 (.pointer (some ⟨g1_1, 3, none⟩)), .v 28 (.string C0), .v 29 (.int .i64 (C0.size : Int)), .v 30 (.bool true), .v 31 (.bool true)] [⟨6, 22, fun g => .slice (some ⟨g, 0, none⟩) 2 2, #[.string C1, .string C2, .string C3, .string D1, .string D2, .string D3], 24, none⟩] [⟨g1_0, #[.int .i8 x, .int .i8 y, .int .i8 z, .int .i8 t, .int .i8 s, .int .i8 d, .bool sl, .bool sp], 56, none⟩, ⟨g1_1, #[.string C1, .string C2, .string C3, .string C0], 26, none⟩, ⟨g1_2, #[.string D1, .string D2, .string D3], 24, none⟩] [] [] [] [] [] (by kernel_rfl) B.out ⟨K0.out, K1.out, K2.out, trivial⟩ trivial ⟨cl H_KN.out, pu, pu, pu, ld 1 0, ld 2 0, ml 0, c1 0 H_BR.out, pu, pu, pu, pu, ld 1 3, ?_, ?_, pu, trivial⟩ ?_
 · intro L a U ho J hn d KK k; refine .pos (s := 26) rfl rfl (J.vals 10 _ _ rfl (d.get 10 rfl)) ?_; have r28 := J.read 12 rfl (d.get 12 rfl); go_simp; exact k.out _ _ (J.st 13 rfl rfl)
 · intro L a U ho J hn d KK k; refine .pos (s := 26) rfl rfl (J.vals 10 _ _ rfl (d.get 10 rfl)) ?_; have r29 := J.read 13 rfl (d.get 13 rfl); go_simp; exact k.out _ _ (J.st 14 rfl rfl)
 clear K0 K1 K2 B
 rintro σ W2 ⟨⟨L3, K3⟩, _⟩ ⟨K0, K1, K2, _⟩ _ _ B
 simp only [slotsOf, finX, nval, nvalN, nvalA, Nat.reduceBEq, cond_true, cond_false, putAll, Act.put, List.setIfInBounds_toArray, List.set_cons_succ, List.set_cons_zero]
 generalize blkOf (σ 22) = g2_6 at *
 go_wp2_with (
  (first
  | (go_at_call 11; with_reducible refine (H_KN.out _ (baseI B.out)).mono ?_)
  | fail "arm"); rintro e wx ⟨rfl, q⟩; replace K0 := Lib.hid (K0.out.nearI q); replace K1 := Lib.hid (K1.out.nearI q); replace K2 := Lib.hid (K2.out.nearI q); replace K3 := Lib.hid (K3.out.nearI q); replace B := Lib.hid (goI B.out q); clear q)
 go_ret
 exact ⟨rfl, B.out⟩

set_option maxRecDepth 100000 in
set_option maxHeartbeats 20000000 in
theorem seps_of {A1 A2 A3 A0 S1 S2 S3 C1 C2 C3 C0 D1 D2 D3 Qk P M N Q : ByteArray} {x y z t s d : Int} {sl sp : Bool} {er : Int} {nr zc rd zd td : Bool} (w : World)
  (hm : decide ((8 : Int) < (C0.size : Int)) = false)
  (ma : nr = false → (Qk.toList == []) = true := by intros; contradiction)
  (mae : nr = false → Qk.toList.isEmpty = true := by intros; contradiction)
  (na : nr = false → (er == 2) = true := by intros; contradiction)
  (mb : nr = true → zc = true → rd = false → (Qk.toList == []) = true := by intros; contradiction)
  (mbe : nr = true → zc = true → rd = false → Qk.toList.isEmpty = true := by intros; contradiction)
  (nb : nr = true → zc = true → rd = false → (er == 2) = true := by intros; contradiction)
  (mc : nr = true → zc = true → rd = true → (Qk.toList == []) = true := by intros; contradiction)
  (mce : nr = true → zc = true → rd = true → Qk.toList.isEmpty = true := by intros; contradiction)
  (nc : nr = true → zc = true → rd = true → (er == 17) = true := by intros; contradiction)
  (md : nr = true → zc = false → rd = false → (Qk.toList == []) = true := by intros; contradiction)
  (mde : nr = true → zc = false → rd = false → Qk.toList.isEmpty = true := by intros; contradiction)
  (nd : nr = true → zc = false → rd = false → (er == 2) = true := by intros; contradiction)
  (me : nr = true → zc = false → rd = true → zd = true → (Qk.toList == []) = true := by intros; contradiction)
  (mee : nr = true → zc = false → rd = true → zd = true → Qk.toList.isEmpty = true := by intros; contradiction)
  (ne : nr = true → zc = false → rd = true → zd = true → (er == 17) = true := by intros; contradiction)
  (mf : nr = true → zc = false → rd = true → zd = false → td = true → (Qk.toList == []) = true := by intros; contradiction)
  (mfe : nr = true → zc = false → rd = true → zd = false → td = true → Qk.toList.isEmpty = true := by intros; contradiction)
  (nf : nr = true → zc = false → rd = true → zd = false → td = true → (er == 18) = true := by intros; contradiction)
  (ng : nr = true → zc = false → rd = true → zd = false → td = false → (er == 0) = true := by intros; contradiction)
  (t1 : nr = true → zc = false → rd = true → zd = false → td = true → (Q.toList == [48]) = true := by intros; contradiction)
  (t2 : nr = true → zc = false → rd = true → zd = false → td = false → (Q.toList == [48]) = false := by intros; contradiction)
  (h_kn : Ret Tryz.prog w 11 #[] (.bool true))
  (h_br : ∀ (W : World) (b0 : Nat), Blk W b0 #[.string C1, .string C2, .string C3, .string D1, .string D2, .string D3] 24 → Below w.heap.size w W → Calls Tryz.prog 12 #[.slice (some ⟨b0, 0, none⟩) 2 2] W fun e w' => e = .returned (.bool true) ∧ Below W.heap.size W w')
  (h_mk : Ret Tryz.prog w 27 #[.agg #[.int .i8 x, .int .i8 y, .int .i8 z, .int .i8 t, .int .i8 s, .int .i8 d, .bool sl, .bool sp]] (.agg #[.string A1, .string A2, .string A3, .string A0, .string S1, .string S2, .string S3]))
  (h_se : Ret Tryz.prog w 42 #[.agg #[.string A1, .string A2, .string A3, .string A0, .string S1, .string S2, .string S3], .agg #[.string C1, .string C2, .string C3, .string C0], .agg #[.string D1, .string D2, .string D3]] (.tuple #[.string Qk, .int .i64 er]))
  (h_nu : ∀ (W : World) (b0 : Nat) (b1 : Nat), Blk W b0 #[.string C1, .string C2, .string C3] 24 → Blk W b1 #[.string C0] 22 → Below w.heap.size w W → Calls Tryz.prog 14 #[.slice (some ⟨b0, 0, none⟩) 1 1, .slice (some ⟨b1, 0, none⟩) 1 1] W fun e w' => e = .returned (.bool nr) ∧ Below W.heap.size W w')
  (h_zc : Ret Tryz.prog w 16 #[.agg #[.string C1, .string C2, .string C3]] (.bool zc))
  (h_zd : Ret Tryz.prog w 16 #[.agg #[.string D1, .string D2, .string D3]] (.bool zd))
  (h_rd : Ret Tryz.prog w 19 #[.agg #[.string D1, .string D2, .string D3]] (.bool rd))
  (h_dp : nr = true → zc = false → Ret Tryz.prog w 17 #[.agg #[.string C1, .string C2, .string C3], .agg #[.string S1, .string S2, .string S3]] (.string P) := by intros; contradiction)
  (h_am : nr = true → zc = false → Ret Tryz.prog w 29 #[.string C0, .string P] (.string M) := by intros; contradiction)
  (h_an : nr = true → zc = false → Ret Tryz.prog w 29 #[.string M, .string ⟨#[49, 47, 50]⟩] (.string N) := by intros; contradiction)
  (h_e1 : nr = true → zc = false → Ret Tryz.prog w 43 #[.agg #[.string A1, .string A2, .string A3, .string A0, .string S1, .string S2, .string S3], .agg #[.string C1, .string C2, .string C3, .string C0, .string M]] (.tuple #[.bool true, .int .i64 0]) := by intros; contradiction)
  (h_e2 : nr = true → zc = false → Ret Tryz.prog w 43 #[.agg #[.string A1, .string A2, .string A3, .string A0, .string S1, .string S2, .string S3], .agg #[.string C1, .string C2, .string C3, .string C0, .string N]] (.tuple #[.bool false, .int .i64 0]) := by intros; contradiction)
  (h_dq : nr = true → zc = false → rd = true → zd = false → Ret Tryz.prog w 17 #[.agg #[.string C1, .string C2, .string C3], .agg #[.string D1, .string D2, .string D3]] (.string Q) := by intros; contradiction)
  (h_dv : nr = true → zc = false → rd = true → zd = false → td = false → Ret Tryz.prog w 22 #[.string P, .string Q] (.string Qk) := by intros; contradiction) :
  Calls Tryz.prog 9 #[.agg #[.int .i8 x, .int .i8 y, .int .i8 z, .int .i8 t, .int .i8 s, .int .i8 d, .bool sl, .bool sp], .agg #[.string C1, .string C2, .string C3, .string C0], .agg #[.string D1, .string D2, .string D3]] w fun e w' => e = .returned (.bool true) ∧ Below w.heap.size w w' := by
 have H_KN := Lib.hid h_kn
 have H_BR := Lib.hid h_br
 have H_MK := Lib.hid h_mk
 have H_SE := Lib.hid h_se
 have H_NU := Lib.hid h_nu
 have H_ZC := Lib.hid h_zc
 have H_ZD := Lib.hid h_zd
 have H_RD := Lib.hid h_rd
 clear h_kn h_br h_mk h_se h_nu h_zc h_zd h_rd
 have B := Lib.hid (Below.refl w.heap.size w)
 go_enter Tryz.func9, Tryz.ntmps9
 go_upto_region 0 with (fail)
 refine wp_tab [.n 3, .n 4, .n 5, .v 6 (.bool false)] [⟨0, 3, fun g => .pointer (some ⟨g, 0, none⟩), #[.int .i8 x, .int .i8 y, .int .i8 z, .int .i8 t, .int .i8 s, .int .i8 d, .bool sl, .bool sp], 56, none⟩, ⟨1, 4, fun g => .pointer (some ⟨g, 0, none⟩), #[.string C1, .string C2, .string C3, .string C0], 26, none⟩, ⟨2, 5, fun g => .pointer (some ⟨g, 0, none⟩), #[.string D1, .string D2, .string D3], 24, none⟩] [] [] [] [] [] [] (by kernel_rfl) B.out trivial trivial ⟨ml 0, ml 1, ml 2, pu, trivial⟩ ?_
 clear B
 rintro σ W1 ⟨⟨L0, K0⟩, ⟨L1, K1⟩, ⟨L2, K2⟩, _⟩ _ _ _ B
 simp only [slotsOf, finX, nval, nvalN, nvalA, Nat.reduceBEq, cond_true, cond_false, putAll, Act.put, List.setIfInBounds_toArray, List.set_cons_succ, List.set_cons_zero]
 generalize blkOf (σ 3) = g1_0 at *
 generalize blkOf (σ 4) = g1_1 at *
 generalize blkOf (σ 5) = g1_2 at *
 go_upto_region 1 with (fail)
 refine wp_tab [.v 16 (.bool true), .v 17 (.bool false), .v 18 (.bool false), .v 19 (.pointer (some ⟨g1_1, 0, none⟩)), .v 20 (.agg #[.string C1, .string C2, .string C3]), .v 21 (.agg #[.string D1, .string D2, .string D3]), .n 22, .v 23 (.bool true), .v 24 (.bool false), .v 25 (.bool false), .v 26 (.bool false), .v 27 (.pointer (some ⟨g1_1, 3, none⟩)), .v 28 (.string C0), .v 29 (.int .i64 (C0.size : Int)), .v 30 (.bool false), .v 31 (.bool false)] [⟨6, 22, fun g => .slice (some ⟨g, 0, none⟩) 2 2, #[.string C1, .string C2, .string C3, .string D1, .string D2, .string D3], 24, none⟩] [⟨g1_0, #[.int .i8 x, .int .i8 y, .int .i8 z, .int .i8 t, .int .i8 s, .int .i8 d, .bool sl, .bool sp], 56, none⟩, ⟨g1_1, #[.string C1, .string C2, .string C3, .string C0], 26, none⟩, ⟨g1_2, #[.string D1, .string D2, .string D3], 24, none⟩] [] [] [] [] [] (by kernel_rfl) B.out ⟨K0.out, K1.out, K2.out, trivial⟩ trivial ⟨cl H_KN.out, pu, pu, pu, ld 1 0, ld 2 0, ml 0, c1 0 H_BR.out, pu, pu, pu, pu, ld 1 3, ?_, ?_, pu, trivial⟩ ?_
 · intro L a U ho J hn d KK k; refine .pos (s := 26) rfl rfl (J.vals 10 _ _ rfl (d.get 10 rfl)) ?_; have r28 := J.read 12 rfl (d.get 12 rfl); go_simp; exact k.out _ _ (J.st 13 rfl rfl)
 · intro L a U ho J hn d KK k; refine .pos (s := 26) rfl rfl (J.vals 10 _ _ rfl (d.get 10 rfl)) ?_; have r29 := J.read 13 rfl (d.get 13 rfl); go_simp; exact k.out _ _ (J.st 14 rfl rfl)
 clear K0 K1 K2 B
 rintro σ W2 ⟨⟨L3, K3⟩, _⟩ ⟨K0, K1, K2, _⟩ _ _ B
 simp only [slotsOf, finX, nval, nvalN, nvalA, Nat.reduceBEq, cond_true, cond_false, putAll, Act.put, List.setIfInBounds_toArray, List.set_cons_succ, List.set_cons_zero]
 generalize blkOf (σ 22) = g2_6 at *
 go_upto_region 3 with (fail)
 have lt0 := K0.out.lt
 have lt1 := K1.out.lt
 have lt2 := K2.out.lt
 have lt3 := K3.out.lt
 refine wp_tab [.v 33 (.agg #[.int .i8 x, .int .i8 y, .int .i8 z, .int .i8 t, .int .i8 s, .int .i8 d, .bool sl, .bool sp]), .v 34 (.agg #[.string A1, .string A2, .string A3, .string A0, .string S1, .string S2, .string S3]), .n 7, .z] [⟨2, 7, fun g => .pointer (some ⟨g, 0, none⟩), #[.string ⟨#[]⟩, .string ⟨#[]⟩, .string ⟨#[]⟩, .string ⟨#[]⟩, .string ⟨#[]⟩, .string ⟨#[]⟩, .string ⟨#[]⟩], 58, some (3, #[.string A1, .string A2, .string A3, .string A0, .string S1, .string S2, .string S3])⟩] [⟨g1_0, #[.int .i8 x, .int .i8 y, .int .i8 z, .int .i8 t, .int .i8 s, .int .i8 d, .bool sl, .bool sp], 56, none⟩, ⟨g1_1, #[.string C1, .string C2, .string C3, .string C0], 26, none⟩, ⟨g1_2, #[.string D1, .string D2, .string D3], 24, none⟩, ⟨g2_6, #[.string C1, .string C2, .string C3, .string D1, .string D2, .string D3], 24, none⟩] [] [(3, 2)] [] [] [] (by kernel_rfl) B.out ⟨K0.out, K1.out, K2.out, K3.out, trivial⟩ trivial ⟨ld 0 0, cl H_MK.out, ml 0, ?_, trivial⟩ ?_
 · intro L a U ho J hn d KK k; refine .free rfl ?_; have r7 : a.tmps[(7 : Nat)]?.getD undef = .pointer (some ⟨(blkOf (slotOf a 7)), 0, none⟩) := J.readN 0 rfl (d.get 2 rfl); have r34 := J.read 1 rfl (d.get 1 rfl); have kb := (J.nwB 0 rfl (d.get 2 rfl) hn).blk; have c0 := kb.at_ 0 _ rfl; have z0 := kb.free 0; have c1 := kb.at_ 1 _ rfl; have z1 := kb.free 1; have c2 := kb.at_ 2 _ rfl; have z2 := kb.free 2; have c3 := kb.at_ 3 _ rfl; have z3 := kb.free 3; have c4 := kb.at_ 4 _ rfl; have z4 := kb.free 4; have c5 := kb.at_ 5 _ rfl; have z5 := kb.free 5; have c6 := kb.at_ 6 _ rfl; have z6 := kb.free 6; clear kb; go_simp; exact k.out undef _ (J.storedN 3 0 rfl rfl rfl rfl rfl 0 [.string A1, .string A2, .string A3, .string A0, .string S1, .string S2, .string S3] rfl ⟨lt0, lt1, lt2, lt3, trivial⟩ (d.get 2 rfl) hn ⟨.inr (d.get 2 rfl), trivial⟩)
 clear K0 K1 K2 K3 B lt0 lt1 lt2 lt3
 rintro σ W3 ⟨⟨L4, K4⟩, _⟩ ⟨K0, K1, K2, K3, _⟩ _ _ B
 simp only [slotsOf, finX, nval, nvalN, nvalA, Nat.reduceBEq, cond_true, cond_false, putAll, Act.put, List.setIfInBounds_toArray, List.set_cons_succ, List.set_cons_zero]
 generalize blkOf (σ 7) = g3_2 at *
 have c1_0 := K1.out.at_ 0 _ rfl
 have c1_1 := K1.out.at_ 1 _ rfl
 have c1_2 := K1.out.at_ 2 _ rfl
 have c1_3 := K1.out.at_ 3 _ rfl
 have c2_0 := K2.out.at_ 0 _ rfl
 have c2_1 := K2.out.at_ 1 _ rfl
 have c2_2 := K2.out.at_ 2 _ rfl
 have c4_0 := K4.out.at_ 0 _ rfl
 have c4_1 := K4.out.at_ 1 _ rfl
 have c4_2 := K4.out.at_ 2 _ rfl
 have c4_3 := K4.out.at_ 3 _ rfl
 have c4_4 := K4.out.at_ 4 _ rfl
 have c4_5 := K4.out.at_ 5 _ rfl
 have c4_6 := K4.out.at_ 6 _ rfl
 go_upto_region 5 with (
  (first
  | (go_at_call 42; with_reducible refine (H_SE.out _ (baseI B.out)).mono ?_)
  | fail "arm"); rintro e wx ⟨rfl, q⟩; replace K0 := Lib.hid (K0.out.nearI q); replace K1 := Lib.hid (K1.out.nearI q); replace K2 := Lib.hid (K2.out.nearI q); replace K3 := Lib.hid (K3.out.nearI q); replace K4 := Lib.hid (K4.out.nearI q); replace B := Lib.hid (goI B.out q); clear q; replace c1_0 := K1.out.at_ 0 _ rfl; replace c1_1 := K1.out.at_ 1 _ rfl; replace c1_2 := K1.out.at_ 2 _ rfl; replace c1_3 := K1.out.at_ 3 _ rfl; replace c2_0 := K2.out.at_ 0 _ rfl; replace c2_1 := K2.out.at_ 1 _ rfl; replace c2_2 := K2.out.at_ 2 _ rfl; replace c4_0 := K4.out.at_ 0 _ rfl; replace c4_1 := K4.out.at_ 1 _ rfl; replace c4_2 := K4.out.at_ 2 _ rfl; replace c4_3 := K4.out.at_ 3 _ rfl; replace c4_4 := K4.out.at_ 4 _ rfl; replace c4_5 := K4.out.at_ 5 _ rfl; replace c4_6 := K4.out.at_ 6 _ rfl)
 clear c1_0 c1_1 c1_2 c1_3 c2_0 c2_1 c2_2 c4_0 c4_1 c4_2 c4_3 c4_4 c4_5 c4_6
 cases nr
 ·
  clear h_dp
  clear h_am
  clear h_an
  clear h_e1
  clear h_e2
  clear h_dq
  clear h_dv
  have q_ma := ma rfl
  clear ma
  have q_mae := mae rfl
  clear mae
  have q_na := na rfl
  clear na
  clear mb
  clear mbe
  clear nb
  clear mc
  clear mce
  clear nc
  clear md
  clear mde
  clear nd
  clear me
  clear mee
  clear ne
  clear mf
  clear mfe
  clear nf
  clear ng
  clear t1
  clear t2
  go_upto_region 5 with (fail)
  refine wp_tab [.v 42 (.pointer (some ⟨g1_1, 0, none⟩)), .v 43 (.agg #[.string C1, .string C2, .string C3]), .n 44, .v 45 (.pointer (some ⟨g1_1, 3, none⟩)), .v 46 (.string C0), .n 47, .v 48 (.bool false), .v 10 (.bool false)] [⟨2, 44, fun g => .slice (some ⟨g, 0, none⟩) 1 1, #[.string C1, .string C2, .string C3], 24, none⟩, ⟨5, 47, fun g => .slice (some ⟨g, 0, none⟩) 1 1, #[.string C0], 22, none⟩] [⟨g1_0, #[.int .i8 x, .int .i8 y, .int .i8 z, .int .i8 t, .int .i8 s, .int .i8 d, .bool sl, .bool sp], 56, none⟩, ⟨g1_1, #[.string C1, .string C2, .string C3, .string C0], 26, none⟩, ⟨g1_2, #[.string D1, .string D2, .string D3], 24, none⟩, ⟨g2_6, #[.string C1, .string C2, .string C3, .string D1, .string D2, .string D3], 24, none⟩, ⟨g3_2, #[.string A1, .string A2, .string A3, .string A0, .string S1, .string S2, .string S3], 58, none⟩] [] [] [] [] [] (by kernel_rfl) B.out ⟨K0.out, K1.out, K2.out, K3.out, K4.out, trivial⟩ trivial ⟨pu, ld 1 0, ml 0, pu, ld 1 3, ml 1, c2 0 1 H_NU.out, pu, trivial⟩ ?_
  clear K0 K1 K2 K3 K4 B
  rintro σ W4 ⟨⟨L5, K5⟩, ⟨L6, K6⟩, _⟩ ⟨K0, K1, K2, K3, K4, _⟩ _ _ B
  simp only [slotsOf, finX, nval, nvalN, nvalA, Nat.reduceBEq, cond_true, cond_false, putAll, Act.put, List.setIfInBounds_toArray, List.set_cons_succ, List.set_cons_zero]
  generalize blkOf (σ 44) = g4_2 at *
  generalize blkOf (σ 47) = g4_5 at *
  go_wp2
  go_ret
  exact ⟨rfl, B.out⟩
 ·
  replace h_dp := h_dp rfl
  replace h_am := h_am rfl
  replace h_an := h_an rfl
  replace h_e1 := h_e1 rfl
  replace h_e2 := h_e2 rfl
  replace h_dq := h_dq rfl
  replace h_dv := h_dv rfl
  clear ma
  clear mae
  clear na
  replace mb := mb rfl
  replace mbe := mbe rfl
  replace nb := nb rfl
  replace mc := mc rfl
  replace mce := mce rfl
  replace nc := nc rfl
  replace md := md rfl
  replace mde := mde rfl
  replace nd := nd rfl
  replace me := me rfl
  replace mee := mee rfl
  replace ne := ne rfl
  replace mf := mf rfl
  replace mfe := mfe rfl
  replace nf := nf rfl
  replace ng := ng rfl
  replace t1 := t1 rfl
  replace t2 := t2 rfl
  go_upto_region 5 with (fail)
  refine wp_tab [.v 42 (.pointer (some ⟨g1_1, 0, none⟩)), .v 43 (.agg #[.string C1, .string C2, .string C3]), .n 44, .v 45 (.pointer (some ⟨g1_1, 3, none⟩)), .v 46 (.string C0), .n 47, .v 48 (.bool true), .v 10 (.bool true)] [⟨2, 44, fun g => .slice (some ⟨g, 0, none⟩) 1 1, #[.string C1, .string C2, .string C3], 24, none⟩, ⟨5, 47, fun g => .slice (some ⟨g, 0, none⟩) 1 1, #[.string C0], 22, none⟩] [⟨g1_0, #[.int .i8 x, .int .i8 y, .int .i8 z, .int .i8 t, .int .i8 s, .int .i8 d, .bool sl, .bool sp], 56, none⟩, ⟨g1_1, #[.string C1, .string C2, .string C3, .string C0], 26, none⟩, ⟨g1_2, #[.string D1, .string D2, .string D3], 24, none⟩, ⟨g2_6, #[.string C1, .string C2, .string C3, .string D1, .string D2, .string D3], 24, none⟩, ⟨g3_2, #[.string A1, .string A2, .string A3, .string A0, .string S1, .string S2, .string S3], 58, none⟩] [] [] [] [] [] (by kernel_rfl) B.out ⟨K0.out, K1.out, K2.out, K3.out, K4.out, trivial⟩ trivial ⟨pu, ld 1 0, ml 0, pu, ld 1 3, ml 1, c2 0 1 H_NU.out, pu, trivial⟩ ?_
  clear K0 K1 K2 K3 K4 B
  rintro σ W4 ⟨⟨L5, K5⟩, ⟨L6, K6⟩, _⟩ ⟨K0, K1, K2, K3, K4, _⟩ _ _ B
  simp only [slotsOf, finX, nval, nvalN, nvalA, Nat.reduceBEq, cond_true, cond_false, putAll, Act.put, List.setIfInBounds_toArray, List.set_cons_succ, List.set_cons_zero]
  generalize blkOf (σ 44) = g4_2 at *
  generalize blkOf (σ 47) = g4_5 at *
  go_upto_region 6 with (fail)
  cases zc
  ·
   have H_DP := Lib.hid (h_dp rfl)
   clear h_dp
   have H_AM := Lib.hid (h_am rfl)
   clear h_am
   have H_AN := Lib.hid (h_an rfl)
   clear h_an
   have H_E1 := Lib.hid (h_e1 rfl)
   clear h_e1
   have H_E2 := Lib.hid (h_e2 rfl)
   clear h_e2
   replace h_dq := h_dq rfl
   replace h_dv := h_dv rfl
   clear mb
   clear mbe
   clear nb
   clear mc
   clear mce
   clear nc
   replace md := md rfl
   replace mde := mde rfl
   replace nd := nd rfl
   replace me := me rfl
   replace mee := mee rfl
   replace ne := ne rfl
   replace mf := mf rfl
   replace mfe := mfe rfl
   replace nf := nf rfl
   replace ng := ng rfl
   replace t1 := t1 rfl
   replace t2 := t2 rfl
   have c1_0 := K1.out.at_ 0 _ rfl
   have c1_1 := K1.out.at_ 1 _ rfl
   have c1_2 := K1.out.at_ 2 _ rfl
   go_upto_region 7 with (
    (first
    | (go_at_call 16; with_reducible refine (H_ZC.out _ (baseI B.out)).mono ?_)
    | fail "arm"); rintro e wx ⟨rfl, q⟩; replace K0 := Lib.hid (K0.out.nearI q); replace K1 := Lib.hid (K1.out.nearI q); replace K2 := Lib.hid (K2.out.nearI q); replace K3 := Lib.hid (K3.out.nearI q); replace K4 := Lib.hid (K4.out.nearI q); replace K5 := Lib.hid (K5.out.nearI q); replace K6 := Lib.hid (K6.out.nearI q); replace B := Lib.hid (goI B.out q); clear q; replace c1_0 := K1.out.at_ 0 _ rfl; replace c1_1 := K1.out.at_ 1 _ rfl; replace c1_2 := K1.out.at_ 2 _ rfl)
   clear c1_0 c1_1 c1_2
   refine wp_tab [.v 56 (.pointer (some ⟨g1_1, 3, none⟩)), .v 57 (.string C0), .v 58 (.pointer (some ⟨g1_1, 0, none⟩)), .v 59 (.agg #[.string C1, .string C2, .string C3]), .v 60 (.pointer (some ⟨g3_2, 4, none⟩)), .v 61 (.agg #[.string S1, .string S2, .string S3]), .v 62 (.string P), .v 63 (.string M), .v 11 (.string M)] [] [⟨g1_0, #[.int .i8 x, .int .i8 y, .int .i8 z, .int .i8 t, .int .i8 s, .int .i8 d, .bool sl, .bool sp], 56, none⟩, ⟨g1_1, #[.string C1, .string C2, .string C3, .string C0], 26, none⟩, ⟨g1_2, #[.string D1, .string D2, .string D3], 24, none⟩, ⟨g2_6, #[.string C1, .string C2, .string C3, .string D1, .string D2, .string D3], 24, none⟩, ⟨g3_2, #[.string A1, .string A2, .string A3, .string A0, .string S1, .string S2, .string S3], 58, none⟩, ⟨g4_2, #[.string C1, .string C2, .string C3], 24, none⟩, ⟨g4_5, #[.string C0], 22, none⟩] [] [] [] [] [] (by kernel_rfl) B.out ⟨K0.out, K1.out, K2.out, K3.out, K4.out, K5.out, K6.out, trivial⟩ trivial ⟨pu, ld 1 3, pu, ld 1 0, pu, ld 4 4, cl H_DP.out, cl H_AM.out, pu, trivial⟩ ?_
   clear K0 K1 K2 K3 K4 K5 K6 B
   rintro σ W5 _ ⟨K0, K1, K2, K3, K4, K5, K6, _⟩ _ _ B
   simp only [slotsOf, finX, nval, nvalN, nvalA, Nat.reduceBEq, cond_true, cond_false, putAll, Act.put, List.setIfInBounds_toArray, List.set_cons_succ, List.set_cons_zero]
   have c1_0 := K1.out.at_ 0 _ rfl
   have c1_1 := K1.out.at_ 1 _ rfl
   have c1_2 := K1.out.at_ 2 _ rfl
   have c1_3 := K1.out.at_ 3 _ rfl
   have c4_0 := K4.out.at_ 0 _ rfl
   have c4_1 := K4.out.at_ 1 _ rfl
   have c4_2 := K4.out.at_ 2 _ rfl
   have c4_3 := K4.out.at_ 3 _ rfl
   have c4_4 := K4.out.at_ 4 _ rfl
   have c4_5 := K4.out.at_ 5 _ rfl
   have c4_6 := K4.out.at_ 6 _ rfl
   go_upto_region 9 with (
    (first
    | (go_at_call 43; with_reducible refine (H_E1.out _ (baseI B.out)).mono ?_)
    | fail "arm"); rintro e wx ⟨rfl, q⟩; replace K0 := Lib.hid (K0.out.nearI q); replace K1 := Lib.hid (K1.out.nearI q); replace K2 := Lib.hid (K2.out.nearI q); replace K3 := Lib.hid (K3.out.nearI q); replace K4 := Lib.hid (K4.out.nearI q); replace K5 := Lib.hid (K5.out.nearI q); replace K6 := Lib.hid (K6.out.nearI q); replace B := Lib.hid (goI B.out q); clear q; replace c1_0 := K1.out.at_ 0 _ rfl; replace c1_1 := K1.out.at_ 1 _ rfl; replace c1_2 := K1.out.at_ 2 _ rfl; replace c1_3 := K1.out.at_ 3 _ rfl; replace c4_0 := K4.out.at_ 0 _ rfl; replace c4_1 := K4.out.at_ 1 _ rfl; replace c4_2 := K4.out.at_ 2 _ rfl; replace c4_3 := K4.out.at_ 3 _ rfl; replace c4_4 := K4.out.at_ 4 _ rfl; replace c4_5 := K4.out.at_ 5 _ rfl; replace c4_6 := K4.out.at_ 6 _ rfl)
   clear c1_0 c1_1 c1_2 c1_3 c4_0 c4_1 c4_2 c4_3 c4_4 c4_5 c4_6
   refine wp_tab [.v 73 (.agg #[.string A1, .string A2, .string A3, .string A0, .string S1, .string S2, .string S3]), .v 74 (.agg #[.string C1, .string C2, .string C3, .string C0]), .v 75 (.string M), .v 76 (.string N), .v 77 (.agg #[.string C1, .string C2, .string C3, .string C0, .string N]), .v 78 (.tuple #[.bool false, .int .i64 0]), .v 72 (.tuple #[.bool false, .int .i64 0]), .v 79 (.bool false), .v 80 (.int .i64 0), .v 14 (.bool false), .v 15 (.int .i64 0)] [] [⟨g1_0, #[.int .i8 x, .int .i8 y, .int .i8 z, .int .i8 t, .int .i8 s, .int .i8 d, .bool sl, .bool sp], 56, none⟩, ⟨g1_1, #[.string C1, .string C2, .string C3, .string C0], 26, none⟩, ⟨g1_2, #[.string D1, .string D2, .string D3], 24, none⟩, ⟨g2_6, #[.string C1, .string C2, .string C3, .string D1, .string D2, .string D3], 24, none⟩, ⟨g3_2, #[.string A1, .string A2, .string A3, .string A0, .string S1, .string S2, .string S3], 58, none⟩, ⟨g4_2, #[.string C1, .string C2, .string C3], 24, none⟩, ⟨g4_5, #[.string C0], 22, none⟩] [] [] [] [] [] (by kernel_rfl) B.out ⟨K0.out, K1.out, K2.out, K3.out, K4.out, K5.out, K6.out, trivial⟩ trivial ⟨ld 4 0, ld 1 0, pu, cl H_AN.out, pu, cl H_E2.out, pu, pu, pu, pu, pu, trivial⟩ ?_
   clear K0 K1 K2 K3 K4 K5 K6 B
   rintro σ W6 _ ⟨K0, K1, K2, K3, K4, K5, K6, _⟩ _ _ B
   simp only [slotsOf, finX, nval, nvalN, nvalA, Nat.reduceBEq, cond_true, cond_false, putAll, Act.put, List.setIfInBounds_toArray, List.set_cons_succ, List.set_cons_zero]
   go_upto_region 12 with (fail)
   cases rd
   ·
    clear h_dq
    clear h_dv
    have q_md := md rfl
    clear md
    have q_mde := mde rfl
    clear mde
    have q_nd := nd rfl
    clear nd
    clear me
    clear mee
    clear ne
    clear mf
    clear mfe
    clear nf
    clear ng
    clear t1
    clear t2
    have c2_0 := K2.out.at_ 0 _ rfl
    have c2_1 := K2.out.at_ 1 _ rfl
    have c2_2 := K2.out.at_ 2 _ rfl
    go_wp2_with (
     (first
     | (go_at_call 19; with_reducible refine (H_RD.out _ (baseI B.out)).mono ?_)
     | fail "arm"); rintro e wx ⟨rfl, q⟩; replace K0 := Lib.hid (K0.out.nearI q); replace K1 := Lib.hid (K1.out.nearI q); replace K2 := Lib.hid (K2.out.nearI q); replace K3 := Lib.hid (K3.out.nearI q); replace K4 := Lib.hid (K4.out.nearI q); replace K5 := Lib.hid (K5.out.nearI q); replace K6 := Lib.hid (K6.out.nearI q); replace B := Lib.hid (goI B.out q); clear q; replace c2_0 := K2.out.at_ 0 _ rfl; replace c2_1 := K2.out.at_ 1 _ rfl; replace c2_2 := K2.out.at_ 2 _ rfl)
    clear c2_0 c2_1 c2_2
    go_ret
    exact ⟨rfl, B.out⟩
   ·
    replace h_dq := h_dq rfl
    replace h_dv := h_dv rfl
    clear md
    clear mde
    clear nd
    replace me := me rfl
    replace mee := mee rfl
    replace ne := ne rfl
    replace mf := mf rfl
    replace mfe := mfe rfl
    replace nf := nf rfl
    replace ng := ng rfl
    replace t1 := t1 rfl
    replace t2 := t2 rfl
    have c2_0 := K2.out.at_ 0 _ rfl
    have c2_1 := K2.out.at_ 1 _ rfl
    have c2_2 := K2.out.at_ 2 _ rfl
    go_upto_region 14 with (
     (first
     | (go_at_call 19; with_reducible refine (H_RD.out _ (baseI B.out)).mono ?_)
     | fail "arm"); rintro e wx ⟨rfl, q⟩; replace K0 := Lib.hid (K0.out.nearI q); replace K1 := Lib.hid (K1.out.nearI q); replace K2 := Lib.hid (K2.out.nearI q); replace K3 := Lib.hid (K3.out.nearI q); replace K4 := Lib.hid (K4.out.nearI q); replace K5 := Lib.hid (K5.out.nearI q); replace K6 := Lib.hid (K6.out.nearI q); replace B := Lib.hid (goI B.out q); clear q; replace c2_0 := K2.out.at_ 0 _ rfl; replace c2_1 := K2.out.at_ 1 _ rfl; replace c2_2 := K2.out.at_ 2 _ rfl)
    clear c2_0 c2_1 c2_2
    cases zd
    ·
     have H_DQ := Lib.hid (h_dq rfl)
     clear h_dq
     replace h_dv := h_dv rfl
     clear me
     clear mee
     clear ne
     replace mf := mf rfl
     replace mfe := mfe rfl
     replace nf := nf rfl
     replace ng := ng rfl
     replace t1 := t1 rfl
     replace t2 := t2 rfl
     have c1_0 := K1.out.at_ 0 _ rfl
     have c1_1 := K1.out.at_ 1 _ rfl
     have c1_2 := K1.out.at_ 2 _ rfl
     have c2_0 := K2.out.at_ 0 _ rfl
     have c2_1 := K2.out.at_ 1 _ rfl
     have c2_2 := K2.out.at_ 2 _ rfl
     go_upto_region 16 with (
      (first
      | (go_at_call 16; with_reducible refine (H_ZC.out _ (baseI B.out)).mono ?_)
      | (go_at_call 16; with_reducible refine (H_ZD.out _ (baseI B.out)).mono ?_)
      | fail "arm"); rintro e wx ⟨rfl, q⟩; replace K0 := Lib.hid (K0.out.nearI q); replace K1 := Lib.hid (K1.out.nearI q); replace K2 := Lib.hid (K2.out.nearI q); replace K3 := Lib.hid (K3.out.nearI q); replace K4 := Lib.hid (K4.out.nearI q); replace K5 := Lib.hid (K5.out.nearI q); replace K6 := Lib.hid (K6.out.nearI q); replace B := Lib.hid (goI B.out q); clear q; replace c1_0 := K1.out.at_ 0 _ rfl; replace c1_1 := K1.out.at_ 1 _ rfl; replace c1_2 := K1.out.at_ 2 _ rfl; replace c2_0 := K2.out.at_ 0 _ rfl; replace c2_1 := K2.out.at_ 1 _ rfl; replace c2_2 := K2.out.at_ 2 _ rfl)
     clear c1_0 c1_1 c1_2 c2_0 c2_1 c2_2
     cases td
     ·
      have H_DV := Lib.hid (h_dv rfl)
      clear h_dv
      clear mf
      clear mfe
      clear nf
      have q_ng := ng rfl
      clear ng
      clear t1
      have q_t2 := t2 rfl
      clear t2
      have c1_0 := K1.out.at_ 0 _ rfl
      have c1_1 := K1.out.at_ 1 _ rfl
      have c1_2 := K1.out.at_ 2 _ rfl
      have c2_0 := K2.out.at_ 0 _ rfl
      have c2_1 := K2.out.at_ 1 _ rfl
      have c2_2 := K2.out.at_ 2 _ rfl
      go_upto_region 18 with (
       (first
       | (go_at_call 17; with_reducible refine (H_DQ.out _ (baseI B.out)).mono ?_)
       | fail "arm"); rintro e wx ⟨rfl, q⟩; replace K0 := Lib.hid (K0.out.nearI q); replace K1 := Lib.hid (K1.out.nearI q); replace K2 := Lib.hid (K2.out.nearI q); replace K3 := Lib.hid (K3.out.nearI q); replace K4 := Lib.hid (K4.out.nearI q); replace K5 := Lib.hid (K5.out.nearI q); replace K6 := Lib.hid (K6.out.nearI q); replace B := Lib.hid (goI B.out q); clear q; replace c1_0 := K1.out.at_ 0 _ rfl; replace c1_1 := K1.out.at_ 1 _ rfl; replace c1_2 := K1.out.at_ 2 _ rfl; replace c2_0 := K2.out.at_ 0 _ rfl; replace c2_1 := K2.out.at_ 1 _ rfl; replace c2_2 := K2.out.at_ 2 _ rfl)
      clear c1_0 c1_1 c1_2 c2_0 c2_1 c2_2
      refine wp_tab [.v 134 (.int .i64 er), .v 135 (.bool true), .v 136 (.bool true), .v 137 (.string Qk), .v 138 (.pointer (some ⟨g1_1, 0, none⟩)), .v 139 (.agg #[.string C1, .string C2, .string C3]), .v 140 (.pointer (some ⟨g3_2, 4, none⟩)), .v 141 (.agg #[.string S1, .string S2, .string S3]), .v 142 (.string P), .v 143 (.pointer (some ⟨g1_1, 0, none⟩)), .v 144 (.agg #[.string C1, .string C2, .string C3]), .v 145 (.agg #[.string D1, .string D2, .string D3]), .v 146 (.string Q), .v 147 (.string Qk), .v 148 (.bool true), .v 149 (.bool true), .v 6 (.bool true)] [] [⟨g1_0, #[.int .i8 x, .int .i8 y, .int .i8 z, .int .i8 t, .int .i8 s, .int .i8 d, .bool sl, .bool sp], 56, none⟩, ⟨g1_1, #[.string C1, .string C2, .string C3, .string C0], 26, none⟩, ⟨g1_2, #[.string D1, .string D2, .string D3], 24, none⟩, ⟨g2_6, #[.string C1, .string C2, .string C3, .string D1, .string D2, .string D3], 24, none⟩, ⟨g3_2, #[.string A1, .string A2, .string A3, .string A0, .string S1, .string S2, .string S3], 58, none⟩, ⟨g4_2, #[.string C1, .string C2, .string C3], 24, none⟩, ⟨g4_5, #[.string C0], 22, none⟩] [] [] [] [] [] (by kernel_rfl) B.out ⟨K0.out, K1.out, K2.out, K3.out, K4.out, K5.out, K6.out, trivial⟩ trivial ⟨pu, ?_, pu, pu, pu, ld 1 0, pu, ld 4 4, cl H_DP.out, pu, ld 1 0, ld 2 0, cl H_DQ.out, cl H_DV.out, ?_, pu, pu, trivial⟩ ?_
      · intro L a U ho J hn d KK k; refine .free rfl ?_; have r134 := J.read 0 rfl (d.get 0 rfl); go_simp; exact k.out _ _ (J.st 1 rfl rfl)
      · intro L a U ho J hn d KK k; refine .pos (s := 136) rfl rfl (J.vals 2 _ _ rfl (d.get 2 rfl)) ?_; have r137 := J.read 3 rfl (d.get 3 rfl); have r147 := J.read 13 rfl (d.get 13 rfl); go_simp; exact k.out _ _ (J.st 14 rfl rfl)
      clear K0 K1 K2 K3 K4 K5 K6 B
      rintro σ W7 _ ⟨K0, K1, K2, K3, K4, K5, K6, _⟩ _ _ B
      simp only [slotsOf, finX, nval, nvalN, nvalA, Nat.reduceBEq, cond_true, cond_false, putAll, Act.put, List.setIfInBounds_toArray, List.set_cons_succ, List.set_cons_zero]
      go_wp2
      go_ret
      exact ⟨rfl, B.out⟩
     ·
      clear h_dv
      have q_mf := mf rfl
      clear mf
      have q_mfe := mfe rfl
      clear mfe
      have q_nf := nf rfl
      clear nf
      clear ng
      have q_t1 := t1 rfl
      clear t1
      clear t2
      have c1_0 := K1.out.at_ 0 _ rfl
      have c1_1 := K1.out.at_ 1 _ rfl
      have c1_2 := K1.out.at_ 2 _ rfl
      have c2_0 := K2.out.at_ 0 _ rfl
      have c2_1 := K2.out.at_ 1 _ rfl
      have c2_2 := K2.out.at_ 2 _ rfl
      go_wp2_with (
       (first
       | (go_at_call 17; with_reducible refine (H_DQ.out _ (baseI B.out)).mono ?_)
       | fail "arm"); rintro e wx ⟨rfl, q⟩; replace K0 := Lib.hid (K0.out.nearI q); replace K1 := Lib.hid (K1.out.nearI q); replace K2 := Lib.hid (K2.out.nearI q); replace K3 := Lib.hid (K3.out.nearI q); replace K4 := Lib.hid (K4.out.nearI q); replace K5 := Lib.hid (K5.out.nearI q); replace K6 := Lib.hid (K6.out.nearI q); replace B := Lib.hid (goI B.out q); clear q; replace c1_0 := K1.out.at_ 0 _ rfl; replace c1_1 := K1.out.at_ 1 _ rfl; replace c1_2 := K1.out.at_ 2 _ rfl; replace c2_0 := K2.out.at_ 0 _ rfl; replace c2_1 := K2.out.at_ 1 _ rfl; replace c2_2 := K2.out.at_ 2 _ rfl)
      clear c1_0 c1_1 c1_2 c2_0 c2_1 c2_2
      go_ret
      exact ⟨rfl, B.out⟩
    ·
     clear h_dq
     clear h_dv
     have q_me := me rfl
     clear me
     have q_mee := mee rfl
     clear mee
     have q_ne := ne rfl
     clear ne
     clear mf
     clear mfe
     clear nf
     clear ng
     clear t1
     clear t2
     have c1_0 := K1.out.at_ 0 _ rfl
     have c1_1 := K1.out.at_ 1 _ rfl
     have c1_2 := K1.out.at_ 2 _ rfl
     have c2_0 := K2.out.at_ 0 _ rfl
     have c2_1 := K2.out.at_ 1 _ rfl
     have c2_2 := K2.out.at_ 2 _ rfl
     go_wp2_with (
      (first
      | (go_at_call 16; with_reducible refine (H_ZC.out _ (baseI B.out)).mono ?_)
      | (go_at_call 16; with_reducible refine (H_ZD.out _ (baseI B.out)).mono ?_)
      | fail "arm"); rintro e wx ⟨rfl, q⟩; replace K0 := Lib.hid (K0.out.nearI q); replace K1 := Lib.hid (K1.out.nearI q); replace K2 := Lib.hid (K2.out.nearI q); replace K3 := Lib.hid (K3.out.nearI q); replace K4 := Lib.hid (K4.out.nearI q); replace K5 := Lib.hid (K5.out.nearI q); replace K6 := Lib.hid (K6.out.nearI q); replace B := Lib.hid (goI B.out q); clear q; replace c1_0 := K1.out.at_ 0 _ rfl; replace c1_1 := K1.out.at_ 1 _ rfl; replace c1_2 := K1.out.at_ 2 _ rfl; replace c2_0 := K2.out.at_ 0 _ rfl; replace c2_1 := K2.out.at_ 1 _ rfl; replace c2_2 := K2.out.at_ 2 _ rfl)
     clear c1_0 c1_1 c1_2 c2_0 c2_1 c2_2
     go_ret
     exact ⟨rfl, B.out⟩
  ·
   clear h_dp
   clear h_am
   clear h_an
   clear h_e1
   clear h_e2
   clear h_dq
   clear h_dv
   replace mb := mb rfl
   replace mbe := mbe rfl
   replace nb := nb rfl
   replace mc := mc rfl
   replace mce := mce rfl
   replace nc := nc rfl
   clear md
   clear mde
   clear nd
   clear me
   clear mee
   clear ne
   clear mf
   clear mfe
   clear nf
   clear ng
   clear t1
   clear t2
   have c1_0 := K1.out.at_ 0 _ rfl
   have c1_1 := K1.out.at_ 1 _ rfl
   have c1_2 := K1.out.at_ 2 _ rfl
   go_upto_region 12 with (
    (first
    | (go_at_call 16; with_reducible refine (H_ZC.out _ (baseI B.out)).mono ?_)
    | fail "arm"); rintro e wx ⟨rfl, q⟩; replace K0 := Lib.hid (K0.out.nearI q); replace K1 := Lib.hid (K1.out.nearI q); replace K2 := Lib.hid (K2.out.nearI q); replace K3 := Lib.hid (K3.out.nearI q); replace K4 := Lib.hid (K4.out.nearI q); replace K5 := Lib.hid (K5.out.nearI q); replace K6 := Lib.hid (K6.out.nearI q); replace B := Lib.hid (goI B.out q); clear q; replace c1_0 := K1.out.at_ 0 _ rfl; replace c1_1 := K1.out.at_ 1 _ rfl; replace c1_2 := K1.out.at_ 2 _ rfl)
   clear c1_0 c1_1 c1_2
   cases rd
   ·
    have q_mb := mb rfl
    clear mb
    have q_mbe := mbe rfl
    clear mbe
    have q_nb := nb rfl
    clear nb
    clear mc
    clear mce
    clear nc
    have c2_0 := K2.out.at_ 0 _ rfl
    have c2_1 := K2.out.at_ 1 _ rfl
    have c2_2 := K2.out.at_ 2 _ rfl
    go_wp2_with (
     (first
     | (go_at_call 19; with_reducible refine (H_RD.out _ (baseI B.out)).mono ?_)
     | fail "arm"); rintro e wx ⟨rfl, q⟩; replace K0 := Lib.hid (K0.out.nearI q); replace K1 := Lib.hid (K1.out.nearI q); replace K2 := Lib.hid (K2.out.nearI q); replace K3 := Lib.hid (K3.out.nearI q); replace K4 := Lib.hid (K4.out.nearI q); replace K5 := Lib.hid (K5.out.nearI q); replace K6 := Lib.hid (K6.out.nearI q); replace B := Lib.hid (goI B.out q); clear q; replace c2_0 := K2.out.at_ 0 _ rfl; replace c2_1 := K2.out.at_ 1 _ rfl; replace c2_2 := K2.out.at_ 2 _ rfl)
    clear c2_0 c2_1 c2_2
    go_ret
    exact ⟨rfl, B.out⟩
   ·
    clear mb
    clear mbe
    clear nb
    have q_mc := mc rfl
    clear mc
    have q_mce := mce rfl
    clear mce
    have q_nc := nc rfl
    clear nc
    have c1_0 := K1.out.at_ 0 _ rfl
    have c1_1 := K1.out.at_ 1 _ rfl
    have c1_2 := K1.out.at_ 2 _ rfl
    have c2_0 := K2.out.at_ 0 _ rfl
    have c2_1 := K2.out.at_ 1 _ rfl
    have c2_2 := K2.out.at_ 2 _ rfl
    go_wp2_with (
     (first
     | (go_at_call 19; with_reducible refine (H_RD.out _ (baseI B.out)).mono ?_)
     | (go_at_call 16; with_reducible refine (H_ZC.out _ (baseI B.out)).mono ?_)
     | fail "arm"); rintro e wx ⟨rfl, q⟩; replace K0 := Lib.hid (K0.out.nearI q); replace K1 := Lib.hid (K1.out.nearI q); replace K2 := Lib.hid (K2.out.nearI q); replace K3 := Lib.hid (K3.out.nearI q); replace K4 := Lib.hid (K4.out.nearI q); replace K5 := Lib.hid (K5.out.nearI q); replace K6 := Lib.hid (K6.out.nearI q); replace B := Lib.hid (goI B.out q); clear q; replace c1_0 := K1.out.at_ 0 _ rfl; replace c1_1 := K1.out.at_ 1 _ rfl; replace c1_2 := K1.out.at_ 2 _ rfl; replace c2_0 := K2.out.at_ 0 _ rfl; replace c2_1 := K2.out.at_ 1 _ rfl; replace c2_2 := K2.out.at_ 2 _ rfl)
    clear c1_0 c1_1 c1_2 c2_0 c2_1 c2_2
    go_ret
    exact ⟨rfl, B.out⟩

end Go.Proofs.YtopilnlniidejaaGreatDoor
