/- The walks of the laws of klippelaw42, over texts: SlipPierces. -/
import Derived.Test.YtopilnlniidejaaGreatDoorApp
import Derived.Test.YtopilnlniidejaaGreatDoorElems
import Derived.Test.YtopilnlniidejaaGreatDoorShelf
import Derived.Test.YtopilnlniidejaaGreatDoorGPar
import Derived.Deep.RegionHeld3
import Derived.Laws.ResultCell
import Derived.Deep.Cut
import Derived.Deep.CutRange
import Derived.Deep.DeepCutAuto
import Derived.Outline
namespace Go.Proofs.YtopilnlniidejaaGreatDoor
set_option linter.all false
open Go.RowKit

set_option maxRecDepth 100000 in
set_option maxHeartbeats 4000000 in
theorem pierces_long1 (A1 A2 A3 A0 C1 C2 C3 D1 D2 D3 F1 F2 F3 G1 G2 G3 : ByteArray) (w : World)
  (h_kn : Ret Tryz.prog w 11 #[] (.bool true))
  (h_br : ∀ (W : World) (b0 : Nat), Blk W b0 #[.string A1, .string A2, .string A3, .string C1, .string C2, .string C3, .string D1, .string D2, .string D3, .string F1, .string F2, .string F3, .string G1, .string G2, .string G3] 24 → Below w.heap.size w W → Calls Tryz.prog 12 #[.slice (some ⟨b0, 0, none⟩) 5 5] W fun e w' => e = .returned (.bool false) ∧ Below W.heap.size W w') :
  Calls Tryz.prog 4 #[.agg #[.string A1, .string A2, .string A3, .string A0], .agg #[.string C1, .string C2, .string C3, .string D1, .string D2, .string D3], .agg #[.string F1, .string F2, .string F3, .string G1, .string G2, .string G3]] w fun e w' => e = .returned (.bool true) ∧ Below w.heap.size w w' := by
 have H_KN := Lib.hid h_kn
 have H_BR := Lib.hid h_br
 clear h_kn h_br
 have B := Lib.hid (Below.refl w.heap.size w)
 go_enter Tryz.func4, Tryz.ntmps4
 go_upto_region 0 with (fail)
 refine wp_tab [.n 3, .n 4, .n 5, .v 6 (.bool false)] [⟨0, 3, fun g => .pointer (some ⟨g, 0, none⟩), #[.string A1, .string A2, .string A3, .string A0], 26, none⟩, ⟨1, 4, fun g => .pointer (some ⟨g, 0, none⟩), #[.string C1, .string C2, .string C3, .string D1, .string D2, .string D3], 45, none⟩, ⟨2, 5, fun g => .pointer (some ⟨g, 0, none⟩), #[.string F1, .string F2, .string F3, .string G1, .string G2, .string G3], 45, none⟩] [] [] [] [] [] [] (by kernel_rfl) B.out trivial trivial ⟨ml 0, ml 1, ml 2, pu, trivial⟩ ?_
 clear B
 rintro σ W1 ⟨⟨L0, K0⟩, ⟨L1, K1⟩, ⟨L2, K2⟩, _⟩ _ _ _ B
 simp only [slotsOf, finX, nval, nvalN, nvalA, Nat.reduceBEq, cond_true, cond_false, putAll, Act.put, List.setIfInBounds_toArray, List.set_cons_succ, List.set_cons_zero]
 generalize blkOf (σ 3) = g1_0 at *
 generalize blkOf (σ 4) = g1_1 at *
 generalize blkOf (σ 5) = g1_2 at *
 go_upto_region 1 with (fail)
 refine wp_tab [.v 15 (.bool true), .v 16 (.bool false), .v 17 (.bool false), .v 18 (.pointer (some ⟨g1_0, 0, none⟩)), .v 19 (.agg #[.string A1, .string A2, .string A3]), .v 20 (.pointer (some ⟨g1_1, 0, none⟩)), .v 21 (.agg #[.string C1, .string C2, .string C3]), .v 22 (.pointer (some ⟨g1_1, 3, none⟩)), .v 23 (.agg #[.string D1, .string D2, .string D3]), .v 24 (.pointer (some ⟨g1_2, 0, none⟩)), .v 25 (.agg #[.string F1, .string F2, .string F3]), .v 26 (.pointer (some ⟨g1_2, 3, none⟩)), .v 27 (.agg #[.string G1, .string G2, .string G3]), .n 28, .v 29 (.bool false), .v 30 (.bool true), .v 31 (.bool true), .v 32 (.bool true), .v 33 (undef), .v 34 (undef), .v 35 (undef), .v 36 (undef), .v 37 (.bool true)] [⟨13, 28, fun g => .slice (some ⟨g, 0, none⟩) 5 5, #[.string A1, .string A2, .string A3, .string C1, .string C2, .string C3, .string D1, .string D2, .string D3, .string F1, .string F2, .string F3, .string G1, .string G2, .string G3], 24, none⟩] [⟨g1_0, #[.string A1, .string A2, .string A3, .string A0], 26, none⟩, ⟨g1_1, #[.string C1, .string C2, .string C3, .string D1, .string D2, .string D3], 45, none⟩, ⟨g1_2, #[.string F1, .string F2, .string F3, .string G1, .string G2, .string G3], 45, none⟩] [] [] [] [] [] (by kernel_rfl) B.out ⟨K0.out, K1.out, K2.out, trivial⟩ trivial ⟨cl H_KN.out, pu, pu, pu, ld 0 0, pu, ld 1 0, pu, ld 1 3, pu, ld 2 0, pu, ld 2 3, ml 0, c1 0 H_BR.out, pu, pu, pu, sk, sk, sk, sk, pu, trivial⟩ ?_
 clear K0 K1 K2 B
 rintro σ W2 ⟨⟨L3, K3⟩, _⟩ ⟨K0, K1, K2, _⟩ _ _ B
 simp only [slotsOf, finX, nval, nvalN, nvalA, Nat.reduceBEq, cond_true, cond_false, putAll, Act.put, List.setIfInBounds_toArray, List.set_cons_succ, List.set_cons_zero]
 generalize blkOf (σ 28) = g2_13 at *
 go_wp2_with (
  (first
  | (go_at_call 11; with_reducible refine (H_KN.out _ (baseI B.out)).mono ?_)
  | fail "arm"); rintro e wx ⟨rfl, q⟩; replace K0 := Lib.hid (K0.out.nearI q); replace K1 := Lib.hid (K1.out.nearI q); replace K2 := Lib.hid (K2.out.nearI q); replace K3 := Lib.hid (K3.out.nearI q); replace B := Lib.hid (goI B.out q); clear q)
 go_ret
 exact ⟨rfl, B.out⟩

set_option maxRecDepth 100000 in
set_option maxHeartbeats 4000000 in
theorem pierces_long2 (A1 A2 A3 A0 C1 C2 C3 D1 D2 D3 F1 F2 F3 G1 G2 G3 : ByteArray) (w : World)
  (hm : decide ((8 : Int) < (A0.size : Int)) = true)
  (h_kn : Ret Tryz.prog w 11 #[] (.bool true))
  (h_br : ∀ (W : World) (b0 : Nat), Blk W b0 #[.string A1, .string A2, .string A3, .string C1, .string C2, .string C3, .string D1, .string D2, .string D3, .string F1, .string F2, .string F3, .string G1, .string G2, .string G3] 24 → Below w.heap.size w W → Calls Tryz.prog 12 #[.slice (some ⟨b0, 0, none⟩) 5 5] W fun e w' => e = .returned (.bool true) ∧ Below W.heap.size W w') :
  Calls Tryz.prog 4 #[.agg #[.string A1, .string A2, .string A3, .string A0], .agg #[.string C1, .string C2, .string C3, .string D1, .string D2, .string D3], .agg #[.string F1, .string F2, .string F3, .string G1, .string G2, .string G3]] w fun e w' => e = .returned (.bool true) ∧ Below w.heap.size w w' := by
 have H_KN := Lib.hid h_kn
 have H_BR := Lib.hid h_br
 clear h_kn h_br
 have B := Lib.hid (Below.refl w.heap.size w)
 go_enter Tryz.func4, Tryz.ntmps4
 go_upto_region 0 with (fail)
 refine wp_tab [.n 3, .n 4, .n 5, .v 6 (.bool false)] [⟨0, 3, fun g => .pointer (some ⟨g, 0, none⟩), #[.string A1, .string A2, .string A3, .string A0], 26, none⟩, ⟨1, 4, fun g => .pointer (some ⟨g, 0, none⟩), #[.string C1, .string C2, .string C3, .string D1, .string D2, .string D3], 45, none⟩, ⟨2, 5, fun g => .pointer (some ⟨g, 0, none⟩), #[.string F1, .string F2, .string F3, .string G1, .string G2, .string G3], 45, none⟩] [] [] [] [] [] [] (by kernel_rfl) B.out trivial trivial ⟨ml 0, ml 1, ml 2, pu, trivial⟩ ?_
 clear B
 rintro σ W1 ⟨⟨L0, K0⟩, ⟨L1, K1⟩, ⟨L2, K2⟩, _⟩ _ _ _ B
 simp only [slotsOf, finX, nval, nvalN, nvalA, Nat.reduceBEq, cond_true, cond_false, putAll, Act.put, List.setIfInBounds_toArray, List.set_cons_succ, List.set_cons_zero]
 generalize blkOf (σ 3) = g1_0 at *
 generalize blkOf (σ 4) = g1_1 at *
 generalize blkOf (σ 5) = g1_2 at *
 go_upto_region 1 with (fail)
 refine wp_tab [.v 15 (.bool true), .v 16 (.bool false), .v 17 (.bool false), .v 18 (.pointer (some ⟨g1_0, 0, none⟩)), .v 19 (.agg #[.string A1, .string A2, .string A3]), .v 20 (.pointer (some ⟨g1_1, 0, none⟩)), .v 21 (.agg #[.string C1, .string C2, .string C3]), .v 22 (.pointer (some ⟨g1_1, 3, none⟩)), .v 23 (.agg #[.string D1, .string D2, .string D3]), .v 24 (.pointer (some ⟨g1_2, 0, none⟩)), .v 25 (.agg #[.string F1, .string F2, .string F3]), .v 26 (.pointer (some ⟨g1_2, 3, none⟩)), .v 27 (.agg #[.string G1, .string G2, .string G3]), .n 28, .v 29 (.bool true), .v 30 (.bool false), .v 31 (.bool false), .v 32 (.bool false), .v 33 (.pointer (some ⟨g1_0, 3, none⟩)), .v 34 (.string A0), .v 35 (.int .i64 (A0.size : Int)), .v 36 (.bool true), .v 37 (.bool true)] [⟨13, 28, fun g => .slice (some ⟨g, 0, none⟩) 5 5, #[.string A1, .string A2, .string A3, .string C1, .string C2, .string C3, .string D1, .string D2, .string D3, .string F1, .string F2, .string F3, .string G1, .string G2, .string G3], 24, none⟩] [⟨g1_0, #[.string A1, .string A2, .string A3, .string A0], 26, none⟩, ⟨g1_1, #[.string C1, .string C2, .string C3, .string D1, .string D2, .string D3], 45, none⟩, ⟨g1_2, #[.string F1, .string F2, .string F3, .string G1, .string G2, .string G3], 45, none⟩] [] [] [] [] [] (by kernel_rfl) B.out ⟨K0.out, K1.out, K2.out, trivial⟩ trivial ⟨cl H_KN.out, pu, pu, pu, ld 0 0, pu, ld 1 0, pu, ld 1 3, pu, ld 2 0, pu, ld 2 3, ml 0, c1 0 H_BR.out, pu, pu, pu, pu, ld 0 3, ?_, ?_, pu, trivial⟩ ?_
 · intro L a U ho J hn d KK k; refine .pos (s := 32) rfl rfl (J.vals 17 _ _ rfl (d.get 17 rfl)) ?_; have r34 := J.read 19 rfl (d.get 19 rfl); go_simp; exact k.out _ _ (J.st 20 rfl rfl)
 · intro L a U ho J hn d KK k; refine .pos (s := 32) rfl rfl (J.vals 17 _ _ rfl (d.get 17 rfl)) ?_; have r35 := J.read 20 rfl (d.get 20 rfl); go_simp; exact k.out _ _ (J.st 21 rfl rfl)
 clear K0 K1 K2 B
 rintro σ W2 ⟨⟨L3, K3⟩, _⟩ ⟨K0, K1, K2, _⟩ _ _ B
 simp only [slotsOf, finX, nval, nvalN, nvalA, Nat.reduceBEq, cond_true, cond_false, putAll, Act.put, List.setIfInBounds_toArray, List.set_cons_succ, List.set_cons_zero]
 generalize blkOf (σ 28) = g2_13 at *
 go_wp2_with (
  (first
  | (go_at_call 11; with_reducible refine (H_KN.out _ (baseI B.out)).mono ?_)
  | fail "arm"); rintro e wx ⟨rfl, q⟩; replace K0 := Lib.hid (K0.out.nearI q); replace K1 := Lib.hid (K1.out.nearI q); replace K2 := Lib.hid (K2.out.nearI q); replace K3 := Lib.hid (K3.out.nearI q); replace B := Lib.hid (goI B.out q); clear q)
 go_ret
 exact ⟨rfl, B.out⟩

set_option maxRecDepth 100000 in
set_option maxHeartbeats 20000000 in
theorem pierces_of {A1 A2 A3 A0 C1 C2 C3 D1 D2 D3 F1 F2 F3 G1 G2 G3 O1 O2 O3 P Q H1 H2 H3 SH1 SH2 SH3 I1 I2 I3 SI1 SI2 SI3 X1 X2 X3 Y1 Y2 Y3 : ByteArray} {er : Int} {ok nu za zd zg td tg : Bool} (w : World)
  (hm : decide ((8 : Int) < (A0.size : Int)) = false)
  (g1 : ok = true → (O1.toList == []) = false := by intros; contradiction)
  (g2 : ok = true → O1.toList.isEmpty = false := by intros; contradiction)
  (f1 : ok = false → nu = false → (er == 2) = true := by intros; contradiction)
  (f2 : ok = false → nu = true → za = true → (er == 17) = true := by intros; contradiction)
  (f3 : ok = false → nu = true → za = false → zd = true → (er == 17) = true := by intros; contradiction)
  (f4 : ok = false → nu = true → za = false → zd = false → zg = true → (er == 17) = true := by intros; contradiction)
  (f5 : nu = true → za = false → zd = false → zg = false → td = true → (P.toList == [48]) = true := by intros; contradiction)
  (f6 : nu = true → za = false → zd = false → zg = false → td = false → (P.toList == [48]) = false := by intros; contradiction)
  (f7 : nu = true → za = false → zd = false → zg = false → td = false → tg = true → (Q.toList == [48]) = true := by intros; contradiction)
  (f8 : nu = true → za = false → zd = false → zg = false → td = false → tg = false → (Q.toList == [48]) = false := by intros; contradiction)
  (f9 : ok = false → nu = true → za = false → zd = false → zg = false → td = true → (er == 18) = true := by intros; contradiction)
  (fa : ok = false → nu = true → za = false → zd = false → zg = false → td = false → tg = true → (er == 18) = true := by intros; contradiction)
  (d1 : ok = true → nu = false → False := by intros; contradiction)
  (d2 : ok = true → nu = true → za = true → False := by intros; contradiction)
  (d3 : ok = true → nu = true → za = false → zd = true → False := by intros; contradiction)
  (d4 : ok = true → nu = true → za = false → zd = false → zg = true → False := by intros; contradiction)
  (d5 : ok = true → nu = true → za = false → zd = false → zg = false → td = true → False := by intros; contradiction)
  (d6 : ok = true → nu = true → za = false → zd = false → zg = false → td = false → tg = true → False := by intros; contradiction)
  (d7 : ok = false → nu = true → za = false → zd = false → zg = false → td = false → tg = false → False := by intros; contradiction)
  (h_kn : Ret Tryz.prog w 11 #[] (.bool true))
  (h_br : ∀ (W : World) (b0 : Nat), Blk W b0 #[.string A1, .string A2, .string A3, .string C1, .string C2, .string C3, .string D1, .string D2, .string D3, .string F1, .string F2, .string F3, .string G1, .string G2, .string G3] 24 → Below w.heap.size w W → Calls Tryz.prog 12 #[.slice (some ⟨b0, 0, none⟩) 5 5] W fun e w' => e = .returned (.bool true) ∧ Below W.heap.size W w')
  (h_pe : ok = false → Ret Tryz.prog w 21 #[.agg #[.string A1, .string A2, .string A3, .string A0], .agg #[.string C1, .string C2, .string C3, .string D1, .string D2, .string D3], .agg #[.string F1, .string F2, .string F3, .string G1, .string G2, .string G3]] (.tuple #[.agg #[.string ⟨#[]⟩, .string ⟨#[]⟩, .string ⟨#[]⟩], .int .i64 er]) := by intros; contradiction)
  (h_po : ok = true → Ret Tryz.prog w 21 #[.agg #[.string A1, .string A2, .string A3, .string A0], .agg #[.string C1, .string C2, .string C3, .string D1, .string D2, .string D3], .agg #[.string F1, .string F2, .string F3, .string G1, .string G2, .string G3]] (.tuple #[.agg #[.string O1, .string O2, .string O3], .int .i64 0]) := by intros; contradiction)
  (h_nu : ∀ (W : World) (b0 : Nat) (b1 : Nat), Blk W b0 #[.string A1, .string A2, .string A3, .string C1, .string C2, .string C3, .string D1, .string D2, .string D3, .string F1, .string F2, .string F3, .string G1, .string G2, .string G3] 24 → Blk W b1 #[.string A0] 22 → Below w.heap.size w W → Calls Tryz.prog 14 #[.slice (some ⟨b0, 0, none⟩) 5 5, .slice (some ⟨b1, 0, none⟩) 1 1] W fun e w' => e = .returned (.bool nu) ∧ Below W.heap.size W w')
  (h_za : nu = true → Ret Tryz.prog w 16 #[.agg #[.string A1, .string A2, .string A3]] (.bool za) := by intros; contradiction)
  (h_zd : nu = true → Ret Tryz.prog w 16 #[.agg #[.string D1, .string D2, .string D3]] (.bool zd) := by intros; contradiction)
  (h_zg : nu = true → Ret Tryz.prog w 16 #[.agg #[.string G1, .string G2, .string G3]] (.bool zg) := by intros; contradiction)
  (h_td : nu = true → za = false → zd = false → zg = false → Ret Tryz.prog w 17 #[.agg #[.string A1, .string A2, .string A3], .agg #[.string D1, .string D2, .string D3]] (.string P) := by intros; contradiction)
  (h_tg : nu = true → za = false → zd = false → zg = false → Ret Tryz.prog w 17 #[.agg #[.string A1, .string A2, .string A3], .agg #[.string G1, .string G2, .string G3]] (.string Q) := by intros; contradiction)
  (h_dh : ok = true → nu = true → za = false → zd = false → zg = false → Ret Tryz.prog w 17 #[.agg #[.string A1, .string A2, .string A3], .agg #[.string C1, .string C2, .string C3]] (.string H1) := by intros; contradiction)
  (h_sh : ok = true → nu = true → za = false → zd = false → zg = false → Ret Tryz.prog w 20 #[.string A0, .string H1] (.string H2) := by intros; contradiction)
  (h_qh : ok = true → nu = true → za = false → zd = false → zg = false → Ret Tryz.prog w 22 #[.string H2, .string P] (.string H3) := by intros; contradiction)
  (h_xh : ok = true → nu = true → za = false → zd = false → zg = false → Ret Tryz.prog w 24 #[.agg #[.string D1, .string D2, .string D3], .string H3] (.agg #[.string SH1, .string SH2, .string SH3]) := by intros; contradiction)
  (h_ah : ok = true → nu = true → za = false → zd = false → zg = false → Ret Tryz.prog w 23 #[.agg #[.string C1, .string C2, .string C3], .agg #[.string SH1, .string SH2, .string SH3]] (.agg #[.string X1, .string X2, .string X3]) := by intros; contradiction)
  (h_nh : ok = true → nu = true → za = false → zd = false → zg = false → Ret Tryz.prog w 25 #[.agg #[.string A1, .string A2, .string A3, .string A0], .agg #[.string X1, .string X2, .string X3]] (.bool true) := by intros; contradiction)
  (h_di : ok = true → nu = true → za = false → zd = false → zg = false → Ret Tryz.prog w 17 #[.agg #[.string A1, .string A2, .string A3], .agg #[.string F1, .string F2, .string F3]] (.string I1) := by intros; contradiction)
  (h_si : ok = true → nu = true → za = false → zd = false → zg = false → Ret Tryz.prog w 20 #[.string A0, .string I1] (.string I2) := by intros; contradiction)
  (h_qi : ok = true → nu = true → za = false → zd = false → zg = false → Ret Tryz.prog w 22 #[.string I2, .string Q] (.string I3) := by intros; contradiction)
  (h_xi : ok = true → nu = true → za = false → zd = false → zg = false → Ret Tryz.prog w 24 #[.agg #[.string G1, .string G2, .string G3], .string I3] (.agg #[.string SI1, .string SI2, .string SI3]) := by intros; contradiction)
  (h_ai : ok = true → nu = true → za = false → zd = false → zg = false → Ret Tryz.prog w 23 #[.agg #[.string F1, .string F2, .string F3], .agg #[.string SI1, .string SI2, .string SI3]] (.agg #[.string Y1, .string Y2, .string Y3]) := by intros; contradiction)
  (h_ni : ok = true → nu = true → za = false → zd = false → zg = false → Ret Tryz.prog w 25 #[.agg #[.string A1, .string A2, .string A3, .string A0], .agg #[.string Y1, .string Y2, .string Y3]] (.bool true) := by intros; contradiction)
  (h_df : ok = true → nu = true → za = false → zd = false → zg = false → Ret Tryz.prog w 26 #[.agg #[.string Y1, .string Y2, .string Y3], .agg #[.string X1, .string X2, .string X3]] (.agg #[.string O1, .string O2, .string O3]) := by intros; contradiction) :
  Calls Tryz.prog 4 #[.agg #[.string A1, .string A2, .string A3, .string A0], .agg #[.string C1, .string C2, .string C3, .string D1, .string D2, .string D3], .agg #[.string F1, .string F2, .string F3, .string G1, .string G2, .string G3]] w fun e w' => e = .returned (.bool true) ∧ Below w.heap.size w w' := by
 have H_KN := Lib.hid h_kn
 have H_BR := Lib.hid h_br
 have H_NU := Lib.hid h_nu
 clear h_kn h_br h_nu
 have B := Lib.hid (Below.refl w.heap.size w)
 go_enter Tryz.func4, Tryz.ntmps4
 go_upto_region 0 with (fail)
 refine wp_tab [.n 3, .n 4, .n 5, .v 6 (.bool false)] [⟨0, 3, fun g => .pointer (some ⟨g, 0, none⟩), #[.string A1, .string A2, .string A3, .string A0], 26, none⟩, ⟨1, 4, fun g => .pointer (some ⟨g, 0, none⟩), #[.string C1, .string C2, .string C3, .string D1, .string D2, .string D3], 45, none⟩, ⟨2, 5, fun g => .pointer (some ⟨g, 0, none⟩), #[.string F1, .string F2, .string F3, .string G1, .string G2, .string G3], 45, none⟩] [] [] [] [] [] [] (by kernel_rfl) B.out trivial trivial ⟨ml 0, ml 1, ml 2, pu, trivial⟩ ?_
 clear B
 rintro σ W1 ⟨⟨L0, K0⟩, ⟨L1, K1⟩, ⟨L2, K2⟩, _⟩ _ _ _ B
 simp only [slotsOf, finX, nval, nvalN, nvalA, Nat.reduceBEq, cond_true, cond_false, putAll, Act.put, List.setIfInBounds_toArray, List.set_cons_succ, List.set_cons_zero]
 generalize blkOf (σ 3) = g1_0 at *
 generalize blkOf (σ 4) = g1_1 at *
 generalize blkOf (σ 5) = g1_2 at *
 go_upto_region 1 with (fail)
 refine wp_tab [.v 15 (.bool true), .v 16 (.bool false), .v 17 (.bool false), .v 18 (.pointer (some ⟨g1_0, 0, none⟩)), .v 19 (.agg #[.string A1, .string A2, .string A3]), .v 20 (.pointer (some ⟨g1_1, 0, none⟩)), .v 21 (.agg #[.string C1, .string C2, .string C3]), .v 22 (.pointer (some ⟨g1_1, 3, none⟩)), .v 23 (.agg #[.string D1, .string D2, .string D3]), .v 24 (.pointer (some ⟨g1_2, 0, none⟩)), .v 25 (.agg #[.string F1, .string F2, .string F3]), .v 26 (.pointer (some ⟨g1_2, 3, none⟩)), .v 27 (.agg #[.string G1, .string G2, .string G3]), .n 28, .v 29 (.bool true), .v 30 (.bool false), .v 31 (.bool false), .v 32 (.bool false), .v 33 (.pointer (some ⟨g1_0, 3, none⟩)), .v 34 (.string A0), .v 35 (.int .i64 (A0.size : Int)), .v 36 (.bool false), .v 37 (.bool false)] [⟨13, 28, fun g => .slice (some ⟨g, 0, none⟩) 5 5, #[.string A1, .string A2, .string A3, .string C1, .string C2, .string C3, .string D1, .string D2, .string D3, .string F1, .string F2, .string F3, .string G1, .string G2, .string G3], 24, none⟩] [⟨g1_0, #[.string A1, .string A2, .string A3, .string A0], 26, none⟩, ⟨g1_1, #[.string C1, .string C2, .string C3, .string D1, .string D2, .string D3], 45, none⟩, ⟨g1_2, #[.string F1, .string F2, .string F3, .string G1, .string G2, .string G3], 45, none⟩] [] [] [] [] [] (by kernel_rfl) B.out ⟨K0.out, K1.out, K2.out, trivial⟩ trivial ⟨cl H_KN.out, pu, pu, pu, ld 0 0, pu, ld 1 0, pu, ld 1 3, pu, ld 2 0, pu, ld 2 3, ml 0, c1 0 H_BR.out, pu, pu, pu, pu, ld 0 3, ?_, ?_, pu, trivial⟩ ?_
 · intro L a U ho J hn d KK k; refine .pos (s := 32) rfl rfl (J.vals 17 _ _ rfl (d.get 17 rfl)) ?_; have r34 := J.read 19 rfl (d.get 19 rfl); go_simp; exact k.out _ _ (J.st 20 rfl rfl)
 · intro L a U ho J hn d KK k; refine .pos (s := 32) rfl rfl (J.vals 17 _ _ rfl (d.get 17 rfl)) ?_; have r35 := J.read 20 rfl (d.get 20 rfl); go_simp; exact k.out _ _ (J.st 21 rfl rfl)
 clear K0 K1 K2 B
 rintro σ W2 ⟨⟨L3, K3⟩, _⟩ ⟨K0, K1, K2, _⟩ _ _ B
 simp only [slotsOf, finX, nval, nvalN, nvalA, Nat.reduceBEq, cond_true, cond_false, putAll, Act.put, List.setIfInBounds_toArray, List.set_cons_succ, List.set_cons_zero]
 generalize blkOf (σ 28) = g2_13 at *
 go_upto_region 3 with (fail)
 cases ok
 ·
  have H_PE := Lib.hid (h_pe rfl)
  clear h_pe
  clear h_po
  clear h_dh
  clear h_sh
  clear h_qh
  clear h_xh
  clear h_ah
  clear h_nh
  clear h_di
  clear h_si
  clear h_qi
  clear h_xi
  clear h_ai
  clear h_ni
  clear h_df
  clear g1
  clear g2
  replace f1 := f1 rfl
  replace f2 := f2 rfl
  replace f3 := f3 rfl
  replace f4 := f4 rfl
  replace f9 := f9 rfl
  replace fa := fa rfl
  clear d1
  clear d2
  clear d3
  clear d4
  clear d5
  clear d6
  replace d7 := d7 rfl
  go_upto_region 3 with (fail)
  have lt0 := K0.out.lt
  have lt1 := K1.out.lt
  have lt2 := K2.out.lt
  have lt3 := K3.out.lt
  refine wp_tab [.v 40 (.agg #[.string A1, .string A2, .string A3, .string A0]), .v 41 (.agg #[.string C1, .string C2, .string C3, .string D1, .string D2, .string D3]), .v 42 (.agg #[.string F1, .string F2, .string F3, .string G1, .string G2, .string G3]), .v 43 (.tuple #[.agg #[.string ⟨#[]⟩, .string ⟨#[]⟩, .string ⟨#[]⟩], .int .i64 er]), .v 39 (.tuple #[.agg #[.string ⟨#[]⟩, .string ⟨#[]⟩, .string ⟨#[]⟩], .int .i64 er]), .v 44 (.agg #[.string ⟨#[]⟩, .string ⟨#[]⟩, .string ⟨#[]⟩]), .v 45 (.int .i64 er), .n 7, .z, .v 8 (.int .i64 er)] [⟨7, 7, fun g => .pointer (some ⟨g, 0, none⟩), #[.string ⟨#[]⟩, .string ⟨#[]⟩, .string ⟨#[]⟩], 24, some (8, #[.string ⟨#[]⟩, .string ⟨#[]⟩, .string ⟨#[]⟩])⟩] [⟨g1_0, #[.string A1, .string A2, .string A3, .string A0], 26, none⟩, ⟨g1_1, #[.string C1, .string C2, .string C3, .string D1, .string D2, .string D3], 45, none⟩, ⟨g1_2, #[.string F1, .string F2, .string F3, .string G1, .string G2, .string G3], 45, none⟩, ⟨g2_13, #[.string A1, .string A2, .string A3, .string C1, .string C2, .string C3, .string D1, .string D2, .string D3, .string F1, .string F2, .string F3, .string G1, .string G2, .string G3], 24, none⟩] [] [(8, 7)] [] [] [] (by kernel_rfl) B.out ⟨K0.out, K1.out, K2.out, K3.out, trivial⟩ trivial ⟨ld 0 0, ld 1 0, ld 2 0, cl H_PE.out, pu, pu, pu, ml 0, ?_, pu, trivial⟩ ?_
  · intro L a U ho J hn d KK k; refine .free rfl ?_; have r7 : a.tmps[(7 : Nat)]?.getD undef = .pointer (some ⟨(blkOf (slotOf a 7)), 0, none⟩) := J.readN 0 rfl (d.get 7 rfl); have r44 := J.read 5 rfl (d.get 5 rfl); have kb := (J.nwB 0 rfl (d.get 7 rfl) hn).blk; have c0 := kb.at_ 0 _ rfl; have z0 := kb.free 0; have c1 := kb.at_ 1 _ rfl; have z1 := kb.free 1; have c2 := kb.at_ 2 _ rfl; have z2 := kb.free 2; clear kb; go_simp; exact k.out undef _ (J.storedN 8 0 rfl rfl rfl rfl rfl 0 [.string ⟨#[]⟩, .string ⟨#[]⟩, .string ⟨#[]⟩] rfl ⟨lt0, lt1, lt2, lt3, trivial⟩ (d.get 7 rfl) hn ⟨.inr (d.get 7 rfl), trivial⟩)
  clear K0 K1 K2 K3 B lt0 lt1 lt2 lt3
  rintro σ W3 ⟨⟨L4, K4⟩, _⟩ ⟨K0, K1, K2, K3, _⟩ _ _ B
  simp only [slotsOf, finX, nval, nvalN, nvalA, Nat.reduceBEq, cond_true, cond_false, putAll, Act.put, List.setIfInBounds_toArray, List.set_cons_succ, List.set_cons_zero]
  generalize blkOf (σ 7) = g3_7 at *
  have c4_0 := K4.out.at_ 0 _ rfl
  have c4_1 := K4.out.at_ 1 _ rfl
  have c4_2 := K4.out.at_ 2 _ rfl
  go_upto_region 5 with (fail)
  clear c4_0 c4_1 c4_2
  cases nu
  ·
   clear h_za
   clear h_zd
   clear h_zg
   clear h_td
   clear h_tg
   have q_f1 := f1 rfl
   clear f1
   clear f2
   clear f3
   clear f4
   clear f5
   clear f6
   clear f7
   clear f8
   clear f9
   clear fa
   clear d7
   go_upto_region 5 with (fail)
   refine wp_tab [.v 50 (.pointer (some ⟨g1_0, 0, none⟩)), .v 51 (.agg #[.string A1, .string A2, .string A3]), .v 52 (.pointer (some ⟨g1_1, 0, none⟩)), .v 53 (.agg #[.string C1, .string C2, .string C3]), .v 54 (.pointer (some ⟨g1_1, 3, none⟩)), .v 55 (.agg #[.string D1, .string D2, .string D3]), .v 56 (.pointer (some ⟨g1_2, 0, none⟩)), .v 57 (.agg #[.string F1, .string F2, .string F3]), .v 58 (.pointer (some ⟨g1_2, 3, none⟩)), .v 59 (.agg #[.string G1, .string G2, .string G3]), .n 60, .v 61 (.pointer (some ⟨g1_0, 3, none⟩)), .v 62 (.string A0), .n 63, .v 64 (.bool false), .v 65 (.bool true), .v 49 (.bool true)] [⟨10, 60, fun g => .slice (some ⟨g, 0, none⟩) 5 5, #[.string A1, .string A2, .string A3, .string C1, .string C2, .string C3, .string D1, .string D2, .string D3, .string F1, .string F2, .string F3, .string G1, .string G2, .string G3], 24, none⟩, ⟨13, 63, fun g => .slice (some ⟨g, 0, none⟩) 1 1, #[.string A0], 22, none⟩] [⟨g1_0, #[.string A1, .string A2, .string A3, .string A0], 26, none⟩, ⟨g1_1, #[.string C1, .string C2, .string C3, .string D1, .string D2, .string D3], 45, none⟩, ⟨g1_2, #[.string F1, .string F2, .string F3, .string G1, .string G2, .string G3], 45, none⟩, ⟨g2_13, #[.string A1, .string A2, .string A3, .string C1, .string C2, .string C3, .string D1, .string D2, .string D3, .string F1, .string F2, .string F3, .string G1, .string G2, .string G3], 24, none⟩, ⟨g3_7, #[.string ⟨#[]⟩, .string ⟨#[]⟩, .string ⟨#[]⟩], 24, none⟩] [] [] [] [] [] (by kernel_rfl) B.out ⟨K0.out, K1.out, K2.out, K3.out, K4.out, trivial⟩ trivial ⟨pu, ld 0 0, pu, ld 1 0, pu, ld 1 3, pu, ld 2 0, pu, ld 2 3, ml 0, pu, ld 0 3, ml 1, c2 0 1 H_NU.out, pu, pu, trivial⟩ ?_
   clear K0 K1 K2 K3 K4 B
   rintro σ W4 ⟨⟨L5, K5⟩, ⟨L6, K6⟩, _⟩ ⟨K0, K1, K2, K3, K4, _⟩ _ _ B
   simp only [slotsOf, finX, nval, nvalN, nvalA, Nat.reduceBEq, cond_true, cond_false, putAll, Act.put, List.setIfInBounds_toArray, List.set_cons_succ, List.set_cons_zero]
   generalize blkOf (σ 60) = g4_10 at *
   generalize blkOf (σ 63) = g4_13 at *
   go_wp2
   go_ret
   exact ⟨rfl, B.out⟩
  ·
   have H_ZA := Lib.hid (h_za rfl)
   clear h_za
   have H_ZD := Lib.hid (h_zd rfl)
   clear h_zd
   have H_ZG := Lib.hid (h_zg rfl)
   clear h_zg
   replace h_td := h_td rfl
   replace h_tg := h_tg rfl
   clear f1
   replace f2 := f2 rfl
   replace f3 := f3 rfl
   replace f4 := f4 rfl
   replace f5 := f5 rfl
   replace f6 := f6 rfl
   replace f7 := f7 rfl
   replace f8 := f8 rfl
   replace f9 := f9 rfl
   replace fa := fa rfl
   replace d7 := d7 rfl
   go_upto_region 5 with (fail)
   refine wp_tab [.v 50 (.pointer (some ⟨g1_0, 0, none⟩)), .v 51 (.agg #[.string A1, .string A2, .string A3]), .v 52 (.pointer (some ⟨g1_1, 0, none⟩)), .v 53 (.agg #[.string C1, .string C2, .string C3]), .v 54 (.pointer (some ⟨g1_1, 3, none⟩)), .v 55 (.agg #[.string D1, .string D2, .string D3]), .v 56 (.pointer (some ⟨g1_2, 0, none⟩)), .v 57 (.agg #[.string F1, .string F2, .string F3]), .v 58 (.pointer (some ⟨g1_2, 3, none⟩)), .v 59 (.agg #[.string G1, .string G2, .string G3]), .n 60, .v 61 (.pointer (some ⟨g1_0, 3, none⟩)), .v 62 (.string A0), .n 63, .v 64 (.bool true), .v 65 (.bool false), .v 49 (.bool false)] [⟨10, 60, fun g => .slice (some ⟨g, 0, none⟩) 5 5, #[.string A1, .string A2, .string A3, .string C1, .string C2, .string C3, .string D1, .string D2, .string D3, .string F1, .string F2, .string F3, .string G1, .string G2, .string G3], 24, none⟩, ⟨13, 63, fun g => .slice (some ⟨g, 0, none⟩) 1 1, #[.string A0], 22, none⟩] [⟨g1_0, #[.string A1, .string A2, .string A3, .string A0], 26, none⟩, ⟨g1_1, #[.string C1, .string C2, .string C3, .string D1, .string D2, .string D3], 45, none⟩, ⟨g1_2, #[.string F1, .string F2, .string F3, .string G1, .string G2, .string G3], 45, none⟩, ⟨g2_13, #[.string A1, .string A2, .string A3, .string C1, .string C2, .string C3, .string D1, .string D2, .string D3, .string F1, .string F2, .string F3, .string G1, .string G2, .string G3], 24, none⟩, ⟨g3_7, #[.string ⟨#[]⟩, .string ⟨#[]⟩, .string ⟨#[]⟩], 24, none⟩] [] [] [] [] [] (by kernel_rfl) B.out ⟨K0.out, K1.out, K2.out, K3.out, K4.out, trivial⟩ trivial ⟨pu, ld 0 0, pu, ld 1 0, pu, ld 1 3, pu, ld 2 0, pu, ld 2 3, ml 0, pu, ld 0 3, ml 1, c2 0 1 H_NU.out, pu, pu, trivial⟩ ?_
   clear K0 K1 K2 K3 K4 B
   rintro σ W4 ⟨⟨L5, K5⟩, ⟨L6, K6⟩, _⟩ ⟨K0, K1, K2, K3, K4, _⟩ _ _ B
   simp only [slotsOf, finX, nval, nvalN, nvalA, Nat.reduceBEq, cond_true, cond_false, putAll, Act.put, List.setIfInBounds_toArray, List.set_cons_succ, List.set_cons_zero]
   generalize blkOf (σ 60) = g4_10 at *
   generalize blkOf (σ 63) = g4_13 at *
   go_upto_region 7 with (fail)
   cases za
   ·
    replace h_td := h_td rfl
    replace h_tg := h_tg rfl
    clear f2
    replace f3 := f3 rfl
    replace f4 := f4 rfl
    replace f5 := f5 rfl
    replace f6 := f6 rfl
    replace f7 := f7 rfl
    replace f8 := f8 rfl
    replace f9 := f9 rfl
    replace fa := fa rfl
    replace d7 := d7 rfl
    cases zd
    ·
     replace h_td := h_td rfl
     replace h_tg := h_tg rfl
     clear f3
     replace f4 := f4 rfl
     replace f5 := f5 rfl
     replace f6 := f6 rfl
     replace f7 := f7 rfl
     replace f8 := f8 rfl
     replace f9 := f9 rfl
     replace fa := fa rfl
     replace d7 := d7 rfl
     cases zg
     ·
      have H_TD := Lib.hid (h_td rfl)
      clear h_td
      have H_TG := Lib.hid (h_tg rfl)
      clear h_tg
      clear f4
      replace f5 := f5 rfl
      replace f6 := f6 rfl
      replace f7 := f7 rfl
      replace f8 := f8 rfl
      replace f9 := f9 rfl
      replace fa := fa rfl
      replace d7 := d7 rfl
      have c0_0 := K0.out.at_ 0 _ rfl
      have c0_1 := K0.out.at_ 1 _ rfl
      have c0_2 := K0.out.at_ 2 _ rfl
      have c1_3 := K1.out.at_ 3 _ rfl
      have c1_4 := K1.out.at_ 4 _ rfl
      have c1_5 := K1.out.at_ 5 _ rfl
      have c2_3 := K2.out.at_ 3 _ rfl
      have c2_4 := K2.out.at_ 4 _ rfl
      have c2_5 := K2.out.at_ 5 _ rfl
      go_upto_region 9 with (
       (first
       | (go_at_call 16; with_reducible refine (H_ZA.out _ (baseI B.out)).mono ?_)
       | (go_at_call 16; with_reducible refine (H_ZD.out _ (baseI B.out)).mono ?_)
       | (go_at_call 16; with_reducible refine (H_ZG.out _ (baseI B.out)).mono ?_)
       | fail "arm"); rintro e wx ⟨rfl, q⟩; replace K0 := Lib.hid (K0.out.nearI q); replace K1 := Lib.hid (K1.out.nearI q); replace K2 := Lib.hid (K2.out.nearI q); replace K3 := Lib.hid (K3.out.nearI q); replace K4 := Lib.hid (K4.out.nearI q); replace K5 := Lib.hid (K5.out.nearI q); replace K6 := Lib.hid (K6.out.nearI q); replace B := Lib.hid (goI B.out q); clear q; replace c0_0 := K0.out.at_ 0 _ rfl; replace c0_1 := K0.out.at_ 1 _ rfl; replace c0_2 := K0.out.at_ 2 _ rfl; replace c1_3 := K1.out.at_ 3 _ rfl; replace c1_4 := K1.out.at_ 4 _ rfl; replace c1_5 := K1.out.at_ 5 _ rfl; replace c2_3 := K2.out.at_ 3 _ rfl; replace c2_4 := K2.out.at_ 4 _ rfl; replace c2_5 := K2.out.at_ 5 _ rfl)
      clear c0_0 c0_1 c0_2 c1_3 c1_4 c1_5 c2_3 c2_4 c2_5
      cases td
      ·
       clear f5
       have q_f6 := f6 rfl
       clear f6
       replace f7 := f7 rfl
       replace f8 := f8 rfl
       clear f9
       replace fa := fa rfl
       replace d7 := d7 rfl
       cases tg
       ·
        clear f7
        have q_f8 := f8 rfl
        clear f8
        clear fa
        have q_d7 := d7 rfl
        clear d7
        exact q_d7.elim
       ·
        have q_f7 := f7 rfl
        clear f7
        clear f8
        have q_fa := fa rfl
        clear fa
        clear d7
        have c0_0 := K0.out.at_ 0 _ rfl
        have c0_1 := K0.out.at_ 1 _ rfl
        have c0_2 := K0.out.at_ 2 _ rfl
        have c1_3 := K1.out.at_ 3 _ rfl
        have c1_4 := K1.out.at_ 4 _ rfl
        have c1_5 := K1.out.at_ 5 _ rfl
        have c2_3 := K2.out.at_ 3 _ rfl
        have c2_4 := K2.out.at_ 4 _ rfl
        have c2_5 := K2.out.at_ 5 _ rfl
        go_wp2_with (
         (first
         | (go_at_call 17; with_reducible refine (H_TD.out _ (baseI B.out)).mono ?_)
         | (go_at_call 17; with_reducible refine (H_TG.out _ (baseI B.out)).mono ?_)
         | fail "arm"); rintro e wx ⟨rfl, q⟩; replace K0 := Lib.hid (K0.out.nearI q); replace K1 := Lib.hid (K1.out.nearI q); replace K2 := Lib.hid (K2.out.nearI q); replace K3 := Lib.hid (K3.out.nearI q); replace K4 := Lib.hid (K4.out.nearI q); replace K5 := Lib.hid (K5.out.nearI q); replace K6 := Lib.hid (K6.out.nearI q); replace B := Lib.hid (goI B.out q); clear q; replace c0_0 := K0.out.at_ 0 _ rfl; replace c0_1 := K0.out.at_ 1 _ rfl; replace c0_2 := K0.out.at_ 2 _ rfl; replace c1_3 := K1.out.at_ 3 _ rfl; replace c1_4 := K1.out.at_ 4 _ rfl; replace c1_5 := K1.out.at_ 5 _ rfl; replace c2_3 := K2.out.at_ 3 _ rfl; replace c2_4 := K2.out.at_ 4 _ rfl; replace c2_5 := K2.out.at_ 5 _ rfl)
        clear c0_0 c0_1 c0_2 c1_3 c1_4 c1_5 c2_3 c2_4 c2_5
        go_ret
        exact ⟨rfl, B.out⟩
      ·
       have q_f5 := f5 rfl
       clear f5
       clear f6
       clear f7
       clear f8
       have q_f9 := f9 rfl
       clear f9
       clear fa
       clear d7
       have c0_0 := K0.out.at_ 0 _ rfl
       have c0_1 := K0.out.at_ 1 _ rfl
       have c0_2 := K0.out.at_ 2 _ rfl
       have c1_3 := K1.out.at_ 3 _ rfl
       have c1_4 := K1.out.at_ 4 _ rfl
       have c1_5 := K1.out.at_ 5 _ rfl
       go_wp2_with (
        (first
        | (go_at_call 17; with_reducible refine (H_TD.out _ (baseI B.out)).mono ?_)
        | fail "arm"); rintro e wx ⟨rfl, q⟩; replace K0 := Lib.hid (K0.out.nearI q); replace K1 := Lib.hid (K1.out.nearI q); replace K2 := Lib.hid (K2.out.nearI q); replace K3 := Lib.hid (K3.out.nearI q); replace K4 := Lib.hid (K4.out.nearI q); replace K5 := Lib.hid (K5.out.nearI q); replace K6 := Lib.hid (K6.out.nearI q); replace B := Lib.hid (goI B.out q); clear q; replace c0_0 := K0.out.at_ 0 _ rfl; replace c0_1 := K0.out.at_ 1 _ rfl; replace c0_2 := K0.out.at_ 2 _ rfl; replace c1_3 := K1.out.at_ 3 _ rfl; replace c1_4 := K1.out.at_ 4 _ rfl; replace c1_5 := K1.out.at_ 5 _ rfl)
       clear c0_0 c0_1 c0_2 c1_3 c1_4 c1_5
       go_ret
       exact ⟨rfl, B.out⟩
     ·
      clear h_td
      clear h_tg
      have q_f4 := f4 rfl
      clear f4
      clear f5
      clear f6
      clear f7
      clear f8
      clear f9
      clear fa
      clear d7
      have c0_0 := K0.out.at_ 0 _ rfl
      have c0_1 := K0.out.at_ 1 _ rfl
      have c0_2 := K0.out.at_ 2 _ rfl
      have c1_3 := K1.out.at_ 3 _ rfl
      have c1_4 := K1.out.at_ 4 _ rfl
      have c1_5 := K1.out.at_ 5 _ rfl
      have c2_3 := K2.out.at_ 3 _ rfl
      have c2_4 := K2.out.at_ 4 _ rfl
      have c2_5 := K2.out.at_ 5 _ rfl
      go_wp2_with (
       (first
       | (go_at_call 16; with_reducible refine (H_ZA.out _ (baseI B.out)).mono ?_)
       | (go_at_call 16; with_reducible refine (H_ZD.out _ (baseI B.out)).mono ?_)
       | (go_at_call 16; with_reducible refine (H_ZG.out _ (baseI B.out)).mono ?_)
       | fail "arm"); rintro e wx ⟨rfl, q⟩; replace K0 := Lib.hid (K0.out.nearI q); replace K1 := Lib.hid (K1.out.nearI q); replace K2 := Lib.hid (K2.out.nearI q); replace K3 := Lib.hid (K3.out.nearI q); replace K4 := Lib.hid (K4.out.nearI q); replace K5 := Lib.hid (K5.out.nearI q); replace K6 := Lib.hid (K6.out.nearI q); replace B := Lib.hid (goI B.out q); clear q; replace c0_0 := K0.out.at_ 0 _ rfl; replace c0_1 := K0.out.at_ 1 _ rfl; replace c0_2 := K0.out.at_ 2 _ rfl; replace c1_3 := K1.out.at_ 3 _ rfl; replace c1_4 := K1.out.at_ 4 _ rfl; replace c1_5 := K1.out.at_ 5 _ rfl; replace c2_3 := K2.out.at_ 3 _ rfl; replace c2_4 := K2.out.at_ 4 _ rfl; replace c2_5 := K2.out.at_ 5 _ rfl)
      clear c0_0 c0_1 c0_2 c1_3 c1_4 c1_5 c2_3 c2_4 c2_5
      go_ret
      exact ⟨rfl, B.out⟩
    ·
     clear h_td
     clear h_tg
     have q_f3 := f3 rfl
     clear f3
     clear f4
     clear f5
     clear f6
     clear f7
     clear f8
     clear f9
     clear fa
     clear d7
     have c0_0 := K0.out.at_ 0 _ rfl
     have c0_1 := K0.out.at_ 1 _ rfl
     have c0_2 := K0.out.at_ 2 _ rfl
     have c1_3 := K1.out.at_ 3 _ rfl
     have c1_4 := K1.out.at_ 4 _ rfl
     have c1_5 := K1.out.at_ 5 _ rfl
     go_wp2_with (
      (first
      | (go_at_call 16; with_reducible refine (H_ZA.out _ (baseI B.out)).mono ?_)
      | (go_at_call 16; with_reducible refine (H_ZD.out _ (baseI B.out)).mono ?_)
      | fail "arm"); rintro e wx ⟨rfl, q⟩; replace K0 := Lib.hid (K0.out.nearI q); replace K1 := Lib.hid (K1.out.nearI q); replace K2 := Lib.hid (K2.out.nearI q); replace K3 := Lib.hid (K3.out.nearI q); replace K4 := Lib.hid (K4.out.nearI q); replace K5 := Lib.hid (K5.out.nearI q); replace K6 := Lib.hid (K6.out.nearI q); replace B := Lib.hid (goI B.out q); clear q; replace c0_0 := K0.out.at_ 0 _ rfl; replace c0_1 := K0.out.at_ 1 _ rfl; replace c0_2 := K0.out.at_ 2 _ rfl; replace c1_3 := K1.out.at_ 3 _ rfl; replace c1_4 := K1.out.at_ 4 _ rfl; replace c1_5 := K1.out.at_ 5 _ rfl)
     clear c0_0 c0_1 c0_2 c1_3 c1_4 c1_5
     go_ret
     exact ⟨rfl, B.out⟩
   ·
    clear h_td
    clear h_tg
    have q_f2 := f2 rfl
    clear f2
    clear f3
    clear f4
    clear f5
    clear f6
    clear f7
    clear f8
    clear f9
    clear fa
    clear d7
    have c0_0 := K0.out.at_ 0 _ rfl
    have c0_1 := K0.out.at_ 1 _ rfl
    have c0_2 := K0.out.at_ 2 _ rfl
    go_wp2_with (
     (first
     | (go_at_call 16; with_reducible refine (H_ZA.out _ (baseI B.out)).mono ?_)
     | fail "arm"); rintro e wx ⟨rfl, q⟩; replace K0 := Lib.hid (K0.out.nearI q); replace K1 := Lib.hid (K1.out.nearI q); replace K2 := Lib.hid (K2.out.nearI q); replace K3 := Lib.hid (K3.out.nearI q); replace K4 := Lib.hid (K4.out.nearI q); replace K5 := Lib.hid (K5.out.nearI q); replace K6 := Lib.hid (K6.out.nearI q); replace B := Lib.hid (goI B.out q); clear q; replace c0_0 := K0.out.at_ 0 _ rfl; replace c0_1 := K0.out.at_ 1 _ rfl; replace c0_2 := K0.out.at_ 2 _ rfl)
    clear c0_0 c0_1 c0_2
    go_ret
    exact ⟨rfl, B.out⟩
 ·
  clear h_pe
  have H_PO := Lib.hid (h_po rfl)
  clear h_po
  replace h_dh := h_dh rfl
  replace h_sh := h_sh rfl
  replace h_qh := h_qh rfl
  replace h_xh := h_xh rfl
  replace h_ah := h_ah rfl
  replace h_nh := h_nh rfl
  replace h_di := h_di rfl
  replace h_si := h_si rfl
  replace h_qi := h_qi rfl
  replace h_xi := h_xi rfl
  replace h_ai := h_ai rfl
  replace h_ni := h_ni rfl
  replace h_df := h_df rfl
  have q_g1 := g1 rfl
  clear g1
  have q_g2 := g2 rfl
  clear g2
  clear f1
  clear f2
  clear f3
  clear f4
  clear f9
  clear fa
  replace d1 := d1 rfl
  replace d2 := d2 rfl
  replace d3 := d3 rfl
  replace d4 := d4 rfl
  replace d5 := d5 rfl
  replace d6 := d6 rfl
  clear d7
  go_upto_region 3 with (fail)
  have lt0 := K0.out.lt
  have lt1 := K1.out.lt
  have lt2 := K2.out.lt
  have lt3 := K3.out.lt
  refine wp_tab [.v 40 (.agg #[.string A1, .string A2, .string A3, .string A0]), .v 41 (.agg #[.string C1, .string C2, .string C3, .string D1, .string D2, .string D3]), .v 42 (.agg #[.string F1, .string F2, .string F3, .string G1, .string G2, .string G3]), .v 43 (.tuple #[.agg #[.string O1, .string O2, .string O3], .int .i64 0]), .v 39 (.tuple #[.agg #[.string O1, .string O2, .string O3], .int .i64 0]), .v 44 (.agg #[.string O1, .string O2, .string O3]), .v 45 (.int .i64 0), .n 7, .z, .v 8 (.int .i64 0)] [⟨7, 7, fun g => .pointer (some ⟨g, 0, none⟩), #[.string ⟨#[]⟩, .string ⟨#[]⟩, .string ⟨#[]⟩], 24, some (8, #[.string O1, .string O2, .string O3])⟩] [⟨g1_0, #[.string A1, .string A2, .string A3, .string A0], 26, none⟩, ⟨g1_1, #[.string C1, .string C2, .string C3, .string D1, .string D2, .string D3], 45, none⟩, ⟨g1_2, #[.string F1, .string F2, .string F3, .string G1, .string G2, .string G3], 45, none⟩, ⟨g2_13, #[.string A1, .string A2, .string A3, .string C1, .string C2, .string C3, .string D1, .string D2, .string D3, .string F1, .string F2, .string F3, .string G1, .string G2, .string G3], 24, none⟩] [] [(8, 7)] [] [] [] (by kernel_rfl) B.out ⟨K0.out, K1.out, K2.out, K3.out, trivial⟩ trivial ⟨ld 0 0, ld 1 0, ld 2 0, cl H_PO.out, pu, pu, pu, ml 0, ?_, pu, trivial⟩ ?_
  · intro L a U ho J hn d KK k; refine .free rfl ?_; have r7 : a.tmps[(7 : Nat)]?.getD undef = .pointer (some ⟨(blkOf (slotOf a 7)), 0, none⟩) := J.readN 0 rfl (d.get 7 rfl); have r44 := J.read 5 rfl (d.get 5 rfl); have kb := (J.nwB 0 rfl (d.get 7 rfl) hn).blk; have c0 := kb.at_ 0 _ rfl; have z0 := kb.free 0; have c1 := kb.at_ 1 _ rfl; have z1 := kb.free 1; have c2 := kb.at_ 2 _ rfl; have z2 := kb.free 2; clear kb; go_simp; exact k.out undef _ (J.storedN 8 0 rfl rfl rfl rfl rfl 0 [.string O1, .string O2, .string O3] rfl ⟨lt0, lt1, lt2, lt3, trivial⟩ (d.get 7 rfl) hn ⟨.inr (d.get 7 rfl), trivial⟩)
  clear K0 K1 K2 K3 B lt0 lt1 lt2 lt3
  rintro σ W3 ⟨⟨L4, K4⟩, _⟩ ⟨K0, K1, K2, K3, _⟩ _ _ B
  simp only [slotsOf, finX, nval, nvalN, nvalA, Nat.reduceBEq, cond_true, cond_false, putAll, Act.put, List.setIfInBounds_toArray, List.set_cons_succ, List.set_cons_zero]
  generalize blkOf (σ 7) = g3_7 at *
  have c4_0 := K4.out.at_ 0 _ rfl
  have c4_1 := K4.out.at_ 1 _ rfl
  have c4_2 := K4.out.at_ 2 _ rfl
  go_upto_region 5 with (fail)
  clear c4_0 c4_1 c4_2
  cases nu
  ·
   clear h_za
   clear h_zd
   clear h_zg
   clear h_td
   clear h_tg
   clear h_dh
   clear h_sh
   clear h_qh
   clear h_xh
   clear h_ah
   clear h_nh
   clear h_di
   clear h_si
   clear h_qi
   clear h_xi
   clear h_ai
   clear h_ni
   clear h_df
   clear f5
   clear f6
   clear f7
   clear f8
   have q_d1 := d1 rfl
   clear d1
   clear d2
   clear d3
   clear d4
   clear d5
   clear d6
   exact q_d1.elim
  ·
   have H_ZA := Lib.hid (h_za rfl)
   clear h_za
   have H_ZD := Lib.hid (h_zd rfl)
   clear h_zd
   have H_ZG := Lib.hid (h_zg rfl)
   clear h_zg
   replace h_td := h_td rfl
   replace h_tg := h_tg rfl
   replace h_dh := h_dh rfl
   replace h_sh := h_sh rfl
   replace h_qh := h_qh rfl
   replace h_xh := h_xh rfl
   replace h_ah := h_ah rfl
   replace h_nh := h_nh rfl
   replace h_di := h_di rfl
   replace h_si := h_si rfl
   replace h_qi := h_qi rfl
   replace h_xi := h_xi rfl
   replace h_ai := h_ai rfl
   replace h_ni := h_ni rfl
   replace h_df := h_df rfl
   replace f5 := f5 rfl
   replace f6 := f6 rfl
   replace f7 := f7 rfl
   replace f8 := f8 rfl
   clear d1
   replace d2 := d2 rfl
   replace d3 := d3 rfl
   replace d4 := d4 rfl
   replace d5 := d5 rfl
   replace d6 := d6 rfl
   go_upto_region 5 with (fail)
   refine wp_tab [.v 50 (.pointer (some ⟨g1_0, 0, none⟩)), .v 51 (.agg #[.string A1, .string A2, .string A3]), .v 52 (.pointer (some ⟨g1_1, 0, none⟩)), .v 53 (.agg #[.string C1, .string C2, .string C3]), .v 54 (.pointer (some ⟨g1_1, 3, none⟩)), .v 55 (.agg #[.string D1, .string D2, .string D3]), .v 56 (.pointer (some ⟨g1_2, 0, none⟩)), .v 57 (.agg #[.string F1, .string F2, .string F3]), .v 58 (.pointer (some ⟨g1_2, 3, none⟩)), .v 59 (.agg #[.string G1, .string G2, .string G3]), .n 60, .v 61 (.pointer (some ⟨g1_0, 3, none⟩)), .v 62 (.string A0), .n 63, .v 64 (.bool true), .v 65 (.bool false), .v 49 (.bool false)] [⟨10, 60, fun g => .slice (some ⟨g, 0, none⟩) 5 5, #[.string A1, .string A2, .string A3, .string C1, .string C2, .string C3, .string D1, .string D2, .string D3, .string F1, .string F2, .string F3, .string G1, .string G2, .string G3], 24, none⟩, ⟨13, 63, fun g => .slice (some ⟨g, 0, none⟩) 1 1, #[.string A0], 22, none⟩] [⟨g1_0, #[.string A1, .string A2, .string A3, .string A0], 26, none⟩, ⟨g1_1, #[.string C1, .string C2, .string C3, .string D1, .string D2, .string D3], 45, none⟩, ⟨g1_2, #[.string F1, .string F2, .string F3, .string G1, .string G2, .string G3], 45, none⟩, ⟨g2_13, #[.string A1, .string A2, .string A3, .string C1, .string C2, .string C3, .string D1, .string D2, .string D3, .string F1, .string F2, .string F3, .string G1, .string G2, .string G3], 24, none⟩, ⟨g3_7, #[.string O1, .string O2, .string O3], 24, none⟩] [] [] [] [] [] (by kernel_rfl) B.out ⟨K0.out, K1.out, K2.out, K3.out, K4.out, trivial⟩ trivial ⟨pu, ld 0 0, pu, ld 1 0, pu, ld 1 3, pu, ld 2 0, pu, ld 2 3, ml 0, pu, ld 0 3, ml 1, c2 0 1 H_NU.out, pu, pu, trivial⟩ ?_
   clear K0 K1 K2 K3 K4 B
   rintro σ W4 ⟨⟨L5, K5⟩, ⟨L6, K6⟩, _⟩ ⟨K0, K1, K2, K3, K4, _⟩ _ _ B
   simp only [slotsOf, finX, nval, nvalN, nvalA, Nat.reduceBEq, cond_true, cond_false, putAll, Act.put, List.setIfInBounds_toArray, List.set_cons_succ, List.set_cons_zero]
   generalize blkOf (σ 60) = g4_10 at *
   generalize blkOf (σ 63) = g4_13 at *
   go_upto_region 7 with (fail)
   cases za
   ·
    replace h_td := h_td rfl
    replace h_tg := h_tg rfl
    replace h_dh := h_dh rfl
    replace h_sh := h_sh rfl
    replace h_qh := h_qh rfl
    replace h_xh := h_xh rfl
    replace h_ah := h_ah rfl
    replace h_nh := h_nh rfl
    replace h_di := h_di rfl
    replace h_si := h_si rfl
    replace h_qi := h_qi rfl
    replace h_xi := h_xi rfl
    replace h_ai := h_ai rfl
    replace h_ni := h_ni rfl
    replace h_df := h_df rfl
    replace f5 := f5 rfl
    replace f6 := f6 rfl
    replace f7 := f7 rfl
    replace f8 := f8 rfl
    clear d2
    replace d3 := d3 rfl
    replace d4 := d4 rfl
    replace d5 := d5 rfl
    replace d6 := d6 rfl
    cases zd
    ·
     replace h_td := h_td rfl
     replace h_tg := h_tg rfl
     replace h_dh := h_dh rfl
     replace h_sh := h_sh rfl
     replace h_qh := h_qh rfl
     replace h_xh := h_xh rfl
     replace h_ah := h_ah rfl
     replace h_nh := h_nh rfl
     replace h_di := h_di rfl
     replace h_si := h_si rfl
     replace h_qi := h_qi rfl
     replace h_xi := h_xi rfl
     replace h_ai := h_ai rfl
     replace h_ni := h_ni rfl
     replace h_df := h_df rfl
     replace f5 := f5 rfl
     replace f6 := f6 rfl
     replace f7 := f7 rfl
     replace f8 := f8 rfl
     clear d3
     replace d4 := d4 rfl
     replace d5 := d5 rfl
     replace d6 := d6 rfl
     cases zg
     ·
      have H_TD := Lib.hid (h_td rfl)
      clear h_td
      have H_TG := Lib.hid (h_tg rfl)
      clear h_tg
      have H_DH := Lib.hid (h_dh rfl)
      clear h_dh
      have H_SH := Lib.hid (h_sh rfl)
      clear h_sh
      have H_QH := Lib.hid (h_qh rfl)
      clear h_qh
      have H_XH := Lib.hid (h_xh rfl)
      clear h_xh
      have H_AH := Lib.hid (h_ah rfl)
      clear h_ah
      have H_NH := Lib.hid (h_nh rfl)
      clear h_nh
      have H_DI := Lib.hid (h_di rfl)
      clear h_di
      have H_SI := Lib.hid (h_si rfl)
      clear h_si
      have H_QI := Lib.hid (h_qi rfl)
      clear h_qi
      have H_XI := Lib.hid (h_xi rfl)
      clear h_xi
      have H_AI := Lib.hid (h_ai rfl)
      clear h_ai
      have H_NI := Lib.hid (h_ni rfl)
      clear h_ni
      have H_DF := Lib.hid (h_df rfl)
      clear h_df
      replace f5 := f5 rfl
      replace f6 := f6 rfl
      replace f7 := f7 rfl
      replace f8 := f8 rfl
      clear d4
      replace d5 := d5 rfl
      replace d6 := d6 rfl
      have c0_0 := K0.out.at_ 0 _ rfl
      have c0_1 := K0.out.at_ 1 _ rfl
      have c0_2 := K0.out.at_ 2 _ rfl
      have c1_3 := K1.out.at_ 3 _ rfl
      have c1_4 := K1.out.at_ 4 _ rfl
      have c1_5 := K1.out.at_ 5 _ rfl
      have c2_3 := K2.out.at_ 3 _ rfl
      have c2_4 := K2.out.at_ 4 _ rfl
      have c2_5 := K2.out.at_ 5 _ rfl
      go_upto_region 9 with (
       (first
       | (go_at_call 16; with_reducible refine (H_ZA.out _ (baseI B.out)).mono ?_)
       | (go_at_call 16; with_reducible refine (H_ZD.out _ (baseI B.out)).mono ?_)
       | (go_at_call 16; with_reducible refine (H_ZG.out _ (baseI B.out)).mono ?_)
       | fail "arm"); rintro e wx ⟨rfl, q⟩; replace K0 := Lib.hid (K0.out.nearI q); replace K1 := Lib.hid (K1.out.nearI q); replace K2 := Lib.hid (K2.out.nearI q); replace K3 := Lib.hid (K3.out.nearI q); replace K4 := Lib.hid (K4.out.nearI q); replace K5 := Lib.hid (K5.out.nearI q); replace K6 := Lib.hid (K6.out.nearI q); replace B := Lib.hid (goI B.out q); clear q; replace c0_0 := K0.out.at_ 0 _ rfl; replace c0_1 := K0.out.at_ 1 _ rfl; replace c0_2 := K0.out.at_ 2 _ rfl; replace c1_3 := K1.out.at_ 3 _ rfl; replace c1_4 := K1.out.at_ 4 _ rfl; replace c1_5 := K1.out.at_ 5 _ rfl; replace c2_3 := K2.out.at_ 3 _ rfl; replace c2_4 := K2.out.at_ 4 _ rfl; replace c2_5 := K2.out.at_ 5 _ rfl)
      clear c0_0 c0_1 c0_2 c1_3 c1_4 c1_5 c2_3 c2_4 c2_5
      cases td
      ·
       clear f5
       have q_f6 := f6 rfl
       clear f6
       replace f7 := f7 rfl
       replace f8 := f8 rfl
       clear d5
       replace d6 := d6 rfl
       cases tg
       ·
        clear f7
        have q_f8 := f8 rfl
        clear f8
        clear d6
        have c0_0 := K0.out.at_ 0 _ rfl
        have c0_1 := K0.out.at_ 1 _ rfl
        have c0_2 := K0.out.at_ 2 _ rfl
        have c1_3 := K1.out.at_ 3 _ rfl
        have c1_4 := K1.out.at_ 4 _ rfl
        have c1_5 := K1.out.at_ 5 _ rfl
        have c2_3 := K2.out.at_ 3 _ rfl
        have c2_4 := K2.out.at_ 4 _ rfl
        have c2_5 := K2.out.at_ 5 _ rfl
        go_upto_region 12 with (
         (first
         | (go_at_call 17; with_reducible refine (H_TD.out _ (baseI B.out)).mono ?_)
         | (go_at_call 17; with_reducible refine (H_TG.out _ (baseI B.out)).mono ?_)
         | fail "arm"); rintro e wx ⟨rfl, q⟩; replace K0 := Lib.hid (K0.out.nearI q); replace K1 := Lib.hid (K1.out.nearI q); replace K2 := Lib.hid (K2.out.nearI q); replace K3 := Lib.hid (K3.out.nearI q); replace K4 := Lib.hid (K4.out.nearI q); replace K5 := Lib.hid (K5.out.nearI q); replace K6 := Lib.hid (K6.out.nearI q); replace B := Lib.hid (goI B.out q); clear q; replace c0_0 := K0.out.at_ 0 _ rfl; replace c0_1 := K0.out.at_ 1 _ rfl; replace c0_2 := K0.out.at_ 2 _ rfl; replace c1_3 := K1.out.at_ 3 _ rfl; replace c1_4 := K1.out.at_ 4 _ rfl; replace c1_5 := K1.out.at_ 5 _ rfl; replace c2_3 := K2.out.at_ 3 _ rfl; replace c2_4 := K2.out.at_ 4 _ rfl; replace c2_5 := K2.out.at_ 5 _ rfl)
        clear c0_0 c0_1 c0_2 c1_3 c1_4 c1_5 c2_3 c2_4 c2_5
        refine wp_tab [.v 110 (.agg #[.string C1, .string C2, .string C3, .string D1, .string D2, .string D3]), .v 111 (.agg #[.string F1, .string F2, .string F3, .string G1, .string G2, .string G3]), .n 112, .v 113 (.int .i64 2), .v 114 (.int .i64 0)] [⟨2, 112, fun g => .slice (some ⟨g, 0, none⟩) 2 2, #[.string C1, .string C2, .string C3, .string D1, .string D2, .string D3, .string F1, .string F2, .string F3, .string G1, .string G2, .string G3], 45, none⟩] [⟨g1_0, #[.string A1, .string A2, .string A3, .string A0], 26, none⟩, ⟨g1_1, #[.string C1, .string C2, .string C3, .string D1, .string D2, .string D3], 45, none⟩, ⟨g1_2, #[.string F1, .string F2, .string F3, .string G1, .string G2, .string G3], 45, none⟩, ⟨g2_13, #[.string A1, .string A2, .string A3, .string C1, .string C2, .string C3, .string D1, .string D2, .string D3, .string F1, .string F2, .string F3, .string G1, .string G2, .string G3], 24, none⟩, ⟨g3_7, #[.string O1, .string O2, .string O3], 24, none⟩, ⟨g4_10, #[.string A1, .string A2, .string A3, .string C1, .string C2, .string C3, .string D1, .string D2, .string D3, .string F1, .string F2, .string F3, .string G1, .string G2, .string G3], 24, none⟩, ⟨g4_13, #[.string A0], 22, none⟩] [] [] [] [] [] (by kernel_rfl) B.out ⟨K0.out, K1.out, K2.out, K3.out, K4.out, K5.out, K6.out, trivial⟩ trivial ⟨ld 1 0, ld 2 0, ml 0, pu, pu, trivial⟩ ?_
        clear K0 K1 K2 K3 K4 K5 K6 B
        rintro σ W5 ⟨⟨L7, K7⟩, _⟩ ⟨K0, K1, K2, K3, K4, K5, K6, _⟩ _ _ B
        simp only [slotsOf, finX, nval, nvalN, nvalA, Nat.reduceBEq, cond_true, cond_false, putAll, Act.put, List.setIfInBounds_toArray, List.set_cons_succ, List.set_cons_zero]
        generalize blkOf (σ 112) = g5_2 at *
        go_wp2
        refine wp_loop_rounds 3 ?_
        rw [rounds_succ]
        go_upto_region 14 with (fail)
        have lt0 := K0.out.lt
        have lt1 := K1.out.lt
        have lt2 := K2.out.lt
        have lt3 := K3.out.lt
        have lt4 := K4.out.lt
        have lt5 := K5.out.lt
        have lt6 := K6.out.lt
        have lt7 := K7.out.lt
        refine wp_tab [.v 116 (.pointer (some ⟨g5_2, 0, none⟩)), .v 117 (.agg #[.string C1, .string C2, .string C3, .string D1, .string D2, .string D3]), .n 12, .z] [⟨2, 12, fun g => .pointer (some ⟨g, 0, none⟩), #[.string ⟨#[]⟩, .string ⟨#[]⟩, .string ⟨#[]⟩, .string ⟨#[]⟩, .string ⟨#[]⟩, .string ⟨#[]⟩], 45, some (3, #[.string C1, .string C2, .string C3, .string D1, .string D2, .string D3])⟩] [⟨g1_0, #[.string A1, .string A2, .string A3, .string A0], 26, none⟩, ⟨g1_1, #[.string C1, .string C2, .string C3, .string D1, .string D2, .string D3], 45, none⟩, ⟨g1_2, #[.string F1, .string F2, .string F3, .string G1, .string G2, .string G3], 45, none⟩, ⟨g2_13, #[.string A1, .string A2, .string A3, .string C1, .string C2, .string C3, .string D1, .string D2, .string D3, .string F1, .string F2, .string F3, .string G1, .string G2, .string G3], 24, none⟩, ⟨g3_7, #[.string O1, .string O2, .string O3], 24, none⟩, ⟨g4_10, #[.string A1, .string A2, .string A3, .string C1, .string C2, .string C3, .string D1, .string D2, .string D3, .string F1, .string F2, .string F3, .string G1, .string G2, .string G3], 24, none⟩, ⟨g4_13, #[.string A0], 22, none⟩, ⟨g5_2, #[.string C1, .string C2, .string C3, .string D1, .string D2, .string D3, .string F1, .string F2, .string F3, .string G1, .string G2, .string G3], 45, none⟩] [] [(3, 2)] [] [] [] (by kernel_rfl) B.out ⟨K0.out, K1.out, K2.out, K3.out, K4.out, K5.out, K6.out, K7.out, trivial⟩ trivial ⟨pu, ld 7 0, ml 0, ?_, trivial⟩ ?_
        · intro L a U ho J hn d KK k; refine .free rfl ?_; have r12 : a.tmps[(12 : Nat)]?.getD undef = .pointer (some ⟨(blkOf (slotOf a 12)), 0, none⟩) := J.readN 0 rfl (d.get 2 rfl); have r117 := J.read 1 rfl (d.get 1 rfl); have kb := (J.nwB 0 rfl (d.get 2 rfl) hn).blk; have c0 := kb.at_ 0 _ rfl; have z0 := kb.free 0; have c1 := kb.at_ 1 _ rfl; have z1 := kb.free 1; have c2 := kb.at_ 2 _ rfl; have z2 := kb.free 2; have c3 := kb.at_ 3 _ rfl; have z3 := kb.free 3; have c4 := kb.at_ 4 _ rfl; have z4 := kb.free 4; have c5 := kb.at_ 5 _ rfl; have z5 := kb.free 5; clear kb; go_simp; exact k.out undef _ (J.storedN 3 0 rfl rfl rfl rfl rfl 0 [.string C1, .string C2, .string C3, .string D1, .string D2, .string D3] rfl ⟨lt0, lt1, lt2, lt3, lt4, lt5, lt6, lt7, trivial⟩ (d.get 2 rfl) hn ⟨.inr (d.get 2 rfl), trivial⟩)
        clear K0 K1 K2 K3 K4 K5 K6 K7 B lt0 lt1 lt2 lt3 lt4 lt5 lt6 lt7
        rintro σ W6 ⟨⟨L8, K8⟩, _⟩ ⟨K0, K1, K2, K3, K4, K5, K6, K7, _⟩ _ _ B
        simp only [slotsOf, finX, nval, nvalN, nvalA, Nat.reduceBEq, cond_true, cond_false, putAll, Act.put, List.setIfInBounds_toArray, List.set_cons_succ, List.set_cons_zero]
        generalize blkOf (σ 12) = g6_2 at *
        go_upto_region 15 with (fail)
        refine wp_tab [.v 118 (.pointer (some ⟨g1_0, 3, none⟩)), .v 119 (.string A0), .v 120 (.pointer (some ⟨g1_0, 0, none⟩)), .v 121 (.agg #[.string A1, .string A2, .string A3]), .v 122 (.pointer (some ⟨g6_2, 0, none⟩)), .v 123 (.agg #[.string C1, .string C2, .string C3]), .v 124 (.string H1), .v 125 (.string H2), .v 126 (.pointer (some ⟨g1_0, 0, none⟩)), .v 127 (.agg #[.string A1, .string A2, .string A3]), .v 128 (.pointer (some ⟨g6_2, 3, none⟩)), .v 129 (.agg #[.string D1, .string D2, .string D3]), .v 130 (.string P), .v 131 (.string H3), .v 13 (.string H3)] [] [⟨g1_0, #[.string A1, .string A2, .string A3, .string A0], 26, none⟩, ⟨g1_1, #[.string C1, .string C2, .string C3, .string D1, .string D2, .string D3], 45, none⟩, ⟨g1_2, #[.string F1, .string F2, .string F3, .string G1, .string G2, .string G3], 45, none⟩, ⟨g2_13, #[.string A1, .string A2, .string A3, .string C1, .string C2, .string C3, .string D1, .string D2, .string D3, .string F1, .string F2, .string F3, .string G1, .string G2, .string G3], 24, none⟩, ⟨g3_7, #[.string O1, .string O2, .string O3], 24, none⟩, ⟨g4_10, #[.string A1, .string A2, .string A3, .string C1, .string C2, .string C3, .string D1, .string D2, .string D3, .string F1, .string F2, .string F3, .string G1, .string G2, .string G3], 24, none⟩, ⟨g4_13, #[.string A0], 22, none⟩, ⟨g5_2, #[.string C1, .string C2, .string C3, .string D1, .string D2, .string D3, .string F1, .string F2, .string F3, .string G1, .string G2, .string G3], 45, none⟩, ⟨g6_2, #[.string C1, .string C2, .string C3, .string D1, .string D2, .string D3], 45, none⟩] [] [] [] [] [] (by kernel_rfl) B.out ⟨K0.out, K1.out, K2.out, K3.out, K4.out, K5.out, K6.out, K7.out, K8.out, trivial⟩ trivial ⟨pu, ld 0 3, pu, ld 0 0, pu, ld 8 0, cl H_DH.out, cl H_SH.out, pu, ld 0 0, pu, ld 8 3, cl H_TD.out, cl H_QH.out, pu, trivial⟩ ?_
        clear K0 K1 K2 K3 K4 K5 K6 K7 K8 B
        rintro σ W7 _ ⟨K0, K1, K2, K3, K4, K5, K6, K7, K8, _⟩ _ _ B
        simp only [slotsOf, finX, nval, nvalN, nvalA, Nat.reduceBEq, cond_true, cond_false, putAll, Act.put, List.setIfInBounds_toArray, List.set_cons_succ, List.set_cons_zero]
        go_upto_region 16 with (fail)
        have lt0 := K0.out.lt
        have lt1 := K1.out.lt
        have lt2 := K2.out.lt
        have lt3 := K3.out.lt
        have lt4 := K4.out.lt
        have lt5 := K5.out.lt
        have lt6 := K6.out.lt
        have lt7 := K7.out.lt
        have lt8 := K8.out.lt
        refine wp_tab [.v 132 (.pointer (some ⟨g6_2, 0, none⟩)), .v 133 (.agg #[.string C1, .string C2, .string C3]), .v 134 (.pointer (some ⟨g6_2, 3, none⟩)), .v 135 (.agg #[.string D1, .string D2, .string D3]), .v 136 (.string H3), .v 137 (.agg #[.string SH1, .string SH2, .string SH3]), .v 138 (.agg #[.string X1, .string X2, .string X3]), .n 14, .z] [⟨7, 14, fun g => .pointer (some ⟨g, 0, none⟩), #[.string ⟨#[]⟩, .string ⟨#[]⟩, .string ⟨#[]⟩], 24, some (8, #[.string X1, .string X2, .string X3])⟩] [⟨g1_0, #[.string A1, .string A2, .string A3, .string A0], 26, none⟩, ⟨g1_1, #[.string C1, .string C2, .string C3, .string D1, .string D2, .string D3], 45, none⟩, ⟨g1_2, #[.string F1, .string F2, .string F3, .string G1, .string G2, .string G3], 45, none⟩, ⟨g2_13, #[.string A1, .string A2, .string A3, .string C1, .string C2, .string C3, .string D1, .string D2, .string D3, .string F1, .string F2, .string F3, .string G1, .string G2, .string G3], 24, none⟩, ⟨g3_7, #[.string O1, .string O2, .string O3], 24, none⟩, ⟨g4_10, #[.string A1, .string A2, .string A3, .string C1, .string C2, .string C3, .string D1, .string D2, .string D3, .string F1, .string F2, .string F3, .string G1, .string G2, .string G3], 24, none⟩, ⟨g4_13, #[.string A0], 22, none⟩, ⟨g5_2, #[.string C1, .string C2, .string C3, .string D1, .string D2, .string D3, .string F1, .string F2, .string F3, .string G1, .string G2, .string G3], 45, none⟩, ⟨g6_2, #[.string C1, .string C2, .string C3, .string D1, .string D2, .string D3], 45, none⟩] [] [(8, 7)] [] [] [] (by kernel_rfl) B.out ⟨K0.out, K1.out, K2.out, K3.out, K4.out, K5.out, K6.out, K7.out, K8.out, trivial⟩ trivial ⟨pu, ld 8 0, pu, ld 8 3, pu, cl H_XH.out, cl H_AH.out, ml 0, ?_, trivial⟩ ?_
        · intro L a U ho J hn d KK k; refine .free rfl ?_; have r14 : a.tmps[(14 : Nat)]?.getD undef = .pointer (some ⟨(blkOf (slotOf a 14)), 0, none⟩) := J.readN 0 rfl (d.get 7 rfl); have r138 := J.read 6 rfl (d.get 6 rfl); have kb := (J.nwB 0 rfl (d.get 7 rfl) hn).blk; have c0 := kb.at_ 0 _ rfl; have z0 := kb.free 0; have c1 := kb.at_ 1 _ rfl; have z1 := kb.free 1; have c2 := kb.at_ 2 _ rfl; have z2 := kb.free 2; clear kb; go_simp; exact k.out undef _ (J.storedN 8 0 rfl rfl rfl rfl rfl 0 [.string X1, .string X2, .string X3] rfl ⟨lt0, lt1, lt2, lt3, lt4, lt5, lt6, lt7, lt8, trivial⟩ (d.get 7 rfl) hn ⟨.inr (d.get 7 rfl), trivial⟩)
        clear K0 K1 K2 K3 K4 K5 K6 K7 K8 B lt0 lt1 lt2 lt3 lt4 lt5 lt6 lt7 lt8
        rintro σ W8 ⟨⟨L9, K9⟩, _⟩ ⟨K0, K1, K2, K3, K4, K5, K6, K7, K8, _⟩ _ _ B
        simp only [slotsOf, finX, nval, nvalN, nvalA, Nat.reduceBEq, cond_true, cond_false, putAll, Act.put, List.setIfInBounds_toArray, List.set_cons_succ, List.set_cons_zero]
        generalize blkOf (σ 14) = g8_7 at *
        have c0_0 := K0.out.at_ 0 _ rfl
        have c0_1 := K0.out.at_ 1 _ rfl
        have c0_2 := K0.out.at_ 2 _ rfl
        have c0_3 := K0.out.at_ 3 _ rfl
        have c9_0 := K9.out.at_ 0 _ rfl
        have c9_1 := K9.out.at_ 1 _ rfl
        have c9_2 := K9.out.at_ 2 _ rfl
        go_upto_region 19 with (
         (first
         | (go_at_call 25; with_reducible refine (H_NH.out _ (baseI B.out)).mono ?_)
         | fail "arm"); rintro e wx ⟨rfl, q⟩; replace K0 := Lib.hid (K0.out.nearI q); replace K1 := Lib.hid (K1.out.nearI q); replace K2 := Lib.hid (K2.out.nearI q); replace K3 := Lib.hid (K3.out.nearI q); replace K4 := Lib.hid (K4.out.nearI q); replace K5 := Lib.hid (K5.out.nearI q); replace K6 := Lib.hid (K6.out.nearI q); replace K7 := Lib.hid (K7.out.nearI q); replace K8 := Lib.hid (K8.out.nearI q); replace K9 := Lib.hid (K9.out.nearI q); replace B := Lib.hid (goI B.out q); clear q; replace c0_0 := K0.out.at_ 0 _ rfl; replace c0_1 := K0.out.at_ 1 _ rfl; replace c0_2 := K0.out.at_ 2 _ rfl; replace c0_3 := K0.out.at_ 3 _ rfl; replace c9_0 := K9.out.at_ 0 _ rfl; replace c9_1 := K9.out.at_ 1 _ rfl; replace c9_2 := K9.out.at_ 2 _ rfl)
        clear c0_0 c0_1 c0_2 c0_3 c9_0 c9_1 c9_2
        have c9_0 := K9.out.at_ 0 _ rfl
        have c9_1 := K9.out.at_ 1 _ rfl
        have c9_2 := K9.out.at_ 2 _ rfl
        go_upto_region 20 with (at_builtin; refine wpList_app0 ElV rfl (.tmp 143) (.tmp 145) rfl wx rfl [.string X1, .string X2, .string X3] rfl rfl (by simp [Value.oneCell']) ?_; intro ga1 qa1 ra1 wp1 kk lg mm qq; have K11 := Lib.hid (show Blk wp1 ga1 (List.toArray (.string X1 :: .string X2 :: .string X3 :: ra1)) 24 from kk); have M11 := Lib.hid mm; have D0_11 := Lib.hid (Nat.ne_of_lt (Nat.lt_of_lt_of_le K0.out.lt lg)); replace K0 := Lib.hid (K0.out.grown qq (fun h => by cases h)); have D1_11 := Lib.hid (Nat.ne_of_lt (Nat.lt_of_lt_of_le K1.out.lt lg)); replace K1 := Lib.hid (K1.out.grown qq (fun h => by cases h)); have D2_11 := Lib.hid (Nat.ne_of_lt (Nat.lt_of_lt_of_le K2.out.lt lg)); replace K2 := Lib.hid (K2.out.grown qq (fun h => by cases h)); have D3_11 := Lib.hid (Nat.ne_of_lt (Nat.lt_of_lt_of_le K3.out.lt lg)); replace K3 := Lib.hid (K3.out.grown qq (fun h => by cases h)); have D4_11 := Lib.hid (Nat.ne_of_lt (Nat.lt_of_lt_of_le K4.out.lt lg)); replace K4 := Lib.hid (K4.out.grown qq (fun h => by cases h)); have D5_11 := Lib.hid (Nat.ne_of_lt (Nat.lt_of_lt_of_le K5.out.lt lg)); replace K5 := Lib.hid (K5.out.grown qq (fun h => by cases h)); have D6_11 := Lib.hid (Nat.ne_of_lt (Nat.lt_of_lt_of_le K6.out.lt lg)); replace K6 := Lib.hid (K6.out.grown qq (fun h => by cases h)); have D7_11 := Lib.hid (Nat.ne_of_lt (Nat.lt_of_lt_of_le K7.out.lt lg)); replace K7 := Lib.hid (K7.out.grown qq (fun h => by cases h)); have D8_11 := Lib.hid (Nat.ne_of_lt (Nat.lt_of_lt_of_le K8.out.lt lg)); replace K8 := Lib.hid (K8.out.grown qq (fun h => by cases h)); have D9_11 := Lib.hid (Nat.ne_of_lt (Nat.lt_of_lt_of_le K9.out.lt lg)); replace K9 := Lib.hid (K9.out.grown qq (fun h => by cases h)); have L11 := Lib.hid (Nat.le_trans B.out.size lg); replace B := Lib.hid (below_app0 B.out qq B.out.size); clear kk lg mm qq; replace c9_0 := K9.out.at_ 0 _ rfl; replace c9_1 := K9.out.at_ 1 _ rfl; replace c9_2 := K9.out.at_ 2 _ rfl)
        clear c9_0 c9_1 c9_2
        go_wp2
        rw [rounds_succ]
        go_upto_region 14 with (fail)
        have lt0 := K0.out.lt
        have lt1 := K1.out.lt
        have lt2 := K2.out.lt
        have lt3 := K3.out.lt
        have lt4 := K4.out.lt
        have lt5 := K5.out.lt
        have lt6 := K6.out.lt
        have lt7 := K7.out.lt
        have lt8 := K8.out.lt
        have lt9 := K9.out.lt
        have lt11 := K11.out.lt
        refine wp_tab [.v 116 (.pointer (some ⟨g5_2, 6, none⟩)), .v 117 (.agg #[.string F1, .string F2, .string F3, .string G1, .string G2, .string G3]), .n 12, .z] [⟨2, 12, fun g => .pointer (some ⟨g, 0, none⟩), #[.string ⟨#[]⟩, .string ⟨#[]⟩, .string ⟨#[]⟩, .string ⟨#[]⟩, .string ⟨#[]⟩, .string ⟨#[]⟩], 45, some (3, #[.string F1, .string F2, .string F3, .string G1, .string G2, .string G3])⟩] [⟨g1_0, #[.string A1, .string A2, .string A3, .string A0], 26, none⟩, ⟨g1_1, #[.string C1, .string C2, .string C3, .string D1, .string D2, .string D3], 45, none⟩, ⟨g1_2, #[.string F1, .string F2, .string F3, .string G1, .string G2, .string G3], 45, none⟩, ⟨g2_13, #[.string A1, .string A2, .string A3, .string C1, .string C2, .string C3, .string D1, .string D2, .string D3, .string F1, .string F2, .string F3, .string G1, .string G2, .string G3], 24, none⟩, ⟨g3_7, #[.string O1, .string O2, .string O3], 24, none⟩, ⟨g4_10, #[.string A1, .string A2, .string A3, .string C1, .string C2, .string C3, .string D1, .string D2, .string D3, .string F1, .string F2, .string F3, .string G1, .string G2, .string G3], 24, none⟩, ⟨g4_13, #[.string A0], 22, none⟩, ⟨g5_2, #[.string C1, .string C2, .string C3, .string D1, .string D2, .string D3, .string F1, .string F2, .string F3, .string G1, .string G2, .string G3], 45, none⟩, ⟨g6_2, #[.string C1, .string C2, .string C3, .string D1, .string D2, .string D3], 45, none⟩, ⟨g8_7, #[.string X1, .string X2, .string X3], 24, none⟩, ⟨ga1, (List.toArray (.string X1 :: .string X2 :: .string X3 :: ra1)), 24, none⟩] [] [(3, 2)] [] [(10, 0)] [] (by kernel_rfl) B.out ⟨K0.out, K1.out, K2.out, K3.out, K4.out, K5.out, K6.out, K7.out, K8.out, K9.out, K11.out, trivial⟩ trivial ⟨pu, ld 7 6, ml 0, ?_, trivial⟩ ?_
        · intro L a U ho J hn d KK k; refine .free rfl ?_; have r12 : a.tmps[(12 : Nat)]?.getD undef = .pointer (some ⟨(blkOf (slotOf a 12)), 0, none⟩) := J.readN 0 rfl (d.get 2 rfl); have r117 := J.read 1 rfl (d.get 1 rfl); have kb := (J.nwB 0 rfl (d.get 2 rfl) hn).blk; have c0 := kb.at_ 0 _ rfl; have z0 := kb.free 0; have c1 := kb.at_ 1 _ rfl; have z1 := kb.free 1; have c2 := kb.at_ 2 _ rfl; have z2 := kb.free 2; have c3 := kb.at_ 3 _ rfl; have z3 := kb.free 3; have c4 := kb.at_ 4 _ rfl; have z4 := kb.free 4; have c5 := kb.at_ 5 _ rfl; have z5 := kb.free 5; clear kb; go_simp; exact k.out undef _ (J.storedN 3 0 rfl rfl rfl rfl rfl 0 [.string F1, .string F2, .string F3, .string G1, .string G2, .string G3] rfl ⟨lt0, lt1, lt2, lt3, lt4, lt5, lt6, lt7, lt8, lt9, lt11, trivial⟩ (d.get 2 rfl) hn ⟨.inr (d.get 2 rfl), trivial⟩)
        clear K0 K1 K2 K3 K4 K5 K6 K7 K8 K9 K11 B lt0 lt1 lt2 lt3 lt4 lt5 lt6 lt7 lt8 lt9 lt11
        rintro σ W9 ⟨⟨L12, K12⟩, _⟩ ⟨K0, K1, K2, K3, K4, K5, K6, K7, K8, K9, K11, _⟩ ⟨x0, _⟩ _ B
        have D11_12 : Hid (ga1 ≠ blkOf (σ 12)) := x0
        clear x0
        simp only [slotsOf, finX, nval, nvalN, nvalA, Nat.reduceBEq, cond_true, cond_false, putAll, Act.put, List.setIfInBounds_toArray, List.set_cons_succ, List.set_cons_zero]
        generalize blkOf (σ 12) = g9_2 at *
        go_upto_region 15 with (fail)
        refine wp_tab [.v 118 (.pointer (some ⟨g1_0, 3, none⟩)), .v 119 (.string A0), .v 120 (.pointer (some ⟨g1_0, 0, none⟩)), .v 121 (.agg #[.string A1, .string A2, .string A3]), .v 122 (.pointer (some ⟨g9_2, 0, none⟩)), .v 123 (.agg #[.string F1, .string F2, .string F3]), .v 124 (.string I1), .v 125 (.string I2), .v 126 (.pointer (some ⟨g1_0, 0, none⟩)), .v 127 (.agg #[.string A1, .string A2, .string A3]), .v 128 (.pointer (some ⟨g9_2, 3, none⟩)), .v 129 (.agg #[.string G1, .string G2, .string G3]), .v 130 (.string Q), .v 131 (.string I3), .v 13 (.string I3)] [] [⟨g1_0, #[.string A1, .string A2, .string A3, .string A0], 26, none⟩, ⟨g1_1, #[.string C1, .string C2, .string C3, .string D1, .string D2, .string D3], 45, none⟩, ⟨g1_2, #[.string F1, .string F2, .string F3, .string G1, .string G2, .string G3], 45, none⟩, ⟨g2_13, #[.string A1, .string A2, .string A3, .string C1, .string C2, .string C3, .string D1, .string D2, .string D3, .string F1, .string F2, .string F3, .string G1, .string G2, .string G3], 24, none⟩, ⟨g3_7, #[.string O1, .string O2, .string O3], 24, none⟩, ⟨g4_10, #[.string A1, .string A2, .string A3, .string C1, .string C2, .string C3, .string D1, .string D2, .string D3, .string F1, .string F2, .string F3, .string G1, .string G2, .string G3], 24, none⟩, ⟨g4_13, #[.string A0], 22, none⟩, ⟨g5_2, #[.string C1, .string C2, .string C3, .string D1, .string D2, .string D3, .string F1, .string F2, .string F3, .string G1, .string G2, .string G3], 45, none⟩, ⟨g6_2, #[.string C1, .string C2, .string C3, .string D1, .string D2, .string D3], 45, none⟩, ⟨g8_7, #[.string X1, .string X2, .string X3], 24, none⟩, ⟨ga1, (List.toArray (.string X1 :: .string X2 :: .string X3 :: ra1)), 24, none⟩, ⟨g9_2, #[.string F1, .string F2, .string F3, .string G1, .string G2, .string G3], 45, none⟩] [] [] [] [] [] (by kernel_rfl) B.out ⟨K0.out, K1.out, K2.out, K3.out, K4.out, K5.out, K6.out, K7.out, K8.out, K9.out, K11.out, K12.out, trivial⟩ trivial ⟨pu, ld 0 3, pu, ld 0 0, pu, ld 11 0, cl H_DI.out, cl H_SI.out, pu, ld 0 0, pu, ld 11 3, cl H_TG.out, cl H_QI.out, pu, trivial⟩ ?_
        clear K0 K1 K2 K3 K4 K5 K6 K7 K8 K9 K11 K12 B
        rintro σ W10 _ ⟨K0, K1, K2, K3, K4, K5, K6, K7, K8, K9, K11, K12, _⟩ _ _ B
        simp only [slotsOf, finX, nval, nvalN, nvalA, Nat.reduceBEq, cond_true, cond_false, putAll, Act.put, List.setIfInBounds_toArray, List.set_cons_succ, List.set_cons_zero]
        go_upto_region 16 with (fail)
        have lt0 := K0.out.lt
        have lt1 := K1.out.lt
        have lt2 := K2.out.lt
        have lt3 := K3.out.lt
        have lt4 := K4.out.lt
        have lt5 := K5.out.lt
        have lt6 := K6.out.lt
        have lt7 := K7.out.lt
        have lt8 := K8.out.lt
        have lt9 := K9.out.lt
        have lt11 := K11.out.lt
        have lt12 := K12.out.lt
        refine wp_tab [.v 132 (.pointer (some ⟨g9_2, 0, none⟩)), .v 133 (.agg #[.string F1, .string F2, .string F3]), .v 134 (.pointer (some ⟨g9_2, 3, none⟩)), .v 135 (.agg #[.string G1, .string G2, .string G3]), .v 136 (.string I3), .v 137 (.agg #[.string SI1, .string SI2, .string SI3]), .v 138 (.agg #[.string Y1, .string Y2, .string Y3]), .n 14, .z] [⟨7, 14, fun g => .pointer (some ⟨g, 0, none⟩), #[.string ⟨#[]⟩, .string ⟨#[]⟩, .string ⟨#[]⟩], 24, some (8, #[.string Y1, .string Y2, .string Y3])⟩] [⟨g1_0, #[.string A1, .string A2, .string A3, .string A0], 26, none⟩, ⟨g1_1, #[.string C1, .string C2, .string C3, .string D1, .string D2, .string D3], 45, none⟩, ⟨g1_2, #[.string F1, .string F2, .string F3, .string G1, .string G2, .string G3], 45, none⟩, ⟨g2_13, #[.string A1, .string A2, .string A3, .string C1, .string C2, .string C3, .string D1, .string D2, .string D3, .string F1, .string F2, .string F3, .string G1, .string G2, .string G3], 24, none⟩, ⟨g3_7, #[.string O1, .string O2, .string O3], 24, none⟩, ⟨g4_10, #[.string A1, .string A2, .string A3, .string C1, .string C2, .string C3, .string D1, .string D2, .string D3, .string F1, .string F2, .string F3, .string G1, .string G2, .string G3], 24, none⟩, ⟨g4_13, #[.string A0], 22, none⟩, ⟨g5_2, #[.string C1, .string C2, .string C3, .string D1, .string D2, .string D3, .string F1, .string F2, .string F3, .string G1, .string G2, .string G3], 45, none⟩, ⟨g6_2, #[.string C1, .string C2, .string C3, .string D1, .string D2, .string D3], 45, none⟩, ⟨g8_7, #[.string X1, .string X2, .string X3], 24, none⟩, ⟨ga1, (List.toArray (.string X1 :: .string X2 :: .string X3 :: ra1)), 24, none⟩, ⟨g9_2, #[.string F1, .string F2, .string F3, .string G1, .string G2, .string G3], 45, none⟩] [] [(8, 7)] [] [(10, 0)] [] (by kernel_rfl) B.out ⟨K0.out, K1.out, K2.out, K3.out, K4.out, K5.out, K6.out, K7.out, K8.out, K9.out, K11.out, K12.out, trivial⟩ trivial ⟨pu, ld 11 0, pu, ld 11 3, pu, cl H_XI.out, cl H_AI.out, ml 0, ?_, trivial⟩ ?_
        · intro L a U ho J hn d KK k; refine .free rfl ?_; have r14 : a.tmps[(14 : Nat)]?.getD undef = .pointer (some ⟨(blkOf (slotOf a 14)), 0, none⟩) := J.readN 0 rfl (d.get 7 rfl); have r138 := J.read 6 rfl (d.get 6 rfl); have kb := (J.nwB 0 rfl (d.get 7 rfl) hn).blk; have c0 := kb.at_ 0 _ rfl; have z0 := kb.free 0; have c1 := kb.at_ 1 _ rfl; have z1 := kb.free 1; have c2 := kb.at_ 2 _ rfl; have z2 := kb.free 2; clear kb; go_simp; exact k.out undef _ (J.storedN 8 0 rfl rfl rfl rfl rfl 0 [.string Y1, .string Y2, .string Y3] rfl ⟨lt0, lt1, lt2, lt3, lt4, lt5, lt6, lt7, lt8, lt9, lt11, lt12, trivial⟩ (d.get 7 rfl) hn ⟨.inr (d.get 7 rfl), trivial⟩)
        clear K0 K1 K2 K3 K4 K5 K6 K7 K8 K9 K11 K12 B lt0 lt1 lt2 lt3 lt4 lt5 lt6 lt7 lt8 lt9 lt11 lt12
        rintro σ W11 ⟨⟨L13, K13⟩, _⟩ ⟨K0, K1, K2, K3, K4, K5, K6, K7, K8, K9, K11, K12, _⟩ ⟨x0, _⟩ _ B
        have D11_13 : Hid (ga1 ≠ blkOf (σ 14)) := x0
        clear x0
        simp only [slotsOf, finX, nval, nvalN, nvalA, Nat.reduceBEq, cond_true, cond_false, putAll, Act.put, List.setIfInBounds_toArray, List.set_cons_succ, List.set_cons_zero]
        generalize blkOf (σ 14) = g11_7 at *
        have c0_0 := K0.out.at_ 0 _ rfl
        have c0_1 := K0.out.at_ 1 _ rfl
        have c0_2 := K0.out.at_ 2 _ rfl
        have c0_3 := K0.out.at_ 3 _ rfl
        have c13_0 := K13.out.at_ 0 _ rfl
        have c13_1 := K13.out.at_ 1 _ rfl
        have c13_2 := K13.out.at_ 2 _ rfl
        go_upto_region 19 with (
         (first
         | (go_at_call 25; with_reducible refine (H_NI.out _ (baseI B.out)).mono ?_)
         | fail "arm"); rintro e wx ⟨rfl, q⟩; replace K0 := Lib.hid (K0.out.nearI q); replace K1 := Lib.hid (K1.out.nearI q); replace K2 := Lib.hid (K2.out.nearI q); replace K3 := Lib.hid (K3.out.nearI q); replace K4 := Lib.hid (K4.out.nearI q); replace K5 := Lib.hid (K5.out.nearI q); replace K6 := Lib.hid (K6.out.nearI q); replace K7 := Lib.hid (K7.out.nearI q); replace K8 := Lib.hid (K8.out.nearI q); replace K9 := Lib.hid (K9.out.nearI q); replace K11 := Lib.hid (K11.out.nearI q); replace K12 := Lib.hid (K12.out.nearI q); replace K13 := Lib.hid (K13.out.nearI q); replace B := Lib.hid (goI B.out q); clear q; replace c0_0 := K0.out.at_ 0 _ rfl; replace c0_1 := K0.out.at_ 1 _ rfl; replace c0_2 := K0.out.at_ 2 _ rfl; replace c0_3 := K0.out.at_ 3 _ rfl; replace c13_0 := K13.out.at_ 0 _ rfl; replace c13_1 := K13.out.at_ 1 _ rfl; replace c13_2 := K13.out.at_ 2 _ rfl)
        clear c0_0 c0_1 c0_2 c0_3 c13_0 c13_1 c13_2
        have c13_0 := K13.out.at_ 0 _ rfl
        have c13_1 := K13.out.at_ 1 _ rfl
        have c13_2 := K13.out.at_ 2 _ rfl
        go_upto_region 20 with (at_builtin; refine wpList_appN ElV rfl (.tmp 143) (.tmp 145) rfl wx ga1 1 qa1 rfl [.string X1, .string X2, .string X3] ra1 K11.out M11.out (by decide) [.string Y1, .string Y2, .string Y3] rfl rfl (by simp [Value.oneCell']) ?_; intro ga2 qa2 ra2 wp2 kk lg mm qq; have K15 := Lib.hid (show Blk wp2 ga2 (List.toArray (.string X1 :: .string X2 :: .string X3 :: .string Y1 :: .string Y2 :: .string Y3 :: ra2)) 24 from kk); have M15 := Lib.hid mm; have D0_15 := Lib.hid (ne_app D0_11.out K0.out.lt lg); replace K0 := Lib.hid (K0.out.grown qq (ne_row D0_11.out)); have D1_15 := Lib.hid (ne_app D1_11.out K1.out.lt lg); replace K1 := Lib.hid (K1.out.grown qq (ne_row D1_11.out)); have D2_15 := Lib.hid (ne_app D2_11.out K2.out.lt lg); replace K2 := Lib.hid (K2.out.grown qq (ne_row D2_11.out)); have D3_15 := Lib.hid (ne_app D3_11.out K3.out.lt lg); replace K3 := Lib.hid (K3.out.grown qq (ne_row D3_11.out)); have D4_15 := Lib.hid (ne_app D4_11.out K4.out.lt lg); replace K4 := Lib.hid (K4.out.grown qq (ne_row D4_11.out)); have D5_15 := Lib.hid (ne_app D5_11.out K5.out.lt lg); replace K5 := Lib.hid (K5.out.grown qq (ne_row D5_11.out)); have D6_15 := Lib.hid (ne_app D6_11.out K6.out.lt lg); replace K6 := Lib.hid (K6.out.grown qq (ne_row D6_11.out)); have D7_15 := Lib.hid (ne_app D7_11.out K7.out.lt lg); replace K7 := Lib.hid (K7.out.grown qq (ne_row D7_11.out)); have D8_15 := Lib.hid (ne_app D8_11.out K8.out.lt lg); replace K8 := Lib.hid (K8.out.grown qq (ne_row D8_11.out)); have D9_15 := Lib.hid (ne_app D9_11.out K9.out.lt lg); replace K9 := Lib.hid (K9.out.grown qq (ne_row D9_11.out)); have D12_15 := Lib.hid (ne_app (Ne.symm D11_12.out) K12.out.lt lg); replace K12 := Lib.hid (K12.out.grown qq (ne_row (Ne.symm D11_12.out))); have D13_15 := Lib.hid (ne_app (Ne.symm D11_13.out) K13.out.lt lg); replace K13 := Lib.hid (K13.out.grown qq (ne_row (Ne.symm D11_13.out))); have L15 := Lib.hid (le_app B.out.size L11.out lg); replace B := Lib.hid (below_appN B.out qq B.out.size L11.out); clear kk lg mm qq K11 M11; replace c13_0 := K13.out.at_ 0 _ rfl; replace c13_1 := K13.out.at_ 1 _ rfl; replace c13_2 := K13.out.at_ 2 _ rfl)
        clear c13_0 c13_1 c13_2
        go_wp2
        rw [rounds_succ]
        go_upto_region 21 with (fail)
        refine wp_tab [.v 148 (.int .i64 0), .v 149 (.bool true), .v 150 (.bool true), .v 151 (.agg #[.string O1, .string O2, .string O3]), .v 152 (.slice (some ⟨ga2, 0, none⟩) 2 qa2), .v 153 (.pointer (some ⟨ga2, 3, none⟩)), .v 154 (.agg #[.string Y1, .string Y2, .string Y3]), .v 155 (.slice (some ⟨ga2, 0, none⟩) 2 qa2), .v 156 (.pointer (some ⟨ga2, 0, none⟩)), .v 157 (.agg #[.string X1, .string X2, .string X3]), .v 158 (.agg #[.string O1, .string O2, .string O3]), .v 159 (.bool true), .v 160 (.bool true), .v 6 (.bool true)] [] [⟨g1_0, #[.string A1, .string A2, .string A3, .string A0], 26, none⟩, ⟨g1_1, #[.string C1, .string C2, .string C3, .string D1, .string D2, .string D3], 45, none⟩, ⟨g1_2, #[.string F1, .string F2, .string F3, .string G1, .string G2, .string G3], 45, none⟩, ⟨g2_13, #[.string A1, .string A2, .string A3, .string C1, .string C2, .string C3, .string D1, .string D2, .string D3, .string F1, .string F2, .string F3, .string G1, .string G2, .string G3], 24, none⟩, ⟨g3_7, #[.string O1, .string O2, .string O3], 24, none⟩, ⟨g4_10, #[.string A1, .string A2, .string A3, .string C1, .string C2, .string C3, .string D1, .string D2, .string D3, .string F1, .string F2, .string F3, .string G1, .string G2, .string G3], 24, none⟩, ⟨g4_13, #[.string A0], 22, none⟩, ⟨g5_2, #[.string C1, .string C2, .string C3, .string D1, .string D2, .string D3, .string F1, .string F2, .string F3, .string G1, .string G2, .string G3], 45, none⟩, ⟨g6_2, #[.string C1, .string C2, .string C3, .string D1, .string D2, .string D3], 45, none⟩, ⟨g8_7, #[.string X1, .string X2, .string X3], 24, none⟩, ⟨g9_2, #[.string F1, .string F2, .string F3, .string G1, .string G2, .string G3], 45, none⟩, ⟨g11_7, #[.string Y1, .string Y2, .string Y3], 24, none⟩, ⟨ga2, (List.toArray (.string X1 :: .string X2 :: .string X3 :: .string Y1 :: .string Y2 :: .string Y3 :: ra2)), 24, none⟩] [] [] [] [] [] (by kernel_rfl) B.out ⟨K0.out, K1.out, K2.out, K3.out, K4.out, K5.out, K6.out, K7.out, K8.out, K9.out, K12.out, K13.out, K15.out, trivial⟩ trivial ⟨pu, pu, pu, ld 4 0, pu, pu, ld 12 3, pu, pu, ld 12 0, cl H_DF.out, ?_, pu, pu, trivial⟩ ?_
        · intro L a U ho J hn d KK k; refine .pos (s := 150) rfl rfl (J.vals 2 _ _ rfl (d.get 2 rfl)) ?_; have r151 := J.read 3 rfl (d.get 3 rfl); have r158 := J.read 10 rfl (d.get 10 rfl); go_simp; exact k.out _ _ (J.st 11 rfl rfl)
        clear K0 K1 K2 K3 K4 K5 K6 K7 K8 K9 K12 K13 K15 B
        rintro σ W12 _ ⟨K0, K1, K2, K3, K4, K5, K6, K7, K8, K9, K12, K13, K15, _⟩ _ _ B
        simp only [slotsOf, finX, nval, nvalN, nvalA, Nat.reduceBEq, cond_true, cond_false, putAll, Act.put, List.setIfInBounds_toArray, List.set_cons_succ, List.set_cons_zero]
        go_wp2
        go_ret
        exact ⟨rfl, B.out⟩
       ·
        have q_f7 := f7 rfl
        clear f7
        clear f8
        have q_d6 := d6 rfl
        clear d6
        exact q_d6.elim
      ·
       have q_f5 := f5 rfl
       clear f5
       clear f6
       clear f7
       clear f8
       have q_d5 := d5 rfl
       clear d5
       clear d6
       exact q_d5.elim
     ·
      clear h_td
      clear h_tg
      clear h_dh
      clear h_sh
      clear h_qh
      clear h_xh
      clear h_ah
      clear h_nh
      clear h_di
      clear h_si
      clear h_qi
      clear h_xi
      clear h_ai
      clear h_ni
      clear h_df
      clear f5
      clear f6
      clear f7
      clear f8
      have q_d4 := d4 rfl
      clear d4
      clear d5
      clear d6
      exact q_d4.elim
    ·
     clear h_td
     clear h_tg
     clear h_dh
     clear h_sh
     clear h_qh
     clear h_xh
     clear h_ah
     clear h_nh
     clear h_di
     clear h_si
     clear h_qi
     clear h_xi
     clear h_ai
     clear h_ni
     clear h_df
     clear f5
     clear f6
     clear f7
     clear f8
     have q_d3 := d3 rfl
     clear d3
     clear d4
     clear d5
     clear d6
     exact q_d3.elim
   ·
    clear h_td
    clear h_tg
    clear h_dh
    clear h_sh
    clear h_qh
    clear h_xh
    clear h_ah
    clear h_nh
    clear h_di
    clear h_si
    clear h_qi
    clear h_xi
    clear h_ai
    clear h_ni
    clear h_df
    clear f5
    clear f6
    clear f7
    clear f8
    have q_d2 := d2 rfl
    clear d2
    clear d3
    clear d4
    clear d5
    clear d6
    exact q_d2.elim

end Go.Proofs.YtopilnlniidejaaGreatDoor
