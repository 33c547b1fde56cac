/- The examples of chapter 44. -/
import Derived.Test.YthhkmihjnnfpgaaGreatDoorCorW
namespace Go.Proofs.YthhkmihjnnfpgaaGreatDoor
set_option linter.all false
open Go.RowKit

attribute [local go_sem] Oper.semAt_some

theorem qT_dig (n : Nat) (h : n < 10) : qT (4 * (n : Int)) = ⟨#[UInt8.ofNat (48 + n)]⟩ := by
 unfold qT
 rw [← quarter_whole, show mkRat (n : Int) 1 = ((n : Int) : Rat) from by rw [Rat.mkRat_one], canonR_int]
 exact canon_dig n h
theorem blk_SAt {α : Type} {f : α → List Value} {sz : Nat} (hf : ∀ u, (f u).length = sz) {T : TypeId} {W : World} {d : Nat} {us : List α} (h : Blk W d (us.flatMap f).toArray T) (c : Nat) : SAt f sz W (.slice (some ⟨d, 0, none⟩) us.length c) us :=
 ⟨_, c, rfl, fun i t ht => ⟨d, 0, rfl, h.lt, fun j u hu => by
  rw [Nat.zero_add]
  exact h.atL _ _ (flat_get hf us i j t u ht hu)⟩⟩
set_option maxRecDepth 100000 in
set_option maxHeartbeats 8000000 in
theorem part_any (u f t : ByteArray) (W : World) : Calls Tryz.prog 45 #[.string u, .string f, .string t] W fun e w' => e = .returned (.agg #[.string u, .string f, .string t]) ∧ Below W.heap.size W w' := by
 go_enter Tryz.func45, Tryz.ntmps45
 go_wp2
 have k := Blk.fresh W #[.string u, .string f, .string t] 86
 have q := below_new W (.cells #[.string u, .string f, .string t] 86)
 have c0 := k.at_ 0 _ rfl
 have c1 := k.at_ 1 _ rfl
 have c2 := k.at_ 2 _ rfl
 exact bodyPost_ret (v := .agg #[.string u, .string f, .string t]) (by simp [results, Tryz.results45, go_sem, c0, c1, c2]) rfl ⟨rfl, q⟩
def iv (u : ByteArray) (f t : Nat) : IV := ⟨u, 2 * (f : Int), 2 * (t : Int)⟩
theorem iv_cells (u : ByteArray) (f t : Nat) (hf : f < 10) (ht : t < 10) : (iv u f t).cells = [.string u, .string ⟨#[UInt8.ofNat (48 + f)]⟩, .string ⟨#[UInt8.ofNat (48 + t)]⟩] := by
 unfold iv IV.cells
 dsimp only
 rw [← qT_dig f hf, ← qT_dig t ht, show 2 * (2 * (f : Int)) = 4 * (f : Int) by omega, show 2 * (2 * (t : Int)) = 4 * (t : Int) by omega]
def exQ1 : CQ := ⟨[iv ⟨#[97]⟩ 0 2, iv ⟨#[98]⟩ 2 5], [iv ⟨#[97]⟩ 0 3, iv ⟨#[98]⟩ 3 6], 2, 4, 4, 4⟩
def exQ2 : CQ := ⟨[iv ⟨#[97]⟩ 0 2, iv ⟨#[97]⟩ 2 4], [iv ⟨#[97]⟩ 0 2], 2, 4, 6, 2⟩
theorem iv_low (c : UInt8) (hc : 97 ≤ c.toNat ∧ c.toNat ≤ 122) : LowB ⟨#[c]⟩ := ⟨by show 0 < 1; omega, by show 1 ≤ 32; omega, fun b hb => by
 simp at hb
 subst hb
 exact hc⟩
theorem exQ1_ok : OkQ exQ1 := by
 refine ⟨by decide, by decide, ?_, ?_, by decide, by decide, by decide, by decide⟩
 ·intro k hk
  rcases (show k = 0 ∨ k = 1 by have : k < 2 := hk; omega) with rfl | rfl
  ·exact ⟨.inr (iv_low 97 (by decide)), (by decide : (0 : Int) ≤ 0), (by decide : (0 : Int) < 4), (by decide : (4 : Int) ≤ 1000), (by decide : (0 : Int) ≤ 0), (by decide : (0 : Int) ≤ 0)⟩
  ·exact ⟨.inr (iv_low 98 (by decide)), (by decide : (0 : Int) ≤ 4), (by decide : (4 : Int) < 10), (by decide : (10 : Int) ≤ 1000), (by decide : (0 : Int) ≤ 4), (by decide : (4 : Int) ≤ 4)⟩
 ·intro k hk
  rcases (show k = 0 ∨ k = 1 by have : k < 2 := hk; omega) with rfl | rfl
  ·exact ⟨.inr (iv_low 97 (by decide)), (by decide : (0 : Int) ≤ 0), (by decide : (0 : Int) < 6), (by decide : (6 : Int) ≤ 1000), (by decide : (0 : Int) ≤ 0), (by decide : (0 : Int) ≤ 0)⟩
  ·exact ⟨.inr (iv_low 98 (by decide)), (by decide : (0 : Int) ≤ 6), (by decide : (6 : Int) < 12), (by decide : (12 : Int) ≤ 1000), (by decide : (0 : Int) ≤ 6), (by decide : (6 : Int) ≤ 6)⟩
theorem exQ2_ok : OkQ exQ2 := by
 refine ⟨by decide, by decide, ?_, ?_, by decide, by decide, by decide, by decide⟩
 ·intro k hk
  rcases (show k = 0 ∨ k = 1 by have : k < 2 := hk; omega) with rfl | rfl
  ·exact ⟨.inr (iv_low 97 (by decide)), (by decide : (0 : Int) ≤ 0), (by decide : (0 : Int) < 4), (by decide : (4 : Int) ≤ 1000), (by decide : (0 : Int) ≤ 0), (by decide : (0 : Int) ≤ 0)⟩
  ·exact ⟨.inr (iv_low 97 (by decide)), (by decide : (0 : Int) ≤ 4), (by decide : (4 : Int) < 8), (by decide : (8 : Int) ≤ 1000), (by decide : (0 : Int) ≤ 4), (by decide : (4 : Int) ≤ 4)⟩
 ·intro k hk
  obtain rfl : k = 0 := by have : k < 1 := hk; omega
  exact ⟨.inr (iv_low 97 (by decide)), (by decide : (0 : Int) ≤ 0), (by decide : (0 : Int) < 4), (by decide : (4 : Int) ≤ 1000), (by decide : (0 : Int) ≤ 0), (by decide : (0 : Int) ≤ 0)⟩
theorem exQ1_rst : rst exQ1 0 0 = 4 := by decide +kernel
theorem exQ2_rst : rst exQ2 0 0 = 8 := by decide +kernel
theorem exQ1_way : way exQ1 0 0 = [(1, 0, 0), (1, 1, 1)] := by decide +kernel
theorem exQ2_way : way exQ2 0 0 = [(1, 0, 0), (4, 1, 1)] := by decide +kernel
theorem exQ2_cnt : cnt exQ2 0 0 = 1 := by decide +kernel
set_option maxRecDepth 100000 in
set_option maxHeartbeats 8000000 in
theorem known44_any (w : World) (he : Env w) : Calls Tryz.prog 13 #[] w fun e w' => e = .returned (.bool true) ∧ Below w.heap.size w w' := by
 have HE := Lib.hid he
 have B := Lib.hid (Below.refl w.heap.size w)
 clear he
 go_enter Tryz.func13, Tryz.ntmps13
 go_wp2_with (fail)
 with_reducible refine (part_any ⟨#[97]⟩ ⟨#[48]⟩ ⟨#[50]⟩ w).mono ?_
 rintro e W1 ⟨rfl, q_W1⟩
 replace B := Lib.hid (B.out.trans (q_W1.mono B.out.size))
 clear q_W1
 go_wp2_with (fail)
 with_reducible refine (part_any ⟨#[98]⟩ ⟨#[50]⟩ ⟨#[53]⟩ W1).mono ?_
 rintro e W2 ⟨rfl, q_W2⟩
 replace B := Lib.hid (B.out.trans (q_W2.mono B.out.size))
 clear q_W2
 go_wp2_with (fail)
 have k_ := Blk.fresh W2 #[.string ⟨#[97]⟩, .string ⟨#[48]⟩, .string ⟨#[50]⟩, .string ⟨#[98]⟩, .string ⟨#[50]⟩, .string ⟨#[53]⟩] 86
 have q_ := below_new W2 (.cells #[.string ⟨#[97]⟩, .string ⟨#[48]⟩, .string ⟨#[50]⟩, .string ⟨#[98]⟩, .string ⟨#[50]⟩, .string ⟨#[53]⟩] 86)
 generalize (W2.alloc (.cells #[.string ⟨#[97]⟩, .string ⟨#[48]⟩, .string ⟨#[50]⟩, .string ⟨#[98]⟩, .string ⟨#[50]⟩, .string ⟨#[53]⟩] 86)) = W3 at *
 obtain ⟨g1, hg_⟩ : ∃ g, W2.heap.size = g := ⟨_, rfl⟩
 rw [hg_] at k_ ⊢
 replace B := Lib.hid (B.out.trans (q_.mono B.out.size))
 have K1 := Lib.hid k_
 clear q_ k_ hg_
 with_reducible refine (part_any ⟨#[97]⟩ ⟨#[48]⟩ ⟨#[51]⟩ W3).mono ?_
 rintro e W4 ⟨rfl, q_W4⟩
 replace K1 := Lib.hid (K1.out.below q_W4)
 replace B := Lib.hid (B.out.trans (q_W4.mono B.out.size))
 clear q_W4
 go_wp2_with (fail)
 with_reducible refine (part_any ⟨#[98]⟩ ⟨#[51]⟩ ⟨#[54]⟩ W4).mono ?_
 rintro e W5 ⟨rfl, q_W5⟩
 replace K1 := Lib.hid (K1.out.below q_W5)
 replace B := Lib.hid (B.out.trans (q_W5.mono B.out.size))
 clear q_W5
 go_wp2_with (fail)
 have hz_ : (W5.alloc (.cells #[.string ⟨#[97]⟩, .string ⟨#[48]⟩, .string ⟨#[51]⟩, .string ⟨#[98]⟩, .string ⟨#[51]⟩, .string ⟨#[54]⟩] 86)).heap.size = W5.heap.size + 1 := by simp
 have k_ := Blk.fresh W5 #[.string ⟨#[97]⟩, .string ⟨#[48]⟩, .string ⟨#[51]⟩, .string ⟨#[98]⟩, .string ⟨#[51]⟩, .string ⟨#[54]⟩] 86
 have q_ := below_new W5 (.cells #[.string ⟨#[97]⟩, .string ⟨#[48]⟩, .string ⟨#[51]⟩, .string ⟨#[98]⟩, .string ⟨#[51]⟩, .string ⟨#[54]⟩] 86)
 generalize (W5.alloc (.cells #[.string ⟨#[97]⟩, .string ⟨#[48]⟩, .string ⟨#[51]⟩, .string ⟨#[98]⟩, .string ⟨#[51]⟩, .string ⟨#[54]⟩] 86)) = W6 at *
 obtain ⟨g2, hg_⟩ : ∃ g, W5.heap.size = g := ⟨_, rfl⟩
 rw [hg_] at k_ ⊢
 rw [hg_] at hz_
 have HZ := Lib.hid hz_
 clear hz_
 replace K1 := Lib.hid (K1.out.below q_)
 replace B := Lib.hid (B.out.trans (q_.mono B.out.size))
 have K2 := Lib.hid k_
 clear q_ k_ hg_
 have k_ := Blk.fresh W6 #[.slice (some ⟨g1, 0, none⟩) 2 2, .slice (some ⟨g2, 0, none⟩) 2 2, .string ⟨#[49]⟩, .string ⟨#[50]⟩, .string ⟨#[50]⟩, .string ⟨#[50]⟩] 32
 have q_ := below_new W6 (.cells #[.slice (some ⟨g1, 0, none⟩) 2 2, .slice (some ⟨g2, 0, none⟩) 2 2, .string ⟨#[49]⟩, .string ⟨#[50]⟩, .string ⟨#[50]⟩, .string ⟨#[50]⟩] 32)
 generalize (W6.alloc (.cells #[.slice (some ⟨g1, 0, none⟩) 2 2, .slice (some ⟨g2, 0, none⟩) 2 2, .string ⟨#[49]⟩, .string ⟨#[50]⟩, .string ⟨#[50]⟩, .string ⟨#[50]⟩] 32)) = W7 at *
 rw [HZ.out] at k_
 replace K1 := Lib.hid (K1.out.below q_)
 replace K2 := Lib.hid (K2.out.below q_)
 replace B := Lib.hid (B.out.trans (q_.mono B.out.size))
 have K3 := Lib.hid k_
 clear q_ k_ HZ
 have sa_ : SAt IV.cells 3 W7 (.slice (some ⟨g1, 0, none⟩) 2 2) [iv ⟨#[97]⟩ 0 2, iv ⟨#[98]⟩ 2 5] := blk_SAt IV.len (T := 86) (by
  have h := K1.out
  have e : ([iv ⟨#[97]⟩ 0 2, iv ⟨#[98]⟩ 2 5].flatMap IV.cells).toArray = #[.string ⟨#[97]⟩, .string ⟨#[48]⟩, .string ⟨#[50]⟩, .string ⟨#[98]⟩, .string ⟨#[50]⟩, .string ⟨#[53]⟩] := by
   simp only [List.flatMap_cons, List.flatMap_nil, iv_cells ⟨#[97]⟩ 0 2 (by omega) (by omega), iv_cells ⟨#[98]⟩ 2 5 (by omega) (by omega)]
   rfl
  rw [e]
  exact h) 2
 have sb_ : SAt IV.cells 3 W7 (.slice (some ⟨g2, 0, none⟩) 2 2) [iv ⟨#[97]⟩ 0 3, iv ⟨#[98]⟩ 3 6] := blk_SAt IV.len (T := 86) (by
  have h := K2.out
  have e : ([iv ⟨#[97]⟩ 0 3, iv ⟨#[98]⟩ 3 6].flatMap IV.cells).toArray = #[.string ⟨#[97]⟩, .string ⟨#[48]⟩, .string ⟨#[51]⟩, .string ⟨#[98]⟩, .string ⟨#[51]⟩, .string ⟨#[54]⟩] := by
   simp only [List.flatMap_cons, List.flatMap_nil, iv_cells ⟨#[97]⟩ 0 3 (by omega) (by omega), iv_cells ⟨#[98]⟩ 3 6 (by omega) (by omega)]
   rfl
  rw [e]
  exact h) 2
 have HB := best_any exQ1 exQ1_ok _ _ W7 (HE.out.below B.out) ⟨sa_, sb_⟩
 rw [show qT (2 * exQ1.ch) = ⟨#[49]⟩ from qT_dig 1 (by omega), show qT (2 * exQ1.mi) = ⟨#[50]⟩ from qT_dig 2 (by omega), show qT (2 * exQ1.ga) = ⟨#[50]⟩ from qT_dig 2 (by omega), show qT (2 * exQ1.re) = ⟨#[50]⟩ from qT_dig 2 (by omega)] at HB
 rw [exQ1_rst, exQ1_way, show qT 4 = ⟨#[49]⟩ from qT_dig 1 (by omega)] at HB
 clear sa_ sb_
 with_reducible refine HB.mono ?_
 clear HB
 rintro e W8 ⟨v1, rfl, row1, q_W8⟩
 replace K1 := Lib.hid (K1.out.below q_W8)
 replace K2 := Lib.hid (K2.out.below q_W8)
 replace K3 := Lib.hid (K3.out.below q_W8)
 replace B := Lib.hid (B.out.trans (q_W8.mono B.out.size))
 clear q_W8
 obtain ⟨d1, cd1, rd1, rfl, _, _, k_, _⟩ : ∃ d c r, v1 = .slice (some ⟨d, 0, none⟩) 2 c ∧ True ∧ True ∧ Blk W8 d ([(1, 0, 0), (1, 1, 1)].flatMap stC ++ r).toArray 56 ∧ True := by
  rcases row1 with ⟨h, _⟩ | ⟨d, c, r, h1, _, _, h4, _⟩
  ·cases h
  ·exact ⟨d, c, r, h1, trivial, trivial, h4, trivial⟩
 have Rd1 := Lib.hid k_
 clear k_
 go_wp2_with (fail)
 have k_ := Blk.fresh W8 #[.slice (some ⟨d1, 0, none⟩) 2 cd1, .string ⟨#[49]⟩] 36
 have q_ := below_new W8 (.cells #[.slice (some ⟨d1, 0, none⟩) 2 cd1, .string ⟨#[49]⟩] 36)
 generalize (W8.alloc (.cells #[.slice (some ⟨d1, 0, none⟩) 2 cd1, .string ⟨#[49]⟩] 36)) = W9 at *
 obtain ⟨g4, hg_⟩ : ∃ g, W8.heap.size = g := ⟨_, rfl⟩
 rw [hg_] at k_ ⊢
 replace K1 := Lib.hid (K1.out.below q_)
 replace K2 := Lib.hid (K2.out.below q_)
 replace K3 := Lib.hid (K3.out.below q_)
 replace Rd1 := Lib.hid (Rd1.out.below q_)
 replace B := Lib.hid (B.out.trans (q_.mono B.out.size))
 have K4 := Lib.hid k_
 clear q_ k_ hg_
 with_reducible refine (part_any ⟨#[97]⟩ ⟨#[48]⟩ ⟨#[50]⟩ W9).mono ?_
 rintro e W10 ⟨rfl, q_W10⟩
 replace K1 := Lib.hid (K1.out.below q_W10)
 replace K2 := Lib.hid (K2.out.below q_W10)
 replace K3 := Lib.hid (K3.out.below q_W10)
 replace Rd1 := Lib.hid (Rd1.out.below q_W10)
 replace K4 := Lib.hid (K4.out.below q_W10)
 replace B := Lib.hid (B.out.trans (q_W10.mono B.out.size))
 clear q_W10
 go_wp2_with (fail)
 with_reducible refine (part_any ⟨#[97]⟩ ⟨#[50]⟩ ⟨#[52]⟩ W10).mono ?_
 rintro e W11 ⟨rfl, q_W11⟩
 replace K1 := Lib.hid (K1.out.below q_W11)
 replace K2 := Lib.hid (K2.out.below q_W11)
 replace K3 := Lib.hid (K3.out.below q_W11)
 replace Rd1 := Lib.hid (Rd1.out.below q_W11)
 replace K4 := Lib.hid (K4.out.below q_W11)
 replace B := Lib.hid (B.out.trans (q_W11.mono B.out.size))
 clear q_W11
 go_wp2_with (fail)
 have k_ := Blk.fresh W11 #[.string ⟨#[97]⟩, .string ⟨#[48]⟩, .string ⟨#[50]⟩, .string ⟨#[97]⟩, .string ⟨#[50]⟩, .string ⟨#[52]⟩] 86
 have q_ := below_new W11 (.cells #[.string ⟨#[97]⟩, .string ⟨#[48]⟩, .string ⟨#[50]⟩, .string ⟨#[97]⟩, .string ⟨#[50]⟩, .string ⟨#[52]⟩] 86)
 generalize (W11.alloc (.cells #[.string ⟨#[97]⟩, .string ⟨#[48]⟩, .string ⟨#[50]⟩, .string ⟨#[97]⟩, .string ⟨#[50]⟩, .string ⟨#[52]⟩] 86)) = W12 at *
 obtain ⟨g5, hg_⟩ : ∃ g, W11.heap.size = g := ⟨_, rfl⟩
 rw [hg_] at k_ ⊢
 replace K1 := Lib.hid (K1.out.below q_)
 replace K2 := Lib.hid (K2.out.below q_)
 replace K3 := Lib.hid (K3.out.below q_)
 replace Rd1 := Lib.hid (Rd1.out.below q_)
 replace K4 := Lib.hid (K4.out.below q_)
 replace B := Lib.hid (B.out.trans (q_.mono B.out.size))
 have K5 := Lib.hid k_
 clear q_ k_ hg_
 with_reducible refine (part_any ⟨#[97]⟩ ⟨#[48]⟩ ⟨#[50]⟩ W12).mono ?_
 rintro e W13 ⟨rfl, q_W13⟩
 replace K1 := Lib.hid (K1.out.below q_W13)
 replace K2 := Lib.hid (K2.out.below q_W13)
 replace K3 := Lib.hid (K3.out.below q_W13)
 replace Rd1 := Lib.hid (Rd1.out.below q_W13)
 replace K4 := Lib.hid (K4.out.below q_W13)
 replace K5 := Lib.hid (K5.out.below q_W13)
 replace B := Lib.hid (B.out.trans (q_W13.mono B.out.size))
 clear q_W13
 go_wp2_with (fail)
 have hz_ : (W13.alloc (.cells #[.string ⟨#[97]⟩, .string ⟨#[48]⟩, .string ⟨#[50]⟩] 86)).heap.size = W13.heap.size + 1 := by simp
 have k_ := Blk.fresh W13 #[.string ⟨#[97]⟩, .string ⟨#[48]⟩, .string ⟨#[50]⟩] 86
 have q_ := below_new W13 (.cells #[.string ⟨#[97]⟩, .string ⟨#[48]⟩, .string ⟨#[50]⟩] 86)
 generalize (W13.alloc (.cells #[.string ⟨#[97]⟩, .string ⟨#[48]⟩, .string ⟨#[50]⟩] 86)) = W14 at *
 obtain ⟨g6, hg_⟩ : ∃ g, W13.heap.size = g := ⟨_, rfl⟩
 rw [hg_] at k_ ⊢
 rw [hg_] at hz_
 have HZ := Lib.hid hz_
 clear hz_
 replace K1 := Lib.hid (K1.out.below q_)
 replace K2 := Lib.hid (K2.out.below q_)
 replace K3 := Lib.hid (K3.out.below q_)
 replace Rd1 := Lib.hid (Rd1.out.below q_)
 replace K4 := Lib.hid (K4.out.below q_)
 replace K5 := Lib.hid (K5.out.below q_)
 replace B := Lib.hid (B.out.trans (q_.mono B.out.size))
 have K6 := Lib.hid k_
 clear q_ k_ hg_
 have k_ := Blk.fresh W14 #[.slice (some ⟨g5, 0, none⟩) 2 2, .slice (some ⟨g6, 0, none⟩) 1 1, .string ⟨#[49]⟩, .string ⟨#[50]⟩, .string ⟨#[51]⟩, .string ⟨#[49]⟩] 32
 have q_ := below_new W14 (.cells #[.slice (some ⟨g5, 0, none⟩) 2 2, .slice (some ⟨g6, 0, none⟩) 1 1, .string ⟨#[49]⟩, .string ⟨#[50]⟩, .string ⟨#[51]⟩, .string ⟨#[49]⟩] 32)
 generalize (W14.alloc (.cells #[.slice (some ⟨g5, 0, none⟩) 2 2, .slice (some ⟨g6, 0, none⟩) 1 1, .string ⟨#[49]⟩, .string ⟨#[50]⟩, .string ⟨#[51]⟩, .string ⟨#[49]⟩] 32)) = W15 at *
 rw [HZ.out] at k_
 replace K1 := Lib.hid (K1.out.below q_)
 replace K2 := Lib.hid (K2.out.below q_)
 replace K3 := Lib.hid (K3.out.below q_)
 replace Rd1 := Lib.hid (Rd1.out.below q_)
 replace K4 := Lib.hid (K4.out.below q_)
 replace K5 := Lib.hid (K5.out.below q_)
 replace K6 := Lib.hid (K6.out.below q_)
 replace B := Lib.hid (B.out.trans (q_.mono B.out.size))
 have K7 := Lib.hid k_
 clear q_ k_ HZ
 have sa_ : SAt IV.cells 3 W15 (.slice (some ⟨g5, 0, none⟩) 2 2) [iv ⟨#[97]⟩ 0 2, iv ⟨#[97]⟩ 2 4] := blk_SAt IV.len (T := 86) (by
  have h := K5.out
  have e : ([iv ⟨#[97]⟩ 0 2, iv ⟨#[97]⟩ 2 4].flatMap IV.cells).toArray = #[.string ⟨#[97]⟩, .string ⟨#[48]⟩, .string ⟨#[50]⟩, .string ⟨#[97]⟩, .string ⟨#[50]⟩, .string ⟨#[52]⟩] := by
   simp only [List.flatMap_cons, List.flatMap_nil, iv_cells ⟨#[97]⟩ 0 2 (by omega) (by omega), iv_cells ⟨#[97]⟩ 2 4 (by omega) (by omega)]
   rfl
  rw [e]
  exact h) 2
 have sb_ : SAt IV.cells 3 W15 (.slice (some ⟨g6, 0, none⟩) 1 1) [iv ⟨#[97]⟩ 0 2] := blk_SAt IV.len (T := 86) (by
  have h := K6.out
  have e : ([iv ⟨#[97]⟩ 0 2].flatMap IV.cells).toArray = #[.string ⟨#[97]⟩, .string ⟨#[48]⟩, .string ⟨#[50]⟩] := by
   simp only [List.flatMap_cons, List.flatMap_nil, iv_cells ⟨#[97]⟩ 0 2 (by omega) (by omega)]
   rfl
  rw [e]
  exact h) 1
 have HB := best_any exQ2 exQ2_ok _ _ W15 (HE.out.below B.out) ⟨sa_, sb_⟩
 rw [show qT (2 * exQ2.ch) = ⟨#[49]⟩ from qT_dig 1 (by omega), show qT (2 * exQ2.mi) = ⟨#[50]⟩ from qT_dig 2 (by omega), show qT (2 * exQ2.ga) = ⟨#[51]⟩ from qT_dig 3 (by omega), show qT (2 * exQ2.re) = ⟨#[49]⟩ from qT_dig 1 (by omega)] at HB
 rw [exQ2_rst, exQ2_way, show qT 8 = ⟨#[50]⟩ from qT_dig 2 (by omega)] at HB
 clear sa_ sb_
 with_reducible refine HB.mono ?_
 clear HB
 rintro e W16 ⟨v2, rfl, row2, q_W16⟩
 replace K1 := Lib.hid (K1.out.below q_W16)
 replace K2 := Lib.hid (K2.out.below q_W16)
 replace K3 := Lib.hid (K3.out.below q_W16)
 replace Rd1 := Lib.hid (Rd1.out.below q_W16)
 replace K4 := Lib.hid (K4.out.below q_W16)
 replace K5 := Lib.hid (K5.out.below q_W16)
 replace K6 := Lib.hid (K6.out.below q_W16)
 replace K7 := Lib.hid (K7.out.below q_W16)
 replace B := Lib.hid (B.out.trans (q_W16.mono B.out.size))
 clear q_W16
 obtain ⟨d2, cd2, rd2, rfl, _, _, k_, _⟩ : ∃ d c r, v2 = .slice (some ⟨d, 0, none⟩) 2 c ∧ True ∧ True ∧ Blk W16 d ([(1, 0, 0), (4, 1, 1)].flatMap stC ++ r).toArray 56 ∧ True := by
  rcases row2 with ⟨h, _⟩ | ⟨d, c, r, h1, _, _, h4, _⟩
  ·cases h
  ·exact ⟨d, c, r, h1, trivial, trivial, h4, trivial⟩
 have Rd2 := Lib.hid k_
 clear k_
 go_upto_region 5 with (fail)
 have k_ := Blk.fresh W16 #[.slice (some ⟨d2, 0, none⟩) 2 cd2, .string ⟨#[50]⟩] 36
 have q_ := below_new W16 (.cells #[.slice (some ⟨d2, 0, none⟩) 2 cd2, .string ⟨#[50]⟩] 36)
 generalize (W16.alloc (.cells #[.slice (some ⟨d2, 0, none⟩) 2 cd2, .string ⟨#[50]⟩] 36)) = W17 at *
 obtain ⟨g8, hg_⟩ : ∃ g, W16.heap.size = g := ⟨_, rfl⟩
 rw [hg_] at k_ ⊢
 replace K1 := Lib.hid (K1.out.below q_)
 replace K2 := Lib.hid (K2.out.below q_)
 replace K3 := Lib.hid (K3.out.below q_)
 replace Rd1 := Lib.hid (Rd1.out.below q_)
 replace K4 := Lib.hid (K4.out.below q_)
 replace K5 := Lib.hid (K5.out.below q_)
 replace K6 := Lib.hid (K6.out.below q_)
 replace K7 := Lib.hid (K7.out.below q_)
 replace Rd2 := Lib.hid (Rd2.out.below q_)
 replace B := Lib.hid (B.out.trans (q_.mono B.out.size))
 have K8 := Lib.hid k_
 clear q_ k_ hg_
 have y0 := K7.out.at_ 0 _ rfl
 have y1 := K7.out.at_ 1 _ rfl
 have y2 := K7.out.at_ 2 _ rfl
 have y3 := K7.out.at_ 3 _ rfl
 have y4 := K7.out.at_ 4 _ rfl
 have y5 := K7.out.at_ 5 _ rfl
 go_wp2_with (fail)
 have sa_ : SAt IV.cells 3 W17 (.slice (some ⟨g5, 0, none⟩) 2 2) [iv ⟨#[97]⟩ 0 2, iv ⟨#[97]⟩ 2 4] := blk_SAt IV.len (T := 86) (by
  have h := K5.out
  have e : ([iv ⟨#[97]⟩ 0 2, iv ⟨#[97]⟩ 2 4].flatMap IV.cells).toArray = #[.string ⟨#[97]⟩, .string ⟨#[48]⟩, .string ⟨#[50]⟩, .string ⟨#[97]⟩, .string ⟨#[50]⟩, .string ⟨#[52]⟩] := by
   simp only [List.flatMap_cons, List.flatMap_nil, iv_cells ⟨#[97]⟩ 0 2 (by omega) (by omega), iv_cells ⟨#[97]⟩ 2 4 (by omega) (by omega)]
   rfl
  rw [e]
  exact h) 2
 have sb_ : SAt IV.cells 3 W17 (.slice (some ⟨g6, 0, none⟩) 1 1) [iv ⟨#[97]⟩ 0 2] := blk_SAt IV.len (T := 86) (by
  have h := K6.out
  have e : ([iv ⟨#[97]⟩ 0 2].flatMap IV.cells).toArray = #[.string ⟨#[97]⟩, .string ⟨#[48]⟩, .string ⟨#[50]⟩] := by
   simp only [List.flatMap_cons, List.flatMap_nil, iv_cells ⟨#[97]⟩ 0 2 (by omega) (by omega)]
   rfl
  rw [e]
  exact h) 1
 have HB := count_any exQ2 exQ2_ok _ _ W17 (HE.out.below B.out) ⟨sa_, sb_⟩
 rw [show qT (2 * exQ2.ch) = ⟨#[49]⟩ from qT_dig 1 (by omega), show qT (2 * exQ2.mi) = ⟨#[50]⟩ from qT_dig 2 (by omega), show qT (2 * exQ2.ga) = ⟨#[51]⟩ from qT_dig 3 (by omega), show qT (2 * exQ2.re) = ⟨#[49]⟩ from qT_dig 1 (by omega)] at HB
 rw [exQ2_cnt, show canon ((1 : Nat) : Int) = ⟨#[49]⟩ from canon_dig 1 (by omega)] at HB
 clear sa_ sb_ y0 y1 y2 y3 y4 y5
 with_reducible refine HB.mono ?_
 clear HB
 rintro e W18 ⟨rfl, q_W18⟩
 replace K1 := Lib.hid (K1.out.below q_W18)
 replace K2 := Lib.hid (K2.out.below q_W18)
 replace K3 := Lib.hid (K3.out.below q_W18)
 replace Rd1 := Lib.hid (Rd1.out.below q_W18)
 replace K4 := Lib.hid (K4.out.below q_W18)
 replace K5 := Lib.hid (K5.out.below q_W18)
 replace K6 := Lib.hid (K6.out.below q_W18)
 replace K7 := Lib.hid (K7.out.below q_W18)
 replace Rd2 := Lib.hid (Rd2.out.below q_W18)
 replace K8 := Lib.hid (K8.out.below q_W18)
 replace B := Lib.hid (B.out.trans (q_W18.mono B.out.size))
 clear q_W18
 have c3 : W18.cell? ⟨d1, 3, none⟩ = some (.int .i64 1) := Rd1.out.at_ 3 _ rfl
 have d3 : W18.cell? ⟨d2, 3, none⟩ = some (.int .i64 4) := Rd2.out.at_ 3 _ rfl
 have c4 : W18.cell? ⟨d1, 4, none⟩ = some (.int .i64 1) := Rd1.out.at_ 4 _ rfl
 have d4 : W18.cell? ⟨d2, 4, none⟩ = some (.int .i64 1) := Rd2.out.at_ 4 _ rfl
 have c5 : W18.cell? ⟨d1, 5, none⟩ = some (.int .i64 1) := Rd1.out.at_ 5 _ rfl
 have d5 : W18.cell? ⟨d2, 5, none⟩ = some (.int .i64 1) := Rd2.out.at_ 5 _ rfl
 have a0 := K4.out.at_ 0 _ rfl
 have a1 := K4.out.at_ 1 _ rfl
 have b0 := K8.out.at_ 0 _ rfl
 have b1 := K8.out.at_ 1 _ rfl
 go_wp2
 go_ret
 exact ⟨rfl, B.out⟩

end Go.Proofs.YthhkmihjnnfpgaaGreatDoor
