/- The examples of the chapter hold: rational.Parse and Decimal at them, and klippelaw02.known. -/
import Derived.Test.YtjkbgjjfchhpfaaGreatDoorRatF
namespace Go.Proofs.YtjkbgjjfchhpfaaGreatDoor
open Go.RowKit

theorem k_plain (T : ByteArray) (n : Nat) (hd : AllDig T.data.toList) (h0 : 0 < T.size) (hs : T.size ≤ 100) (hn : dval T.data.toList = n) (W : World) :
    Calls Tryz.prog 69 #[.string T] W fun e w' => e = .returned (.tuple #[.string (canon (n : Int)), .bool true]) ∧ W = w' := by
  have h := plain_any T W hd h0 (by omega)
  rw [hn] at h
  exact h

theorem k_parse (w : World) (he : Env w) :
    Calls Tryz.prog 15 #[.string ⟨#[50, 46, 53, 48]⟩] w fun e w' => e = .returned (.tuple #[.string ⟨#[53, 47, 50]⟩, .int .i64 0]) ∧ Below w.heap.size w w' := by
  have h := rparse_of ⟨#[50, 46, 53, 48]⟩ ⟨#[50]⟩ ⟨#[53, 48]⟩ ⟨#[50, 53, 48]⟩ w he 2 50 250 rfl (by rw [ByteArray.toList_eq]; rfl) (by rw [ByteArray.toList_eq]; rfl) (by decide) (by decide) (by decide) rfl rfl rfl
    (fun W => by
      refine (Tryz.strings_CutPrefix ⟨#[50, 46, 53, 48]⟩ ⟨#[45]⟩ W).mono ?_
      rintro e w' ⟨rfl, rfl⟩
      exact ⟨rfl, rfl⟩)
    (fun W => by
      refine (Tryz.strings_TrimPrefix ⟨#[50, 46, 53, 48]⟩ ⟨#[43]⟩ W).mono ?_
      rintro e w' ⟨rfl, rfl⟩
      exact ⟨rfl, rfl⟩)
    (fun W => by
      refine (Tryz.strings_IndexAny_laid ⟨#[50, 46, 53, 48]⟩ ⟨#[47, 46]⟩ W (by decide) (by decide) (fun j b hb => ?_) (fun j b hb => ?_)).mono ?_
      · have := List.mem_of_getElem? hb
        simp at this
        rcases this with rfl | rfl | rfl | rfl <;> decide
      · have := List.mem_of_getElem? hb
        simp at this
        rcases this with rfl | rfl <;> decide
      · rintro e w' ⟨rfl, hb⟩
        exact ⟨rfl, hb⟩)
    (k_plain _ 2 (by intro c h; simp at h; rcases h with rfl; decide) (by decide) (by decide) (by decide))
    (k_plain _ 50 (by intro c h; simp at h; rcases h with rfl | rfl <;> decide) (by decide) (by decide) (by decide))
    (k_plain _ 250 (by intro c h; simp at h; rcases h with rfl | rfl | rfl <;> decide) (by decide) (by decide) (by decide))
    (by rw [show ((250 : Nat) : Int) = 250 from rfl, k_250]; decide)
  rw [show mkRat ((250 : Nat) : Int) 100 = mkRat 250 100 from rfl, k_52] at h
  exact h

set_option maxRecDepth 100000 in
set_option maxHeartbeats 4000000 in
theorem rdecimal_of (T M S S2 A1 A2 A3 A4 R : ByteArray) (z : Int) (w : World) (hz : 0 < z) (hsz : S.size = 3) (h2 : (⟨#[48]⟩ : ByteArray) ++ S = S2) (hs2 : S2.size = 4) (h3 : S2.extract 0 1 = A1) (h4 : S2.extract 1 4 = A2) (h5 : (⟨#[]⟩ : ByteArray) ++ A1 = A3) (h6 : A3 ++ (⟨#[46]⟩ : ByteArray) = A4) (h7 : A4 ++ A2 = R)
    (n1 : A1.size = 1) (n2 : A2.size = 3) (n3 : A3.size = 1) (n4 : A4.size = 2)
    (mu : ∀ W, Below w.heap.size w W → Calls Tryz.prog 38 #[.string T, .string ⟨#[49, 48, 48, 48]⟩] W fun e w' => e = .returned (.string M) ∧ Below W.heap.size W w')
    (nr : ∀ W, Below w.heap.size w W → Calls Tryz.prog 78 #[.string M] W fun e w' => e = .returned (.string (canon z)) ∧ Below W.heap.size W w')
    (ab : ∀ W, Calls Tryz.prog 80 #[.string (canon z)] W fun e w' => e = .returned (.string S) ∧ Below W.heap.size W w') :
    Calls Tryz.prog 19 #[.string T, .int .i64 3] w fun e w' => e = .returned (.tuple #[.string R, .int .i64 0]) ∧ Below w.heap.size w w' := by
  have pw := fun W => rpower_3 W
  have sg := fun W => sign_any z W
  rw [Int.sign_eq_one_of_pos hz] at sg
  have rp : ∀ W, Calls Tryz.prog 14 #[.string ⟨#[48]⟩, .int .i64 1] W fun e w' => e = .returned (.string ⟨#[48]⟩) ∧ Below W.heap.size W w' := fun W => Tryz.strings_Repeat ⟨#[48]⟩ 1 W (by omega) (by decide)
  generalize (⟨#[49, 48, 48, 48]⟩ : ByteArray) = P at *
  generalize canon z = C at *
  have MU := Lib.hid mu
  have NR := Lib.hid nr
  have AB := Lib.hid ab
  have PW := Lib.hid pw
  have SG := Lib.hid sg
  have RP := Lib.hid rp
  have HR := Lib.hid h7
  have z1 : (⟨#[48]⟩ : ByteArray).size = 1 := rfl
  clear mu nr ab pw sg rp h7 hz
  go_enter Tryz.func19, Tryz.ntmps19
  go_wp2_with (first
    | (go_at_call 79; (with_reducible refine (PW.out _).mono ?_); rintro e w1 ⟨rfl, q⟩; have B1 := Lib.hid q; clear q)
    | (go_at_call 38; (with_reducible refine (MU.out _ B1.out).mono ?_); rintro e w2 ⟨rfl, q⟩; have B2 := Lib.hid (B1.out.trans (q.mono B1.out.size)); clear q)
    | (go_at_call 78; (with_reducible refine (NR.out _ B2.out).mono ?_); rintro e w3 ⟨rfl, q⟩; have B3 := Lib.hid (B2.out.trans (q.mono B2.out.size)); clear q)
    | (go_at_call 80; (with_reducible refine (AB.out _).mono ?_); rintro e w4 ⟨rfl, q⟩; have B4 := Lib.hid (B3.out.trans (q.mono B3.out.size)); clear q)
    | (go_at_call 14; (with_reducible refine (RP.out _).mono ?_); rintro e w5 ⟨rfl, q⟩; have B5 := Lib.hid (B4.out.trans (q.mono B4.out.size)); clear q)
    | (go_at_call 81; (with_reducible refine (SG.out _).mono ?_); rintro e w6 ⟨rfl, rfl⟩)
    | fail "arm")
  go_quiet (fail)
  go_wp2
  go_ret2
  rw [← HR.out]
  exact ⟨rfl, B5.out.trans ((Drew.of _ _).below _)⟩

theorem k_decimal (w : World) (he : Env w) :
    Calls Tryz.prog 19 #[.string ⟨#[50, 47, 51]⟩, .int .i64 3] w fun e w' => e = .returned (.tuple #[.string ⟨#[48, 46, 54, 54, 55]⟩, .int .i64 0]) ∧ Below w.heap.size w w' := by
  have hs1 : Sz r23 4 := by unfold Sz; decide
  have hs2 : Sz ((1000 : Int) : Rat) 4 := by unfold Sz; decide
  have mu := fun W (hW : Below w.heap.size w W) => rmul_any r23 ((1000 : Int) : Rat) 4 (by omega) (by omega) hs1 hs2 W (he.below hW)
  rw [canonR_int, k_1000, k_r23] at mu
  have nr := fun W (hW : Below w.heap.size w W) => rnearest_any (r23 * ((1000 : Int) : Rat)) 8 (by omega) (by omega) (hs1.mul hs2) W (he.below hW)
  have e : (r23 * ((1000 : Int) : Rat) + half).num / ((r23 * ((1000 : Int) : Rat) + half).den : Int) = 667 := by decide +kernel
  rw [e] at nr
  have ab := fun W => abs_any 667 W
  rw [show (((667 : Int).natAbs : Nat) : Int) = 667 from rfl] at ab
  generalize canonR (r23 * ((1000 : Int) : Rat)) = M at *
  exact rdecimal_of _ M ⟨#[54, 54, 55]⟩ ⟨#[48, 54, 54, 55]⟩ ⟨#[48]⟩ ⟨#[54, 54, 55]⟩ ⟨#[48]⟩ ⟨#[48, 46]⟩ _ 667 w (by omega) rfl rfl rfl (by decide) (by decide) rfl rfl rfl rfl rfl rfl rfl mu nr (fun W => by have h := ab W; rw [show canon 667 = ⟨#[54, 54, 55]⟩ from k_667] at h ⊢; exact h)

set_option maxRecDepth 100000 in
set_option maxHeartbeats 2000000 in
theorem rknown_any (w : World) (he : Env w) :
    Calls Tryz.prog 13 #[] w fun e w' => e = .returned (.bool true) ∧ Below w.heap.size w w' := by
  have h1 := fun W (hW : Below w.heap.size w W) => k_of W (he.below hW)
  have h2 := fun W (hW : Below w.heap.size w W) => k_parse W (he.below hW)
  have h3 := fun W (hW : Below w.heap.size w W) => k_decimal W (he.below hW)
  have h4 := fun W (hW : Below w.heap.size w W) => k_rroot W (he.below hW)
  have h5 := fun W (hW : Below w.heap.size w W) => k_radd W (he.below hW)
  have H1 := Lib.hid h1
  have H2 := Lib.hid h2
  have H3 := Lib.hid h3
  have H4 := Lib.hid h4
  have H5 := Lib.hid h5
  clear h1 h2 h3 h4 h5 he
  go_enter Tryz.func13, Tryz.ntmps13
  go_wp2_with (first
    | (go_at_call 31; refine (H1.out _ (Below.refl _ _)).mono ?_; rintro e w1 ⟨rfl, q⟩; have B1 := Lib.hid q; clear q)
    | (go_at_call 15; refine (H2.out _ B1.out).mono ?_; rintro e w2 ⟨rfl, q⟩; have B2 := Lib.hid (B1.out.trans (q.mono B1.out.size)); clear q)
    | (go_at_call 19; refine (H3.out _ B2.out).mono ?_; rintro e w3 ⟨rfl, q⟩; have B3 := Lib.hid (B2.out.trans (q.mono B2.out.size)); clear q)
    | (go_at_call 26; refine (H4.out _ B3.out).mono ?_; rintro e w4 ⟨rfl, q⟩; have B4 := Lib.hid (B3.out.trans (q.mono B3.out.size)); clear q)
    | (go_at_call 41; refine (H5.out _ B4.out).mono ?_; rintro e w5 ⟨rfl, q⟩; have B5 := Lib.hid (B4.out.trans (q.mono B4.out.size)); clear q)
    | fail "arm")
  go_ret
  exact ⟨rfl, B5.out⟩

end Go.Proofs.YtjkbgjjfchhpfaaGreatDoor
