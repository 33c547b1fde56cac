/- The walks of rational.power, and of Parse and Decimal at the chapter's examples; the examples of the chapter hold. -/
import Derived.Test.YtjkbgjjfchhpfaaGreatDoorRatE
import Derived.BigQuiet
namespace Go.Proofs.YtjkbgjjfchhpfaaGreatDoor
open Go.RowKit

theorem canon_digs (n : Nat) (c : UInt8) (m : List UInt8) (hd : AllDig (c :: m)) (hc : c.toNat ≠ 48) (hn : dval (c :: m) = n) : canon (n : Int) = ⟨(c :: m).toArray⟩ := by
  rw [canon_nat, ← hn, ← eq_dec hd hc]

theorem k_1000 : canon 1000 = ⟨#[49, 48, 48, 48]⟩ := canon_digs 1000 49 [48, 48, 48] (by intro c h; simp at h; rcases h with rfl | rfl <;> decide) (by decide) (by decide)
theorem k_667 : canon 667 = ⟨#[54, 54, 55]⟩ := canon_digs 667 54 [54, 55] (by intro c h; simp at h; rcases h with rfl | rfl <;> decide) (by decide) (by decide)
theorem k_250 : canon 250 = ⟨#[50, 53, 48]⟩ := canon_digs 250 50 [53, 48] (by intro c h; simp at h; rcases h with rfl | rfl | rfl <;> decide) (by decide) (by decide)
theorem k_100 : canon 100 = ⟨#[49, 48, 48]⟩ := canon_digs 100 49 [48, 48] (by intro c h; simp at h; rcases h with rfl | rfl <;> decide) (by decide) (by decide)
theorem k_3 : canon 3 = ⟨#[51]⟩ := canon_dig 3 (by omega)
theorem k_4 : canon 4 = ⟨#[52]⟩ := canon_dig 4 (by omega)

theorem canonR_at (q : Rat) (n : Int) (d : Nat) (h1 : q.num = n) (h2 : q.den = d) : canonR q = ratT n d := by unfold canonR; rw [h1, h2]

def r23 : Rat := mkRat 2 3
def r94 : Rat := mkRat 9 4
theorem k_r23 : canonR r23 = ⟨#[50, 47, 51]⟩ := by
  rw [canonR_at r23 2 3 (by decide) (by decide), ratT_frac 2 3 (by omega), k_2, show ((3 : Nat) : Int) = 3 from rfl, k_3]; rfl
theorem k_r94 : canonR r94 = ⟨#[57, 47, 52]⟩ := by
  rw [canonR_at r94 9 4 (by decide) (by decide), ratT_frac 9 4 (by omega), k_9, show ((4 : Nat) : Int) = 4 from rfl, k_4]; rfl
theorem k_m32 : canonR (mkRat (-6) 4) = ⟨#[45, 51, 47, 50]⟩ := by
  rw [canonR_at (mkRat (-6) 4) (-3) 2 (by decide) (by decide), ratT_frac (-3) 2 (by omega), k_m3, show ((2 : Nat) : Int) = 2 from rfl, k_2]; rfl
theorem k_52 : canonR (mkRat 250 100) = ⟨#[53, 47, 50]⟩ := by
  rw [canonR_at (mkRat 250 100) 5 2 (by decide) (by decide), ratT_frac 5 2 (by omega), k_5, show ((2 : Nat) : Int) = 2 from rfl, k_2]; rfl
theorem k_32 : ratT ((3 : Nat) : Int) 2 = ⟨#[51, 47, 50]⟩ := by
  rw [ratT_frac _ 2 (by omega), show ((3 : Nat) : Int) = 3 from rfl, k_3, show ((2 : Nat) : Int) = 2 from rfl, k_2]; rfl

theorem k_of (w : World) (he : Env w) :
    Calls Tryz.prog 31 #[.int .i64 6, .int .i64 (-4)] w fun e w' => e = .returned (.tuple #[.string ⟨#[45, 51, 47, 50]⟩, .int .i64 0]) ∧ Below w.heap.size w w' := by
  have h := rof_any true (-6) 4 w he.1 (by omega) (by omega) (by omega) (by omega)
  rw [k_m32] at h
  exact h

theorem k_rroot (w : World) (he : Env w) :
    Calls Tryz.prog 26 #[.string ⟨#[57, 47, 52]⟩] w fun e w' => e = .returned (.tuple #[.string ⟨#[51, 47, 50]⟩, .bool true]) ∧ Below w.heap.size w w' := by
  have h := rroot_yes r94 3 2 1 (by omega) (by omega) (by unfold Sz; decide) (by decide) (by decide) (by decide) w he
  rw [k_r94, k_32] at h
  exact h

theorem k_radd (w : World) (he : Env w) :
    Calls Tryz.prog 41 #[.string ⟨#[45, 51, 47, 50]⟩, .string ⟨#[53, 47, 50]⟩] w fun e w' => e = .returned (.string ⟨#[49]⟩) ∧ Below w.heap.size w w' := by
  have h := radd_any (mkRat (-6) 4) (mkRat 250 100) 1 (by omega) (by omega) (by unfold Sz; decide) (by unfold Sz; decide) w he
  rw [canonR_at (mkRat (-6) 4 + mkRat 250 100) 1 1 (by decide +kernel) (by decide +kernel), ratT_one, k_1, k_m32, k_52] at h
  exact h

theorem rpower_3 (w : World) :
    Calls Tryz.prog 79 #[.int .i64 3] w fun e w' => e = .returned (.string ⟨#[49, 48, 48, 48]⟩) ∧ Below w.heap.size w w' := by
  have h : ∀ W, Calls Tryz.prog 14 #[.string ⟨#[48]⟩, .int .i64 3] W fun e w' => e = .returned (.string ⟨#[48, 48, 48]⟩) ∧ Below W.heap.size W w' := fun W => Tryz.strings_Repeat ⟨#[48]⟩ 3 W (by omega) (by decide)
  have H := Lib.hid h
  have e1 : Hid ((⟨#[49]⟩ : ByteArray) ++ ⟨#[48, 48, 48]⟩ = ⟨#[49, 48, 48, 48]⟩) := by show _ = _; rfl
  have z3 : (⟨#[48, 48, 48]⟩ : ByteArray).size = 3 := rfl
  generalize (⟨#[48, 48, 48]⟩ : ByteArray) = Z at *
  generalize (⟨#[49, 48, 48, 48]⟩ : ByteArray) = R at *
  clear h
  go_enter Tryz.func79, Tryz.ntmps79
  go_wp2_with (go_at_call 14; (with_reducible refine (H.out _).mono ?_); rintro e w1 ⟨rfl, q⟩; have B1 := Lib.hid q; clear q)
  go_ret
  rw [← e1.out]
  exact ⟨rfl, B1.out⟩

set_option maxRecDepth 100000 in
set_option maxHeartbeats 4000000 in
theorem rparse_of (T F R FR : ByteArray) (w : World) (he : Env w) (n1 n2 n3 : Nat) (hsz : T.size = 4) (_hT1 : T.toList.isEmpty = false) (hT2 : (T.toList == []) = false) (h46 : ((T[1].toNat : Int) == 47) = false)
    (hF : T.extract 0 1 = F) (hR : T.extract 2 4 = R) (hFR : F ++ R = FR) (hRs : R.size = 2) (hFs : F.size = 1)
    (cp : ∀ W, Calls Tryz.prog 67 #[.string T, .string ⟨#[45]⟩] W fun e w' => e = .returned (.tuple #[.string T, .bool false]) ∧ W = w')
    (tp : ∀ W, Calls Tryz.prog 60 #[.string T, .string ⟨#[43]⟩] W fun e w' => e = .returned (.string T) ∧ W = w')
    (ix : ∀ W, Calls Tryz.prog 68 #[.string T, .string ⟨#[47, 46]⟩] W fun e w' => e = .returned (.int .i64 1) ∧ Below W.heap.size W w')
    (p1 : ∀ W, Calls Tryz.prog 69 #[.string F] W fun e w' => e = .returned (.tuple #[.string (canon n1), .bool true]) ∧ W = w')
    (p2 : ∀ W, Calls Tryz.prog 69 #[.string R] W fun e w' => e = .returned (.tuple #[.string (canon n2), .bool true]) ∧ W = w')
    (p3 : ∀ W, Calls Tryz.prog 69 #[.string FR] W fun e w' => e = .returned (.tuple #[.string (canon n3), .bool true]) ∧ W = w') (h3 : (canon (n3 : Int)).size ≤ 100) :
    Calls Tryz.prog 15 #[.string T] w fun e w' => e = .returned (.tuple #[.string (canonR (mkRat n3 100)), .int .i64 0]) ∧ Below w.heap.size w w' := by
  have rp : ∀ W, Calls Tryz.prog 14 #[.string ⟨#[48]⟩, .int .i64 2] W fun e w' => e = .returned (.string ⟨#[48, 48]⟩) ∧ Below W.heap.size W w' := fun W => Tryz.strings_Repeat ⟨#[48]⟩ 2 W (by omega) (by decide)
  have lw := fun W (hW : Below w.heap.size w W) => rlowest_any (n3 : Int) 100 W (he.below hW).1 (by omega) (by omega) (by rw [show ((100 : Nat) : Int) = 100 from rfl, k_100]; decide)
  rw [show ((100 : Nat) : Int) = 100 from rfl, k_100] at lw
  have e1 : (⟨#[49]⟩ : ByteArray) ++ ⟨#[48, 48]⟩ = ⟨#[49, 48, 48]⟩ := rfl
  have z0 : ((⟨#[49, 48, 48]⟩ : ByteArray).toList == [48]) = false := by rw [ByteArray.toList_eq]; rfl
  have z2 : (⟨#[48, 48]⟩ : ByteArray).size = 2 := rfl
  generalize (⟨#[48, 48]⟩ : ByteArray) = Z at *
  generalize (⟨#[49, 48, 48]⟩ : ByteArray) = Y at *
  generalize canonR (mkRat n3 100) = RR at *
  generalize canon (n1 : Int) = C1 at *
  generalize canon (n2 : Int) = C2 at *
  generalize canon (n3 : Int) = C3 at *
  have CP := Lib.hid cp
  have TP := Lib.hid tp
  have IX := Lib.hid ix
  have P1 := Lib.hid p1
  have P2 := Lib.hid p2
  have P3 := Lib.hid p3
  have RP := Lib.hid rp
  have LW := Lib.hid lw
  clear cp tp ix p1 p2 p3 rp lw he
  go_enter Tryz.func15, Tryz.ntmps15
  go_upto_region 9 with (first
    | (go_at_call 67; (with_reducible refine (CP.out _).mono ?_); rintro e w1 ⟨rfl, rfl⟩)
    | (go_at_call 60; (with_reducible refine (TP.out _).mono ?_); rintro e w2 ⟨rfl, rfl⟩)
    | (go_at_call 68; (with_reducible refine (IX.out _).mono ?_); rintro e w3 ⟨rfl, q⟩; have B3 := Lib.hid q; clear q)
    | fail "arm")
  go_quiet (fail)
  go_wp2_with (first
    | (go_at_call_of 69 (Value.string F); (with_reducible refine (P1.out _).mono ?_); rintro e w4 ⟨rfl, rfl⟩)
    | (go_at_call_of 69 (Value.string R); (with_reducible refine (P2.out _).mono ?_); rintro e w5 ⟨rfl, rfl⟩)
    | (go_at_call_of 69 (Value.string FR); (with_reducible refine (P3.out _).mono ?_); rintro e w6 ⟨rfl, rfl⟩)
    | (go_at_call 14; (with_reducible refine (RP.out _).mono ?_); rintro e w7 ⟨rfl, q⟩; have B7 := Lib.hid ((B3.out.trans ((Drew.of _ _).below _)).trans (q.mono B3.out.size)); clear q)
    | (go_at_call 71; (with_reducible refine (LW.out _ B7.out).mono ?_); rintro e w8 ⟨rfl, q⟩; have B8 := Lib.hid (B7.out.trans (q.mono B7.out.size)); clear q)
    | fail "arm")
  go_ret2
  exact ⟨rfl, B8.out⟩

end Go.Proofs.YtjkbgjjfchhpfaaGreatDoor
