/- The walk of klippelaw01.known: the examples of the chapter hold. -/
import Derived.Test.YtmkeigfckfkifaaDoorDivMod
import Derived.Test.YtmkeigfckfkifaaDoorRoot
import Derived.Test.YtmkeigfckfkifaaDoorParse
import Derived.Outline
namespace Go.Proofs.YtmkeigfckfkifaaDoor
open Go.RowKit

/-- A numeral of one digit, of two digits, and with a sign. -/
theorem canon_dig (d : Nat) (h : d < 10) : canon (d : Int) = ⟨#[UInt8.ofNat (48 + d)]⟩ := by
  have e : Lib.itoa (d : Int) = [UInt8.ofNat (48 + d)] := (itoa_of_nat d).trans (decDigits_lt d h)
  unfold canon
  rw [e]
theorem canon_two (d : Nat) (h0 : 10 ≤ d) (h : d < 100) : canon (d : Int) = ⟨#[UInt8.ofNat (48 + d / 10), UInt8.ofNat (48 + d % 10)]⟩ := by
  have e : Lib.itoa (d : Int) = [UInt8.ofNat (48 + d / 10), UInt8.ofNat (48 + d % 10)] := by
    rw [itoa_of_nat, decDigits_ge d (by omega), decDigits_lt (d / 10) (by omega)]; rfl
  unfold canon
  rw [e]
theorem canon_neg_dig (d : Nat) (h0 : 0 < d) (h : d < 10) : canon (-(d : Int)) = ⟨#[45, UInt8.ofNat (48 + d)]⟩ := by
  have e : Lib.itoa (-(d : Int)) = [45, UInt8.ofNat (48 + d)] := by rw [itoa_of_neg d h0, decDigits_lt d h]
  unfold canon
  rw [e]
theorem canon_neg_two (d : Nat) (h0 : 10 ≤ d) (h : d < 100) : canon (-(d : Int)) = ⟨#[45, UInt8.ofNat (48 + d / 10), UInt8.ofNat (48 + d % 10)]⟩ := by
  have e : Lib.itoa (-(d : Int)) = [45, UInt8.ofNat (48 + d / 10), UInt8.ofNat (48 + d % 10)] := by
    rw [itoa_of_neg d (by omega), decDigits_ge d (by omega), decDigits_lt (d / 10) (by omega)]; rfl
  unfold canon
  rw [e]

theorem k_7 : canon 7 = ⟨#[55]⟩ := canon_dig 7 (by omega)
theorem k_m2 : canon (-2) = ⟨#[45, 50]⟩ := canon_neg_dig 2 (by omega) (by omega)
theorem k_m3 : canon (-3) = ⟨#[45, 51]⟩ := canon_neg_dig 3 (by omega) (by omega)
theorem k_1 : canon 1 = ⟨#[49]⟩ := canon_dig 1 (by omega)
theorem k_99 : canon 99 = ⟨#[57, 57]⟩ := canon_two 99 (by omega) (by omega)
theorem k_9 : canon 9 = ⟨#[57]⟩ := canon_dig 9 (by omega)
theorem k_m12 : canon (-12) = ⟨#[45, 49, 50]⟩ := canon_neg_two 12 (by omega) (by omega)
theorem k_18 : canon 18 = ⟨#[49, 56]⟩ := canon_two 18 (by omega) (by omega)
theorem k_6 : canon 6 = ⟨#[54]⟩ := canon_dig 6 (by omega)
theorem k_5 : canon 5 = ⟨#[53]⟩ := canon_dig 5 (by omega)
theorem k_m15 : canon (-15) = ⟨#[45, 49, 53]⟩ := canon_neg_two 15 (by omega) (by omega)

theorem k_divmod (w : World) (ht : Pow10 w) :
    Calls Tryd.prog 25 #[.string ⟨#[55]⟩, .string ⟨#[45, 50]⟩] w fun e w' => e = .returned (.tuple #[.string ⟨#[45, 51]⟩, .string ⟨#[49]⟩, .int .i64 0]) ∧ Below w.heap.size w w' := by
  have h := divmod_easy 7 (-2) w ht (by rw [k_7]; decide) (by rw [k_m2]; decide) (by omega) (by omega)
  rw [show (7 : Int) / -2 = -3 from by decide, show (7 : Int) % -2 = 1 from by decide, k_7, k_m2, k_m3, k_1] at h
  exact h
theorem k_root (w : World) (ht : Pow10 w) :
    Calls Tryd.prog 22 #[.string ⟨#[57, 57]⟩] w fun e w' => e = .returned (.tuple #[.string ⟨#[57]⟩, .int .i64 0]) ∧ Below w.heap.size w w' := by
  have h := root_pos 99 w (by omega) ht (by rw [show ((99 : Nat) : Int) = 99 from rfl, k_99]; decide)
  rw [show ((99 : Nat) : Int) = 99 from rfl, k_99] at h
  refine h.mono ?_
  rintro e w' ⟨⟨r, hr, rfl⟩, hb⟩
  have : r = 9 := isRoot_unique hr (show IsRoot 99 9 by unfold IsRoot; omega)
  subst this
  rw [show ((9 : Nat) : Int) = 9 from rfl, k_9]
  exact ⟨rfl, hb⟩
theorem k_gcd (w : World) (ht : Pow10 w) :
    Calls Tryd.prog 28 #[.string ⟨#[45, 49, 50]⟩, .string ⟨#[49, 56]⟩] w fun e w' => e = .returned (.string ⟨#[54]⟩) ∧ Below w.heap.size w w' := by
  have h := gcd_any (-12) 18 w ht (by rw [k_m12]; decide) (by rw [k_18]; decide)
  rw [show ((Int.gcd (-12) 18 : Nat) : Int) = 6 from by decide, k_m12, k_18, k_6] at h
  exact h
theorem k_mul (w : World) (ht : Pow10 w) :
    Calls Tryd.prog 13 #[.string ⟨#[45, 51]⟩, .string ⟨#[53]⟩] w fun e w' => e = .returned (.string ⟨#[45, 49, 53]⟩) ∧ Below w.heap.size w w' := by
  have h := mul_any (-3) 5 w ht (by rw [k_m3]; decide) (by rw [k_5]; decide)
  rw [show (-3 : Int) * 5 = -15 from by decide, k_m3, k_5, k_m15] at h
  exact h
theorem k_parse1 (w : World) :
    Calls Tryd.prog 10 #[.string ⟨#[43, 48, 48, 55]⟩] w fun e w' => e = .returned (.tuple #[.string ⟨#[55]⟩, .int .i64 0]) ∧ Below w.heap.size w w' := by
  have h := parse_any ⟨#[43, 48, 48, 55]⟩ w (by decide)
  have e : parseSpec [43, 48, 48, 55] = ([55], 0) := by decide
  rw [show (⟨#[43, 48, 48, 55]⟩ : ByteArray).data.toList = [43, 48, 48, 55] from rfl, e] at h
  exact h
theorem k_parse2 (w : World) :
    Calls Tryd.prog 10 #[.string ⟨#[45, 45, 49]⟩] w fun e w' => e = .returned (.tuple #[.string ⟨#[]⟩, .int .i64 15]) ∧ Below w.heap.size w w' := by
  have h := parse_any ⟨#[45, 45, 49]⟩ w (by decide)
  have e : parseSpec [45, 45, 49] = ([], 15) := by decide
  rw [show (⟨#[45, 45, 49]⟩ : ByteArray).data.toList = [45, 45, 49] from rfl, e] at h
  exact h

set_option maxRecDepth 100000 in
set_option maxHeartbeats 2000000 in
theorem known_any (w : World) (ht : Pow10 w) :
    Calls Tryd.prog 9 #[] w fun e w' => e = .returned (.bool true) ∧ Below w.heap.size w w' := by
  have h1 := fun W (hW : Below w.heap.size w W) => k_divmod W (ht.below hW)
  have h2 := fun W => k_parse1 W
  have h3 := fun W (hW : Below w.heap.size w W) => k_root W (ht.below hW)
  have h4 := fun W => k_parse2 W
  have h5 := fun W (hW : Below w.heap.size w W) => k_gcd W (ht.below hW)
  have h6 := fun W (hW : Below w.heap.size w W) => k_mul W (ht.below hW)
  have H1 := Lib.hid h1
  have H2 := Lib.hid h2
  have H3 := Lib.hid h3
  have H4 := Lib.hid h4
  have H5 := Lib.hid h5
  have H6 := Lib.hid h6
  clear h1 h2 h3 h4 h5 h6 ht
  go_enter Tryd.func9, Tryd.ntmps9
  go_wp2_with (first
    | (go_at_call 25; refine (H1.out _ (Below.refl _ _)).mono ?_; rintro e w1 ⟨rfl, b1⟩; have B1 := Lib.hid b1; clear b1)
    | (go_at_call_of 10 (Value.string { data := #[43, 48, 48, 55] }); refine (H2.out _).mono ?_; rintro e w2 ⟨rfl, b2⟩; have B2 := Lib.hid (B1.out.trans (b2.mono B1.out.size)); clear b2)
    | (go_at_call 22; refine (H3.out _ B2.out).mono ?_; rintro e w3 ⟨rfl, b3⟩; have B3 := Lib.hid (B2.out.trans (b3.mono B2.out.size)); clear b3)
    | (go_at_call_of 10 (Value.string { data := #[45, 45, 49] }); refine (H4.out _).mono ?_; rintro e w4 ⟨rfl, b4⟩; have B4 := Lib.hid (B3.out.trans (b4.mono B3.out.size)); clear b4)
    | (go_at_call 28; refine (H5.out _ B4.out).mono ?_; rintro e w5 ⟨rfl, b5⟩; have B5 := Lib.hid (B4.out.trans (b5.mono B4.out.size)); clear b5)
    | (go_at_call 13; refine (H6.out _ B5.out).mono ?_; rintro e w6 ⟨rfl, b6⟩; have B6 := Lib.hid (B5.out.trans (b6.mono B5.out.size)); clear b6))
  go_ret
  exact ⟨rfl, B6.out⟩

end Go.Proofs.YtmkeigfckfkifaaDoor
