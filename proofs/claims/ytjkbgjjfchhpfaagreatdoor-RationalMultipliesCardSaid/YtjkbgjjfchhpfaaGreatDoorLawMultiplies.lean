/- RationalMultiplies: for any two texts: the walk: the call returns true. Conditions: those of the given row alone. -/
import Derived.Test.YtjkbgjjfchhpfaaGreatDoorRfF
import Derived.Test.YtjkbgjjfchhpfaaGreatDoorRatG
import Derived.Deep.RegionHeld3
namespace Go.Proofs.YtjkbgjjfchhpfaaGreatDoor
open Go.RowKit

set_option maxRecDepth 100000 in
set_option maxHeartbeats 8000000 in
theorem multiplies_walk (Ta Tb : ByteArray) (w : World) (he : Env w) :
    Calls Tryz.prog 8 #[.string Ta, .string Tb] w fun e w' => e = .returned (.bool true) ∧ Below w.heap.size w w' := by
  have kn := fun W (hW : Below w.heap.size w W) => rknown_any W (he.below hW)
  have ft := fun W (hW : Below w.heap.size w W) => rfits2 Ta Tb W (he.below hW).1
  have KN := Lib.hid kn
  have B := Lib.hid (Below.refl w.heap.size w)
  clear kn
  cases hf : fitsB [Ta, Tb] with
  | false =>
    rw [hf] at ft
    have FT := Lib.hid ft
    clear ft hf he
    go_enter Tryz.func8, Tryz.ntmps8
    go_wp2_with (first
      | (go_at_call 13; (with_reducible refine (KN.out _ B.out).mono ?_); rintro e wx ⟨rfl, q⟩; replace B := Lib.hid (B.out.trans (q.mono B.out.size)); clear q)
      | (go_at_call 18; (with_reducible refine (FT.out _ B.out).mono ?_); rintro e wx ⟨rfl, q⟩; replace B := Lib.hid (B.out.trans (q.mono B.out.size)); clear q)
      | fail "arm")
    go_ret
    exact ⟨rfl, B.out⟩
  | true =>
    rw [hf] at ft
    have FT := Lib.hid ft
    clear ft
    obtain ⟨fa, fb⟩ := fits_q2 hf
    obtain ⟨a, rfl, sa, za⟩ := fit_q fa
    obtain ⟨b, rfl, sb, zb⟩ := fit_q fb
    clear hf fa fb
    have m1 := fun W (hW : Below w.heap.size w W) => rmul_any a b 80 (by omega) (by omega) sa sb W (he.below hW)
    have m2 := fun W (hW : Below w.heap.size w W) => rmulR_any a b 80 (by omega) (by omega) sa sb W (he.below hW)
    have hz := canonR_beq0 b
    by_cases hb0 : b = 0
    · subst hb0
      have d1 := fun W => rdiv_zero a W
      have tz : ((canonR 0).toList == [48]) = true := by rw [hz]; rfl
      generalize canonR (a * 0) = TM at *
      generalize canonR a = TA at *
      generalize canonR 0 = TB at *
      clear he sa sb za zb hz
      have M1 := Lib.hid m1
      have M2 := Lib.hid m2
      have D1 := Lib.hid d1
      clear m1 m2 d1
      go_enter Tryz.func8, Tryz.ntmps8
      go_wp2_with (first
        | (go_at_call 13; (with_reducible refine (KN.out _ B.out).mono ?_); rintro e wx ⟨rfl, q⟩; replace B := Lib.hid (B.out.trans (q.mono B.out.size)); clear q)
        | (go_at_call 18; (with_reducible refine (FT.out _ B.out).mono ?_); rintro e wx ⟨rfl, q⟩; replace B := Lib.hid (B.out.trans (q.mono B.out.size)); clear q)
        | (go_at_call 37; (with_reducible refine (D1.out _).mono ?_); rintro e wx ⟨rfl, rfl⟩)
        | (go_at_call 38; (with_reducible refine (M1.out _ B.out).mono ?_); rintro e wx ⟨rfl, q⟩; replace B := Lib.hid (B.out.trans (q.mono B.out.size)); clear q)
        | (go_at_call 23; (with_reducible refine (M2.out _ B.out).mono ?_); rintro e wx ⟨rfl, q⟩; replace B := Lib.hid (B.out.trans (q.mono B.out.size)); clear q)
        | fail "arm")
      go_ret
      exact ⟨rfl, B.out⟩
    · have tz : ((canonR b).toList == [48]) = false := by rw [hz]; exact decide_eq_false hb0
      have d1 := fun W (hW : Below w.heap.size w W) => rdiv_any a b 80 (by omega) (by omega) sa sb hb0 W (he.below hW)
      have d2 := fun W (hW : Below w.heap.size w W) => rdivR_any a b 80 (by omega) (by omega) sa sb hb0 W (he.below hW)
      generalize canonR (a * b) = TM at *
      generalize canonR (a / b) = TQ at *
      generalize canonR a = TA at *
      generalize canonR b = TB at *
      clear he sa sb za zb hz hb0
      have M1 := Lib.hid m1
      have M2 := Lib.hid m2
      have D1 := Lib.hid d1
      have D2 := Lib.hid d2
      clear m1 m2 d1 d2
      go_enter Tryz.func8, Tryz.ntmps8
      go_wp2_with (first
        | (go_at_call 13; (with_reducible refine (KN.out _ B.out).mono ?_); rintro e wx ⟨rfl, q⟩; replace B := Lib.hid (B.out.trans (q.mono B.out.size)); clear q)
        | (go_at_call 18; (with_reducible refine (FT.out _ B.out).mono ?_); rintro e wx ⟨rfl, q⟩; replace B := Lib.hid (B.out.trans (q.mono B.out.size)); clear q)
        | (go_at_call 37; (with_reducible refine (D1.out _ B.out).mono ?_); rintro e wx ⟨rfl, q⟩; replace B := Lib.hid (B.out.trans (q.mono B.out.size)); clear q)
        | (go_at_call 38; (with_reducible refine (M1.out _ B.out).mono ?_); rintro e wx ⟨rfl, q⟩; replace B := Lib.hid (B.out.trans (q.mono B.out.size)); clear q)
        | (go_at_call 23; (with_reducible refine (M2.out _ B.out).mono ?_); rintro e wx ⟨rfl, q⟩; replace B := Lib.hid (B.out.trans (q.mono B.out.size)); clear q)
        | (go_at_call 39; (with_reducible refine (D2.out _ B.out).mono ?_); rintro e wx ⟨rfl, q⟩; replace B := Lib.hid (B.out.trans (q.mono B.out.size)); clear q)
        | fail "arm")
      go_ret
      exact ⟨rfl, B.out⟩

end Go.Proofs.YtjkbgjjfchhpfaaGreatDoor
