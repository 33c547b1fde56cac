/- RationalRoots: for any text: the walk: the call returns true. Conditions: those of the given row alone. -/
import Derived.Test.YtjkbgjjfchhpfaaGreatDoorRfG
import Derived.Test.YtjkbgjjfchhpfaaGreatDoorRatG
import Derived.Deep.RegionHeld3
namespace Go.Proofs.YtjkbgjjfchhpfaaGreatDoor
open Go.RowKit

set_option maxRecDepth 100000 in
set_option maxHeartbeats 8000000 in
theorem roots_walk (Ta : ByteArray) (w : World) (he : Env w) :
    Calls Tryz.prog 5 #[.string Ta] w fun e w' => e = .returned (.bool true) ∧ Below w.heap.size w w' := by
  have kn := fun W (hW : Below w.heap.size w W) => rknown_any W (he.below hW)
  have ft := fun W (hW : Below w.heap.size w W) => rfits1 Ta W (he.below hW).1
  have KN := Lib.hid kn
  have B := Lib.hid (Below.refl w.heap.size w)
  clear kn
  cases hf : fitsB [Ta] with
  | false =>
    rw [hf] at ft
    have FT := Lib.hid ft
    clear ft hf he
    go_enter Tryz.func5, Tryz.ntmps5
    go_wp2_with (first
      | (go_at_call 13; (with_reducible refine (KN.out _ B.out).mono ?_); rintro e wx ⟨rfl, q⟩; replace B := Lib.hid (B.out.trans (q.mono B.out.size)); clear q)
      | (go_at_call 18; (with_reducible refine (FT.out _ B.out).mono ?_); rintro e wx ⟨rfl, q⟩; replace B := Lib.hid (B.out.trans (q.mono B.out.size)); clear q)
      | fail "arm")
    go_ret
    exact ⟨rfl, B.out⟩
  | true =>
    rw [hf] at ft
    have FT := Lib.hid ft
    clear ft
    have fa := fits_q1 hf
    obtain ⟨a, rfl, sa, za⟩ := fit_q fa
    clear hf fa
    have mu := fun W (hW : Below w.heap.size w W) => rmulR_any a a 80 (by omega) (by omega) sa sa W (he.below hW)
    have rs := fun W (hW : Below w.heap.size w W) => rroot_square a sa W (he.below hW)
    have ab := fun W => rabsR_any a W (by omega)
    have tt := canonR_beq a a
    by_cases hn : a.num < 0
    · have r1 := fun W => rroot_neg a hn W (by omega)
      have r2 := fun W => rrootR_neg a 80 (by omega) (by omega) sa hn W
      generalize canonR (a * a) = TM at *
      generalize canonR (absQ a) = TQ at *
      generalize canonR a = TA at *
      clear he sa za hn tt
      have MU := Lib.hid mu
      have RS := Lib.hid rs
      have AB := Lib.hid ab
      have R1 := Lib.hid r1
      have R2 := Lib.hid r2
      clear mu rs ab r1 r2
      go_enter Tryz.func5, Tryz.ntmps5
      go_wp2_with (first
        | (go_at_call 13; (with_reducible refine (KN.out _ B.out).mono ?_); rintro e wx ⟨rfl, q⟩; replace B := Lib.hid (B.out.trans (q.mono B.out.size)); clear q)
        | (go_at_call 18; (with_reducible refine (FT.out _ B.out).mono ?_); rintro e wx ⟨rfl, q⟩; replace B := Lib.hid (B.out.trans (q.mono B.out.size)); clear q)
        | (go_at_call_of 26 (Value.string TA); (with_reducible refine (R1.out _).mono ?_); rintro e wx ⟨rfl, rfl⟩)
        | (go_at_call 27; (with_reducible refine (R2.out _).mono ?_); rintro e wx ⟨rfl, q⟩; replace B := Lib.hid (B.out.trans (q.mono B.out.size)); clear q)
        | (go_at_call 23; (with_reducible refine (MU.out _ B.out).mono ?_); rintro e wx ⟨rfl, q⟩; replace B := Lib.hid (B.out.trans (q.mono B.out.size)); clear q)
        | (go_at_call 26; (with_reducible refine (RS.out _ B.out).mono ?_); rintro e wx ⟨rfl, q⟩; replace B := Lib.hid (B.out.trans (q.mono B.out.size)); clear q)
        | (go_at_call 28; (with_reducible refine (AB.out _).mono ?_); rintro e wx ⟨rfl, q⟩; replace B := Lib.hid (B.out.trans (q.mono B.out.size)); clear q)
        | fail "arm")
      go_ret
      exact ⟨rfl, B.out⟩
    · obtain ⟨x, hx⟩ := has_root a.num.natAbs
      obtain ⟨y, hy⟩ := has_root a.den
      have hp : RootP a x y 80 := ⟨by omega, hx, hy, sa⟩
      by_cases hsq : a.num = (x : Int) * (x : Int) ∧ a.den = y * y
      · have r1 := fun W (hW : Below w.heap.size w W) => rroot_yes a x y 80 (by omega) (by omega) sa hp.pos hsq.1 hsq.2 W (he.below hW)
        have r2 := fun W (hW : Below w.heap.size w W) => rrootR_yes a x y 80 (by omega) (by omega) hp hsq.1 hsq.2 W (he.below hW)
        generalize ratT (x : Int) y = TR at *
        generalize canonR (a * a) = TM at *
        generalize canonR (absQ a) = TQ at *
        generalize canonR a = TA at *
        clear he sa za hn tt hp hsq hx hy
        have MU := Lib.hid mu
        have RS := Lib.hid rs
        have AB := Lib.hid ab
        have R1 := Lib.hid r1
        have R2 := Lib.hid r2
        clear mu rs ab r1 r2
        go_enter Tryz.func5, Tryz.ntmps5
        go_wp2_with (first
          | (go_at_call 13; (with_reducible refine (KN.out _ B.out).mono ?_); rintro e wx ⟨rfl, q⟩; replace B := Lib.hid (B.out.trans (q.mono B.out.size)); clear q)
          | (go_at_call 18; (with_reducible refine (FT.out _ B.out).mono ?_); rintro e wx ⟨rfl, q⟩; replace B := Lib.hid (B.out.trans (q.mono B.out.size)); clear q)
          | (go_at_call_of 26 (Value.string TA); (with_reducible refine (R1.out _ B.out).mono ?_); rintro e wx ⟨rfl, q⟩; replace B := Lib.hid (B.out.trans (q.mono B.out.size)); clear q)
          | (go_at_call 27; (with_reducible refine (R2.out _ B.out).mono ?_); rintro e wx ⟨rfl, q⟩; replace B := Lib.hid (B.out.trans (q.mono B.out.size)); clear q)
          | (go_at_call 23; (with_reducible refine (MU.out _ B.out).mono ?_); rintro e wx ⟨rfl, q⟩; replace B := Lib.hid (B.out.trans (q.mono B.out.size)); clear q)
          | (go_at_call 26; (with_reducible refine (RS.out _ B.out).mono ?_); rintro e wx ⟨rfl, q⟩; replace B := Lib.hid (B.out.trans (q.mono B.out.size)); clear q)
          | (go_at_call 28; (with_reducible refine (AB.out _).mono ?_); rintro e wx ⟨rfl, q⟩; replace B := Lib.hid (B.out.trans (q.mono B.out.size)); clear q)
          | fail "arm")
        go_ret
        exact ⟨rfl, B.out⟩
      · have r1 := fun W (hW : Below w.heap.size w W) => rroot_no a x y 80 (by omega) (by omega) hp hsq W (he.below hW)
        have r2 := fun W (hW : Below w.heap.size w W) => rrootR_no a x y 80 (by omega) (by omega) hp hsq W (he.below hW)
        generalize canonR (a * a) = TM at *
        generalize canonR (absQ a) = TQ at *
        generalize canonR a = TA at *
        clear he sa za hn tt hp hsq hx hy
        have MU := Lib.hid mu
        have RS := Lib.hid rs
        have AB := Lib.hid ab
        have R1 := Lib.hid r1
        have R2 := Lib.hid r2
        clear mu rs ab r1 r2
        go_enter Tryz.func5, Tryz.ntmps5
        go_wp2_with (first
          | (go_at_call 13; (with_reducible refine (KN.out _ B.out).mono ?_); rintro e wx ⟨rfl, q⟩; replace B := Lib.hid (B.out.trans (q.mono B.out.size)); clear q)
          | (go_at_call 18; (with_reducible refine (FT.out _ B.out).mono ?_); rintro e wx ⟨rfl, q⟩; replace B := Lib.hid (B.out.trans (q.mono B.out.size)); clear q)
          | (go_at_call_of 26 (Value.string TA); (with_reducible refine (R1.out _ B.out).mono ?_); rintro e wx ⟨rfl, q⟩; replace B := Lib.hid (B.out.trans (q.mono B.out.size)); clear q)
          | (go_at_call 27; (with_reducible refine (R2.out _ B.out).mono ?_); rintro e wx ⟨rfl, q⟩; replace B := Lib.hid (B.out.trans (q.mono B.out.size)); clear q)
          | (go_at_call 23; (with_reducible refine (MU.out _ B.out).mono ?_); rintro e wx ⟨rfl, q⟩; replace B := Lib.hid (B.out.trans (q.mono B.out.size)); clear q)
          | (go_at_call 26; (with_reducible refine (RS.out _ B.out).mono ?_); rintro e wx ⟨rfl, q⟩; replace B := Lib.hid (B.out.trans (q.mono B.out.size)); clear q)
          | (go_at_call 28; (with_reducible refine (AB.out _).mono ?_); rintro e wx ⟨rfl, q⟩; replace B := Lib.hid (B.out.trans (q.mono B.out.size)); clear q)
          | fail "arm")
        go_ret
        exact ⟨rfl, B.out⟩

end Go.Proofs.YtjkbgjjfchhpfaaGreatDoor
