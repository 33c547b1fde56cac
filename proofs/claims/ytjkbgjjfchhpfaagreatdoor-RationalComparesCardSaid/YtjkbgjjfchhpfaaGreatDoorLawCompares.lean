/- RationalCompares: for any two texts: the walk: the call returns true. Conditions: those of the given row alone. -/
import Derived.Test.YtjkbgjjfchhpfaaGreatDoorRfF
import Derived.Test.YtjkbgjjfchhpfaaGreatDoorRatG
import Derived.Deep.RegionHeld3
namespace Go.Proofs.YtjkbgjjfchhpfaaGreatDoor
open Go.RowKit

set_option maxRecDepth 100000 in
set_option maxHeartbeats 8000000 in
theorem compares_walk (Ta Tb : ByteArray) (w : World) (he : Env w) :
    Calls Tryz.prog 10 #[.string Ta, .string Tb] w fun e w' => e = .returned (.bool true) ∧ Below w.heap.size w w' := by
  have kn := fun W (hW : Below w.heap.size w W) => rknown_any W (he.below hW)
  have ft := fun W (hW : Below w.heap.size w W) => rfits2 Ta Tb W (he.below hW).1
  have KN := Lib.hid kn
  have B := Lib.hid (Below.refl w.heap.size w)
  clear kn
  cases hf : fitsB [Ta, Tb] with
  | false =>
    rw [hf] at ft
    have FT := Lib.hid ft
    clear ft hf he
    go_enter Tryz.func10, Tryz.ntmps10
    go_wp2_with (first
      | (go_at_call 13; (with_reducible refine (KN.out _ B.out).mono ?_); rintro e wx ⟨rfl, q⟩; replace B := Lib.hid (B.out.trans (q.mono B.out.size)); clear q)
      | (go_at_call 18; (with_reducible refine (FT.out _ B.out).mono ?_); rintro e wx ⟨rfl, q⟩; replace B := Lib.hid (B.out.trans (q.mono B.out.size)); clear q)
      | fail "arm")
    go_ret
    exact ⟨rfl, B.out⟩
  | true =>
    rw [hf] at ft
    have FT := Lib.hid ft
    clear ft
    obtain ⟨fa, fb⟩ := fits_q2 hf
    obtain ⟨a, rfl, sa, za⟩ := fit_q fa
    obtain ⟨b, rfl, sb, zb⟩ := fit_q fb
    clear hf fa fb
    have c1 := fun W (hW : Below w.heap.size w W) => rcompareR_any a b 80 (by omega) (by omega) sa sb W (he.below hW)
    have c2 := fun W (hW : Below w.heap.size w W) => rcompare_any a b 80 (by omega) (by omega) sa sb W (he.below hW)
    rw [show (a.num * (b.den : Int) - b.num * (a.den : Int)).sign = cmpR a b from rfl] at c2
    have g1 := fun W => rsign_any a W (by omega)
    have g2 := fun W => rsignR_any a W (by omega)
    have mi := fun W (hW : Below w.heap.size w W) => rmin_any a b 80 (by omega) (by omega) sa sb W (he.below hW)
    have ma := fun W (hW : Below w.heap.size w W) => rmax_any a b 80 (by omega) (by omega) sa sb W (he.below hW)
    have hin := cmpR_in a b
    have hin2 := sign_in a.num
    generalize cmpR a b = s at *
    generalize a.num.sign = g at *
    generalize canonR a = TA at *
    generalize canonR b = TB at *
    clear he sa sb za zb
    by_cases hs : s > 0
    · rw [if_pos hs] at mi ma
      have t1 : decide (s > 0) = true := decide_eq_true hs
      have C1 := Lib.hid c1
      have C2 := Lib.hid c2
      have G1 := Lib.hid g1
      have G2 := Lib.hid g2
      have MI := Lib.hid mi
      have MA := Lib.hid ma
      clear c1 c2 g1 g2 mi ma
      go_enter Tryz.func10, Tryz.ntmps10
      go_wp2_with (first
        | (go_at_call 13; (with_reducible refine (KN.out _ B.out).mono ?_); rintro e wx ⟨rfl, q⟩; replace B := Lib.hid (B.out.trans (q.mono B.out.size)); clear q)
        | (go_at_call 18; (with_reducible refine (FT.out _ B.out).mono ?_); rintro e wx ⟨rfl, q⟩; replace B := Lib.hid (B.out.trans (q.mono B.out.size)); clear q)
        | (go_at_call 49; (with_reducible refine (C1.out _ B.out).mono ?_); rintro e wx ⟨rfl, q⟩; replace B := Lib.hid (B.out.trans (q.mono B.out.size)); clear q)
        | (go_at_call 50; (with_reducible refine (C2.out _ B.out).mono ?_); rintro e wx ⟨rfl, q⟩; replace B := Lib.hid (B.out.trans (q.mono B.out.size)); clear q)
        | (go_at_call 51; (with_reducible refine (G1.out _).mono ?_); rintro e wx ⟨rfl, rfl⟩)
        | (go_at_call 52; (with_reducible refine (G2.out _).mono ?_); rintro e wx ⟨rfl, rfl⟩)
        | (go_at_call 53; (with_reducible refine (MI.out _ B.out).mono ?_); rintro e wx ⟨rfl, q⟩; replace B := Lib.hid (B.out.trans (q.mono B.out.size)); clear q)
        | (go_at_call 54; (with_reducible refine (MA.out _ B.out).mono ?_); rintro e wx ⟨rfl, q⟩; replace B := Lib.hid (B.out.trans (q.mono B.out.size)); clear q)
        | fail "arm")
      go_ret
      exact ⟨rfl, B.out⟩
    · rw [if_neg hs] at mi ma
      have t1 : decide (s > 0) = false := decide_eq_false hs
      have C1 := Lib.hid c1
      have C2 := Lib.hid c2
      have G1 := Lib.hid g1
      have G2 := Lib.hid g2
      have MI := Lib.hid mi
      have MA := Lib.hid ma
      clear c1 c2 g1 g2 mi ma
      go_enter Tryz.func10, Tryz.ntmps10
      go_wp2_with (first
        | (go_at_call 13; (with_reducible refine (KN.out _ B.out).mono ?_); rintro e wx ⟨rfl, q⟩; replace B := Lib.hid (B.out.trans (q.mono B.out.size)); clear q)
        | (go_at_call 18; (with_reducible refine (FT.out _ B.out).mono ?_); rintro e wx ⟨rfl, q⟩; replace B := Lib.hid (B.out.trans (q.mono B.out.size)); clear q)
        | (go_at_call 49; (with_reducible refine (C1.out _ B.out).mono ?_); rintro e wx ⟨rfl, q⟩; replace B := Lib.hid (B.out.trans (q.mono B.out.size)); clear q)
        | (go_at_call 50; (with_reducible refine (C2.out _ B.out).mono ?_); rintro e wx ⟨rfl, q⟩; replace B := Lib.hid (B.out.trans (q.mono B.out.size)); clear q)
        | (go_at_call 51; (with_reducible refine (G1.out _).mono ?_); rintro e wx ⟨rfl, rfl⟩)
        | (go_at_call 52; (with_reducible refine (G2.out _).mono ?_); rintro e wx ⟨rfl, rfl⟩)
        | (go_at_call 53; (with_reducible refine (MI.out _ B.out).mono ?_); rintro e wx ⟨rfl, q⟩; replace B := Lib.hid (B.out.trans (q.mono B.out.size)); clear q)
        | (go_at_call 54; (with_reducible refine (MA.out _ B.out).mono ?_); rintro e wx ⟨rfl, q⟩; replace B := Lib.hid (B.out.trans (q.mono B.out.size)); clear q)
        | fail "arm")
      go_ret
      exact ⟨rfl, B.out⟩

end Go.Proofs.YtjkbgjjfchhpfaaGreatDoor
