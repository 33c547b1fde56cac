/- RationalAdds: for any three texts: the walk: the call returns true. Conditions: those of the given row alone. -/
import Derived.Test.YtjkbgjjfchhpfaaGreatDoorRfF
import Derived.Test.YtjkbgjjfchhpfaaGreatDoorRatG
import Derived.Deep.RegionHeld3
namespace Go.Proofs.YtjkbgjjfchhpfaaGreatDoor
open Go.RowKit

set_option maxRecDepth 100000 in
set_option maxHeartbeats 8000000 in
theorem adds_walk (Ta Tb Tc : ByteArray) (w : World) (he : Env w) :
    Calls Tryz.prog 9 #[.string Ta, .string Tb, .string Tc] w fun e w' => e = .returned (.bool true) ∧ Below w.heap.size w w' := by
  have kn := fun W (hW : Below w.heap.size w W) => rknown_any W (he.below hW)
  have ft := fun W (hW : Below w.heap.size w W) => rfits3 Ta Tb Tc W (he.below hW).1
  have KN := Lib.hid kn
  have B := Lib.hid (Below.refl w.heap.size w)
  clear kn
  cases hf : fitsB [Ta, Tb, Tc] with
  | false =>
    rw [hf] at ft
    have FT := Lib.hid ft
    clear ft hf he
    go_enter Tryz.func9, Tryz.ntmps9
    go_wp2_with (first
      | (go_at_call 13; (with_reducible refine (KN.out _ B.out).mono ?_); rintro e wx ⟨rfl, q⟩; replace B := Lib.hid (B.out.trans (q.mono B.out.size)); clear q)
      | (go_at_call 18; (with_reducible refine (FT.out _ B.out).mono ?_); rintro e wx ⟨rfl, q⟩; replace B := Lib.hid (B.out.trans (q.mono B.out.size)); clear q)
      | fail "arm")
    go_ret
    exact ⟨rfl, B.out⟩
  | true =>
    rw [hf] at ft
    have FT := Lib.hid ft
    clear ft
    obtain ⟨fa, fb, fc⟩ := fits_q3 hf
    obtain ⟨a, rfl, sa, za⟩ := fit_q fa
    obtain ⟨b, rfl, sb, zb⟩ := fit_q fb
    obtain ⟨c, rfl, sc, zc⟩ := fit_q fc
    clear hf fa fb fc
    have a1 := fun W (hW : Below w.heap.size w W) => raddR_any a b 80 (by omega) (by omega) sa sb W (he.below hW)
    have a2 := fun W (hW : Below w.heap.size w W) => radd_any a b 80 (by omega) (by omega) sa sb W (he.below hW)
    have b1 := fun W (hW : Below w.heap.size w W) => rsub_any a b 80 (by omega) (by omega) sa sb W (he.below hW)
    have b2 := fun W (hW : Below w.heap.size w W) => rsubR_any a b 80 (by omega) (by omega) sa sb W (he.below hW)
    have n1 := fun W => rneg_any a W (by omega)
    have n2 := fun W => rnegR_any a W (by omega)
    have d1 := fun W => rabs_any a W
    have d2 := fun W => rabsR_any a W (by omega)
    have e1 := fun W (hW : Below w.heap.size w W) => rsum3 a b c sa sb sc W (he.below hW)
    have e2 := fun W (hW : Below w.heap.size w W) => raddR_any (a + b) c 161 (by omega) (by omega) (sa.add sb) (sc.mono (by omega)) W (he.below hW)
    have e3 := fun W => rsum_none W
    have m1 := fun W (hW : Below w.heap.size w W) => rmiddle_any a b 80 (by omega) (by omega) sa sb W (he.below hW)
    have m2 := fun W (hW : Below w.heap.size w W) => rmulR_any (a + b) half 161 (by omega) (by omega) (sa.add sb) (half_sz 161 (by omega)) W (he.below hW)
    rw [k_half] at m2
    generalize canonR ((a + b) * half) = TM at *
    generalize canonR (a + b + c) = TABC at *
    generalize canonR (a + b) = TAB at *
    generalize canonR (a - b) = TD at *
    generalize canonR (-a) = TN at *
    generalize canonR (absQ a) = TQ at *
    generalize canonR a = TA at *
    generalize canonR b = TB at *
    generalize canonR c = TC at *
    clear he sa sb sc za zb zc
    have A1 := Lib.hid a1
    have A2 := Lib.hid a2
    have B1 := Lib.hid b1
    have B2 := Lib.hid b2
    have N1 := Lib.hid n1
    have N2 := Lib.hid n2
    have D1 := Lib.hid d1
    have D2 := Lib.hid d2
    have E1 := Lib.hid e1
    have E2 := Lib.hid e2
    have E3 := Lib.hid e3
    have M1 := Lib.hid m1
    have M2 := Lib.hid m2
    clear a1 a2 b1 b2 n1 n2 d1 d2 e1 e2 e3 m1 m2
    go_enter Tryz.func9, Tryz.ntmps9
    go_wp2_with (first
      | (go_at_call 13; (with_reducible refine (KN.out _ B.out).mono ?_); rintro e wx ⟨rfl, q⟩; replace B := Lib.hid (B.out.trans (q.mono B.out.size)); clear q)
      | (go_at_call 18; (with_reducible refine (FT.out _ B.out).mono ?_); rintro e wx ⟨rfl, q⟩; replace B := Lib.hid (B.out.trans (q.mono B.out.size)); clear q)
      | (go_at_call 40; (with_reducible refine (A1.out _ B.out).mono ?_); rintro e wx ⟨rfl, q⟩; replace B := Lib.hid (B.out.trans (q.mono B.out.size)); clear q)
      | (go_at_call 41; (with_reducible refine (A2.out _ B.out).mono ?_); rintro e wx ⟨rfl, q⟩; replace B := Lib.hid (B.out.trans (q.mono B.out.size)); clear q)
      | (go_at_call 42; (with_reducible refine (B1.out _ B.out).mono ?_); rintro e wx ⟨rfl, q⟩; replace B := Lib.hid (B.out.trans (q.mono B.out.size)); clear q)
      | (go_at_call 43; (with_reducible refine (B2.out _ B.out).mono ?_); rintro e wx ⟨rfl, q⟩; replace B := Lib.hid (B.out.trans (q.mono B.out.size)); clear q)
      | (go_at_call 44; (with_reducible refine (N1.out _).mono ?_); rintro e wx ⟨rfl, q⟩; replace B := Lib.hid (B.out.trans (q.mono B.out.size)); clear q)
      | (go_at_call 45; (with_reducible refine (N2.out _).mono ?_); rintro e wx ⟨rfl, q⟩; replace B := Lib.hid (B.out.trans (q.mono B.out.size)); clear q)
      | (go_at_call 46; (with_reducible refine (D1.out _).mono ?_); rintro e wx ⟨rfl, q⟩; replace B := Lib.hid (B.out.trans (q.mono B.out.size)); clear q)
      | (go_at_call 28; (with_reducible refine (D2.out _).mono ?_); rintro e wx ⟨rfl, q⟩; replace B := Lib.hid (B.out.trans (q.mono B.out.size)); clear q)
      | (go_at_call 47; (with_reducible refine (E1.out _ B.out).mono ?_); rintro e wx ⟨rfl, q⟩; replace B := Lib.hid (B.out.trans (q.mono B.out.size)); clear q)
      | (go_at_call 40; (with_reducible refine (E2.out _ B.out).mono ?_); rintro e wx ⟨rfl, q⟩; replace B := Lib.hid (B.out.trans (q.mono B.out.size)); clear q)
      | (go_at_call 47; (with_reducible refine (E3.out _).mono ?_); rintro e wx ⟨rfl, q⟩; replace B := Lib.hid (B.out.trans (q.mono B.out.size)); clear q)
      | (go_at_call 48; (with_reducible refine (M1.out _ B.out).mono ?_); rintro e wx ⟨rfl, q⟩; replace B := Lib.hid (B.out.trans (q.mono B.out.size)); clear q)
      | (go_at_call 23; (with_reducible refine (M2.out _ B.out).mono ?_); rintro e wx ⟨rfl, q⟩; replace B := Lib.hid (B.out.trans (q.mono B.out.size)); clear q)
      | fail "arm")
    go_ret
    exact ⟨rfl, B.out⟩

end Go.Proofs.YtjkbgjjfchhpfaaGreatDoor
