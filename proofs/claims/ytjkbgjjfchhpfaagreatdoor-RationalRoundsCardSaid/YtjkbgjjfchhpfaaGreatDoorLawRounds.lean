/- RationalRounds: for any text and any int: the walk: the call returns true. Conditions: those of the given row alone. -/
import Derived.Test.YtjkbgjjfchhpfaaGreatDoorRfF
import Derived.Test.YtjkbgjjfchhpfaaGreatDoorRatG
import Derived.Deep.RegionHeld3
namespace Go.Proofs.YtjkbgjjfchhpfaaGreatDoor
open Go.RowKit

set_option maxRecDepth 100000 in
set_option maxHeartbeats 8000000 in
theorem rounds_walk (Ta : ByteArray) (g : Int) (g0 : -9223372036854775808 ≤ g) (g1 : g ≤ 9223372036854775807) (w : World) (he : Env w) :
    Calls Tryz.prog 7 #[.string Ta, .int .i64 g] w fun e w' => e = .returned (.bool true) ∧ Below w.heap.size w w' := by
  have kn := fun W (hW : Below w.heap.size w W) => rknown_any W (he.below hW)
  have ft := fun W (hW : Below w.heap.size w W) => rfits1 Ta W (he.below hW).1
  have KN := Lib.hid kn
  have B := Lib.hid (Below.refl w.heap.size w)
  clear kn
  cases hf : fitsB [Ta] with
  | false =>
    rw [hf] at ft
    have FT := Lib.hid ft
    clear ft hf he g0 g1
    go_enter Tryz.func7, Tryz.ntmps7
    go_wp2_with (first
      | (go_at_call 13; (with_reducible refine (KN.out _ B.out).mono ?_); rintro e wx ⟨rfl, q⟩; replace B := Lib.hid (B.out.trans (q.mono B.out.size)); clear q)
      | (go_at_call 18; (with_reducible refine (FT.out _ B.out).mono ?_); rintro e wx ⟨rfl, q⟩; replace B := Lib.hid (B.out.trans (q.mono B.out.size)); clear q)
      | fail "arm")
    go_ret
    exact ⟨rfl, B.out⟩
  | true =>
    rw [hf] at ft
    have FT := Lib.hid ft
    clear ft
    have fa := fits_q1 hf
    obtain ⟨a, rfl, sa, za⟩ := fit_q fa
    clear hf fa
    have f1 := fun W (hW : Below w.heap.size w W) => rfloor_any a 80 (by omega) (by omega) sa W (he.below hW)
    have f2 := fun W (hW : Below w.heap.size w W) => rfloorR_any a 80 (by omega) (by omega) sa W (he.below hW)
    by_cases hg : 1 ≤ g ∧ g ≤ 1000000
    · obtain ⟨gn, rfl⟩ : ∃ gn : Nat, g = (gn : Int) := ⟨g.toNat, by omega⟩
      have t1 : decide ((gn : Int) < 1) = false := decide_eq_false (by omega)
      have t2 : decide ((gn : Int) > 1000000) = false := decide_eq_false (by omega)
      have r1 := fun W (hW : Below w.heap.size w W) => rround_any a gn 80 (by omega) (by omega) sa (by omega) (by omega) W (he.below hW)
      have r2 := fun W (hW : Below w.heap.size w W) => rroundR_any a gn 80 (by omega) (by omega) sa (by omega) (by omega) W (he.below hW)
      generalize canonR (mkRat (roundN a gn) gn) = TR at *
      generalize canon (a.num / (a.den : Int)) = TF at *
      generalize canonR a = TA at *
      have gl : (gn : Int) ≤ 1000000 := by omega
      have g0' : 0 ≤ (gn : Int) := by omega
      generalize (gn : Int) = gi at *
      clear he sa za hg g0 g1
      have F1 := Lib.hid f1
      have F2 := Lib.hid f2
      have R1 := Lib.hid r1
      have R2 := Lib.hid r2
      clear f1 f2 r1 r2
      go_enter Tryz.func7, Tryz.ntmps7
      go_wp2_with (first
        | (go_at_call 13; (with_reducible refine (KN.out _ B.out).mono ?_); rintro e wx ⟨rfl, q⟩; replace B := Lib.hid (B.out.trans (q.mono B.out.size)); clear q)
        | (go_at_call 18; (with_reducible refine (FT.out _ B.out).mono ?_); rintro e wx ⟨rfl, q⟩; replace B := Lib.hid (B.out.trans (q.mono B.out.size)); clear q)
        | (go_at_call 33; (with_reducible refine (F1.out _ B.out).mono ?_); rintro e wx ⟨rfl, q⟩; replace B := Lib.hid (B.out.trans (q.mono B.out.size)); clear q)
        | (go_at_call 34; (with_reducible refine (F2.out _ B.out).mono ?_); rintro e wx ⟨rfl, q⟩; replace B := Lib.hid (B.out.trans (q.mono B.out.size)); clear q)
        | (go_at_call 35; (with_reducible refine (R1.out _ B.out).mono ?_); rintro e wx ⟨rfl, q⟩; replace B := Lib.hid (B.out.trans (q.mono B.out.size)); clear q)
        | (go_at_call 36; (with_reducible refine (R2.out _ B.out).mono ?_); rintro e wx ⟨rfl, q⟩; replace B := Lib.hid (B.out.trans (q.mono B.out.size)); clear q)
        | fail "arm")
      go_ret
      exact ⟨rfl, B.out⟩
    · have r1 := fun W => rround_off (canonR a) g g0 g1 (by omega) W
      have hcase : decide (g < 1) = true ∨ decide (g < 1) = false ∧ decide (g > 1000000) = true := by
        by_cases h : g < 1
        · exact .inl (decide_eq_true h)
        · exact .inr ⟨decide_eq_false h, decide_eq_true (by omega)⟩
      generalize canon (a.num / (a.den : Int)) = TF at *
      generalize canonR a = TA at *
      clear he sa za hg g0 g1
      have F1 := Lib.hid f1
      have F2 := Lib.hid f2
      have R1 := Lib.hid r1
      clear f1 f2 r1
      rcases hcase with t1 | ⟨t1, t2⟩
      · go_enter Tryz.func7, Tryz.ntmps7
        go_wp2_with (first
          | (go_at_call 13; (with_reducible refine (KN.out _ B.out).mono ?_); rintro e wx ⟨rfl, q⟩; replace B := Lib.hid (B.out.trans (q.mono B.out.size)); clear q)
          | (go_at_call 18; (with_reducible refine (FT.out _ B.out).mono ?_); rintro e wx ⟨rfl, q⟩; replace B := Lib.hid (B.out.trans (q.mono B.out.size)); clear q)
          | (go_at_call 33; (with_reducible refine (F1.out _ B.out).mono ?_); rintro e wx ⟨rfl, q⟩; replace B := Lib.hid (B.out.trans (q.mono B.out.size)); clear q)
          | (go_at_call 34; (with_reducible refine (F2.out _ B.out).mono ?_); rintro e wx ⟨rfl, q⟩; replace B := Lib.hid (B.out.trans (q.mono B.out.size)); clear q)
          | (go_at_call 35; (with_reducible refine (R1.out _).mono ?_); rintro e wx ⟨rfl, rfl⟩)
          | fail "arm")
        go_ret
        exact ⟨rfl, B.out⟩
      · go_enter Tryz.func7, Tryz.ntmps7
        go_wp2_with (first
          | (go_at_call 13; (with_reducible refine (KN.out _ B.out).mono ?_); rintro e wx ⟨rfl, q⟩; replace B := Lib.hid (B.out.trans (q.mono B.out.size)); clear q)
          | (go_at_call 18; (with_reducible refine (FT.out _ B.out).mono ?_); rintro e wx ⟨rfl, q⟩; replace B := Lib.hid (B.out.trans (q.mono B.out.size)); clear q)
          | (go_at_call 33; (with_reducible refine (F1.out _ B.out).mono ?_); rintro e wx ⟨rfl, q⟩; replace B := Lib.hid (B.out.trans (q.mono B.out.size)); clear q)
          | (go_at_call 34; (with_reducible refine (F2.out _ B.out).mono ?_); rintro e wx ⟨rfl, q⟩; replace B := Lib.hid (B.out.trans (q.mono B.out.size)); clear q)
          | (go_at_call 35; (with_reducible refine (R1.out _).mono ?_); rintro e wx ⟨rfl, rfl⟩)
          | fail "arm")
        go_ret
        exact ⟨rfl, B.out⟩

end Go.Proofs.YtjkbgjjfchhpfaaGreatDoor
