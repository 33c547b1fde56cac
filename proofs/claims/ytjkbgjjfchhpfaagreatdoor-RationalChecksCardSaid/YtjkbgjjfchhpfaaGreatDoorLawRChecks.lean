/- RationalChecks: for any text: the walk: the call returns true. Conditions: those of the given row alone. -/
import Derived.Test.YtjkbgjjfchhpfaaGreatDoorRfH
import Derived.Test.YtjkbgjjfchhpfaaGreatDoorRatG
import Derived.Deep.RegionHeld3
namespace Go.Proofs.YtjkbgjjfchhpfaaGreatDoor
open Go.RowKit

set_option maxRecDepth 100000 in
set_option maxHeartbeats 8000000 in
theorem checks_walk (T : ByteArray) (w : World) (he : Env w) :
    Calls Tryz.prog 12 #[.string T] w fun e w' => e = .returned (.bool true) ∧ Below w.heap.size w w' := by
  have kn := fun W (hW : Below w.heap.size w W) => rknown_any W (he.below hW)
  have KN := Lib.hid kn
  have B := Lib.hid (Below.refl w.heap.size w)
  clear kn
  by_cases hT : T.size ≤ 410
  · have t0 : decide ((T.size : Int) > 410) = false := decide_eq_false (by omega)
    have rq := fun W (hW : Below w.heap.size w W) => rightR_any T W (he.below hW).1 (by omega)
    have ck := fun W (hW : Below w.heap.size w W) => rcheck_any T W (he.below hW) (by omega)
    cases hr : rightQ T with
    | false =>
      rw [hr] at rq ck
      rw [if_neg (by simp)] at ck
      have RQ := Lib.hid rq
      have CK := Lib.hid ck
      clear rq ck hr he
      go_enter Tryz.func12, Tryz.ntmps12
      go_wp2_with (first
        | (go_at_call 13; (with_reducible refine (KN.out _ B.out).mono ?_); rintro e wx ⟨rfl, q⟩; replace B := Lib.hid (B.out.trans (q.mono B.out.size)); clear q)
        | (go_at_call 17; (with_reducible refine (RQ.out _ B.out).mono ?_); rintro e wx ⟨rfl, q⟩; replace B := Lib.hid (B.out.trans (q.mono B.out.size)); clear q)
        | (go_at_call 56; (with_reducible refine (CK.out _ B.out).mono ?_); rintro e wx ⟨rfl, q⟩; replace B := Lib.hid (B.out.trans (q.mono B.out.size)); clear q)
        | fail "arm")
      go_ret
      exact ⟨rfl, B.out⟩
    | true =>
      rw [hr] at rq ck
      rw [if_pos rfl] at ck
      obtain ⟨q, rfl, _, _⟩ := rightQ_of hr
      have RQ := Lib.hid rq
      have CK := Lib.hid ck
      have p1 := fun W => partsR_any q.num q.den W (by have : (ratT q.num q.den).size = (canonR q).size := rfl; omega)
      have p2 := fun W (hW : Below w.heap.size w W) => rparts_any q.num q.den W (he.below hW).2 (by have : (ratT q.num q.den).size = (canonR q).size := rfl; omega)
      rw [show ratT q.num q.den = canonR q from rfl] at p1 p2
      have sm := fun W (hW : Below w.heap.size w W) => rsmall_any q W (he.below hW) (by omega)
      have tm := fun W => trimMinus q.num W
      have P1 := Lib.hid p1
      have P2 := Lib.hid p2
      have TM := Lib.hid tm
      clear rq ck hr p1 p2 tm
      by_cases hb : sml q = true
      · have hb2 := hb
        unfold sml at hb2
        rw [Bool.and_eq_true] at hb2
        have m1 : (mag q.num).size ≤ 18 := of_decide_eq_true hb2.1
        have m2 : (canon (q.den : Int)).size ≤ 18 := of_decide_eq_true hb2.2
        have t1 : decide (((mag q.num).size : Int) ≤ 18) = true := decide_eq_true (by omega)
        have t2 : decide (((canon (q.den : Int)).size : Int) ≤ 18) = true := decide_eq_true (by omega)
        have b1 : q.num.natAbs < 10 ^ 18 := dec_lt_pow _ _ m1
        have b2 : q.den < 10 ^ 18 := by
          have h3 := m2
          rw [canon_nat] at h3
          exact dec_lt_pow _ _ h3
        rw [hb] at sm
        simp only [if_true] at sm
        have o1 := fun W (hW : Below w.heap.size w W) => ofR_any q.num (by omega) (by omega) W (he.below hW).1
        have o2 := fun W (hW : Below w.heap.size w W) => ofR_any (q.den : Int) (by omega) (by omega) W (he.below hW).1
        clear hb hb2 m1 m2 b1 b2 he
        generalize canonR q = T at *
        generalize mag q.num = M at *
        generalize canon q.num = CN at *
        generalize canon (q.den : Int) = CD at *
        generalize q.num = n at *
        generalize (q.den : Int) = d at *
        have SM := Lib.hid sm
        have O1 := Lib.hid o1
        have O2 := Lib.hid o2
        clear sm o1 o2
        go_enter Tryz.func12, Tryz.ntmps12
        go_wp2_with (first
          | (go_at_call 13; (with_reducible refine (KN.out _ B.out).mono ?_); rintro e wx ⟨rfl, q⟩; replace B := Lib.hid (B.out.trans (q.mono B.out.size)); clear q)
          | (go_at_call 17; (with_reducible refine (RQ.out _ B.out).mono ?_); rintro e wx ⟨rfl, q⟩; replace B := Lib.hid (B.out.trans (q.mono B.out.size)); clear q)
          | (go_at_call 56; (with_reducible refine (CK.out _ B.out).mono ?_); rintro e wx ⟨rfl, q⟩; replace B := Lib.hid (B.out.trans (q.mono B.out.size)); clear q)
          | (go_at_call 57; (with_reducible refine (P1.out _).mono ?_); rintro e wx ⟨rfl, q⟩; replace B := Lib.hid (B.out.trans (q.below _)); clear q)
          | (go_at_call 58; (with_reducible refine (P2.out _ B.out).mono ?_); rintro e wx ⟨rfl, q⟩; replace B := Lib.hid (B.out.trans (q.below _)); clear q)
          | (go_at_call 59; (with_reducible refine (SM.out _ B.out).mono ?_); rintro e wx ⟨rfl, q⟩; replace B := Lib.hid (B.out.trans (q.mono B.out.size)); clear q)
          | (go_at_call 60; (with_reducible refine (TM.out _).mono ?_); rintro e wx ⟨rfl, rfl⟩)
          | (go_at_call 25; (with_reducible refine (O1.out _ B.out).mono ?_); rintro e wx ⟨rfl, q⟩; replace B := Lib.hid (B.out.trans (q.mono B.out.size)); clear q)
          | (go_at_call 25; (with_reducible refine (O2.out _ B.out).mono ?_); rintro e wx ⟨rfl, q⟩; replace B := Lib.hid (B.out.trans (q.mono B.out.size)); clear q)
          | fail "arm")
        go_ret
        exact ⟨rfl, B.out⟩
      · have hb1 : sml q = false := by cases h : sml q with
          | false => rfl
          | true => exact absurd h hb
        rw [hb1] at sm
        simp only [Bool.false_eq_true, if_false] at sm
        have hcase : decide (((mag q.num).size : Int) ≤ 18) = false ∨ decide (((mag q.num).size : Int) ≤ 18) = true ∧ decide (((canon (q.den : Int)).size : Int) ≤ 18) = false := by
          unfold sml at hb1
          rw [Bool.and_eq_false_iff] at hb1
          by_cases h : (mag q.num).size ≤ 18
          · refine .inr ⟨decide_eq_true (by omega), ?_⟩
            rcases hb1 with h1 | h1
            · exact absurd h (of_decide_eq_false h1)
            · have := of_decide_eq_false h1
              exact decide_eq_false (by omega)
          · exact .inl (decide_eq_false (by omega))
        clear hb hb1 he
        generalize canonR q = T at *
        generalize mag q.num = M at *
        generalize canon q.num = CN at *
        generalize canon (q.den : Int) = CD at *
        have SM := Lib.hid sm
        clear sm
        rcases hcase with t1 | ⟨t1, t2⟩
        · go_enter Tryz.func12, Tryz.ntmps12
          go_wp2_with (first
            | (go_at_call 13; (with_reducible refine (KN.out _ B.out).mono ?_); rintro e wx ⟨rfl, q⟩; replace B := Lib.hid (B.out.trans (q.mono B.out.size)); clear q)
            | (go_at_call 17; (with_reducible refine (RQ.out _ B.out).mono ?_); rintro e wx ⟨rfl, q⟩; replace B := Lib.hid (B.out.trans (q.mono B.out.size)); clear q)
            | (go_at_call 56; (with_reducible refine (CK.out _ B.out).mono ?_); rintro e wx ⟨rfl, q⟩; replace B := Lib.hid (B.out.trans (q.mono B.out.size)); clear q)
            | (go_at_call 57; (with_reducible refine (P1.out _).mono ?_); rintro e wx ⟨rfl, q⟩; replace B := Lib.hid (B.out.trans (q.below _)); clear q)
            | (go_at_call 58; (with_reducible refine (P2.out _ B.out).mono ?_); rintro e wx ⟨rfl, q⟩; replace B := Lib.hid (B.out.trans (q.below _)); clear q)
            | (go_at_call 59; (with_reducible refine (SM.out _ B.out).mono ?_); rintro e wx ⟨rfl, q⟩; replace B := Lib.hid (B.out.trans (q.mono B.out.size)); clear q)
            | (go_at_call 60; (with_reducible refine (TM.out _).mono ?_); rintro e wx ⟨rfl, rfl⟩)
            | fail "arm")
          go_ret
          exact ⟨rfl, B.out⟩
        · go_enter Tryz.func12, Tryz.ntmps12
          go_wp2_with (first
            | (go_at_call 13; (with_reducible refine (KN.out _ B.out).mono ?_); rintro e wx ⟨rfl, q⟩; replace B := Lib.hid (B.out.trans (q.mono B.out.size)); clear q)
            | (go_at_call 17; (with_reducible refine (RQ.out _ B.out).mono ?_); rintro e wx ⟨rfl, q⟩; replace B := Lib.hid (B.out.trans (q.mono B.out.size)); clear q)
            | (go_at_call 56; (with_reducible refine (CK.out _ B.out).mono ?_); rintro e wx ⟨rfl, q⟩; replace B := Lib.hid (B.out.trans (q.mono B.out.size)); clear q)
            | (go_at_call 57; (with_reducible refine (P1.out _).mono ?_); rintro e wx ⟨rfl, q⟩; replace B := Lib.hid (B.out.trans (q.below _)); clear q)
            | (go_at_call 58; (with_reducible refine (P2.out _ B.out).mono ?_); rintro e wx ⟨rfl, q⟩; replace B := Lib.hid (B.out.trans (q.below _)); clear q)
            | (go_at_call 59; (with_reducible refine (SM.out _ B.out).mono ?_); rintro e wx ⟨rfl, q⟩; replace B := Lib.hid (B.out.trans (q.mono B.out.size)); clear q)
            | (go_at_call 60; (with_reducible refine (TM.out _).mono ?_); rintro e wx ⟨rfl, rfl⟩)
            | fail "arm")
          go_ret
          exact ⟨rfl, B.out⟩
  · have t0 : decide ((T.size : Int) > 410) = true := decide_eq_true (by omega)
    clear he
    go_enter Tryz.func12, Tryz.ntmps12
    go_wp2_with (first
      | (go_at_call 13; (with_reducible refine (KN.out _ B.out).mono ?_); rintro e wx ⟨rfl, q⟩; replace B := Lib.hid (B.out.trans (q.mono B.out.size)); clear q)
      | fail "arm")
    go_ret
    exact ⟨rfl, B.out⟩

end Go.Proofs.YtjkbgjjfchhpfaaGreatDoor
