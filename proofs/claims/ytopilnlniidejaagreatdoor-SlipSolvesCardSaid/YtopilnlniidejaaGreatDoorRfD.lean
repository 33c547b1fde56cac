/- The walks of klipperef02.Neg, Sign, Sub, Compare, Abs, Floor, Nearest, Div and Round, and of rational.Abs, Min, Max, Whole and Round. -/
import Derived.Test.YtopilnlniidejaaGreatDoorRfC
import Derived.Test.YtopilnlniidejaaGreatDoorRatC
import Derived.Test.YtopilnlniidejaaGreatDoorRatD
namespace Go.Proofs.YtopilnlniidejaaGreatDoor
set_option linter.all false
open Go.RowKit

set_option maxHeartbeats 1000000 in
theorem rnegR_any (q : Rat) (w : World) (hs : (canonR q).size ≤ 100000) :
    Calls Tryz.prog 61 #[.string (canonR q)] w fun e w' => e = .returned (.string (canonR (-q))) ∧ Below w.heap.size w w' := by
  have hz := canonR_beq0 q
  have h0 := canonR_pos q
  have hm := first_minus q h0
  have h1 : 1 ≤ (canonR q).size := h0
  by_cases hq : q = 0
  · rw [decide_eq_true hq] at hz
    have HR : Hid (canonR (-q) = canonR q) := by rw [hq]; rfl
    generalize canonR (-q) = R at *
    generalize canonR q = T at *
    clear hm hq
    go_enter Tryz.func61, Tryz.ntmps61
    go_wp2
    go_ret
    rw [HR.out]
    exact ⟨rfl, Below.refl _ _⟩
  · rw [decide_eq_false hq] at hz
    by_cases hn : q.num < 0
    · have HR := Lib.hid (canonR_neg_neg q hn)
      have h45 := hm.1 hn
      generalize canonR (-q) = R at *
      generalize canonR q = T at *
      have hc : ((T[0].toNat : Int) == 45) = true := by rw [h45]; rfl
      clear hm hq hn h45
      go_enter Tryz.func61, Tryz.ntmps61
      go_wp2
      go_ret
      rw [HR.out]
      exact ⟨rfl, Below.refl _ _⟩
    · have hp : 0 < q.num := by
        rcases Int.lt_or_eq_of_le (show 0 ≤ q.num by omega) with h | h
        · exact h
        · exact absurd (Rat.num_eq_zero.1 h.symm) hq
      have HR := Lib.hid (canonR_neg_pos q hp)
      have h45 : ¬ (canonR q)[0].toNat = 45 := fun h => hn (hm.2 h)
      generalize canonR (-q) = R at *
      generalize canonR q = T at *
      have hc : ((T[0].toNat : Int) == 45) = false := beq_eq_false_iff_ne.2 (by omega)
      clear hm hq hn h45 hp
      go_enter Tryz.func61, Tryz.ntmps61
      go_wp2
      go_ret
      rw [HR.out]
      exact ⟨rfl, Below.refl _ _⟩

set_option maxHeartbeats 1000000 in
theorem rsubR_any (a b : Rat) (N : Nat) (hN0 : 0 < N) (hN : N ≤ 1000) (ha : Sz a N) (hb : Sz b N) (w : World) (he : Env w) :
    Calls Tryz.prog 20 #[.string (canonR a), .string (canonR b)] w fun e w' => e = .returned (.string (canonR (a - b))) ∧ Below w.heap.size w w' := by
  have h1 := fun W => rnegR_any b W (by have := hb.text hN0; omega)
  have h2 := fun W (hW : Below w.heap.size w W) => raddR_any a (-b) N hN0 hN ha hb.neg W (he.below hW)
  rw [← Rat.sub_eq_add_neg] at h2
  generalize canonR (a - b) = R at *
  generalize canonR (-b) = T at *
  have H1 := Lib.hid h1
  have H2 := Lib.hid h2
  clear h1 h2 he ha hb
  go_enter Tryz.func20, Tryz.ntmps20
  go_wp2_with (first
    | (go_at_call 61; (with_reducible refine (H1.out _).mono ?_); rintro e w1 ⟨rfl, q⟩; have B1 := Lib.hid q; clear q)
    | (go_at_call 29; (with_reducible refine (H2.out _ B1.out).mono ?_); rintro e w2 ⟨rfl, q⟩; have B2 := Lib.hid (B1.out.trans (q.mono B1.out.size)); clear q)
    | fail "arm")
  go_ret
  exact ⟨rfl, B2.out⟩

end Go.Proofs.YtopilnlniidejaaGreatDoor
