/- Plain facts about rational numbers: the order's sign under sums, products and halves. No program in sight. -/
import Derived.Test.YtajkeoapfkkjbaaGreatDoorRatC
namespace Go.Proofs.YtajkeoapfkkjbaaGreatDoor
set_option linter.all false
theorem num_mk_sign (n : Int) (d : Nat) (hd : d ≠ 0) : (mkRat n d).num.sign = n.sign := by
  rw [Rat.mkRat_def, dif_neg hd, Rat.normalize_eq]
  show (n / ((n.natAbs.gcd d : Nat) : Int)).sign = n.sign
  have hg : 0 < n.natAbs.gcd d := Nat.gcd_pos_of_pos_right _ (Nat.pos_of_ne_zero hd)
  have hdv : ((n.natAbs.gcd d : Nat) : Int) ∣ n := Int.ofNat_dvd_left.2 (Nat.gcd_dvd_left _ _)
  generalize n.natAbs.gcd d = g at *
  obtain ⟨k, rfl⟩ := hdv
  rw [Int.mul_ediv_cancel_left _ (by omega), Int.sign_mul, Int.sign_eq_one_of_pos (show 0 < (g : Int) by omega), Int.one_mul]

/-- The sign of the order of two numbers. -/
def cmpR (a b : Rat) : Int := (a.num * (b.den : Int) - b.num * (a.den : Int)).sign

theorem cmpR_sub (a b : Rat) : cmpR a b = (a - b).num.sign := by
  have e : a - b = mkRat (a.num * (b.den : Int) - b.num * (a.den : Int)) (a.den * b.den) := by
    rw [Rat.sub_def, Rat.normalize_eq_mkRat]
  rw [e, num_mk_sign _ _ (den_mul_ne a b)]
  rfl

theorem num_mul_sign (a b : Rat) : (a * b).num.sign = a.num.sign * b.num.sign := by
  rw [rmul_eq, num_mk_sign _ _ (den_mul_ne a b), Int.sign_mul]

theorem half_two : half + half = 1 := by decide +kernel

theorem cmpR_add (a b c : Rat) : cmpR (a + c) (b + c) = cmpR a b := by
  rw [cmpR_sub, cmpR_sub, show (a + c) - (b + c) = a - b by grind]
theorem cmpR_mul (a b c : Rat) : cmpR (a * c) (b * c) = cmpR a b * c.num.sign := by
  rw [cmpR_sub, cmpR_sub, show a * c - b * c = (a - b) * c by grind, num_mul_sign]
theorem half_sign : half.num.sign = 1 := by decide
theorem cmpR_mid1 (a b : Rat) : cmpR a ((a + b) * half) = cmpR a b := by
  have h := half_two
  rw [cmpR_sub, cmpR_sub, show a - (a + b) * half = (a - b) * half by grind, num_mul_sign, half_sign, Int.mul_one]
theorem cmpR_mid2 (a b : Rat) : cmpR ((a + b) * half) b = cmpR a b := by
  have h := half_two
  rw [cmpR_sub, cmpR_sub, show (a + b) * half - b = (a - b) * half by grind, num_mul_sign, half_sign, Int.mul_one]
theorem rdiv_mul (a b : Rat) (h : b ≠ 0) : a / b * b = a := by grind
theorem radd_sub (a b : Rat) : a + b - b = a := by grind
theorem cmpR_in (a b : Rat) : -1 ≤ cmpR a b ∧ cmpR a b ≤ 1 := by
  unfold cmpR
  generalize a.num * (b.den : Int) - b.num * (a.den : Int) = z
  rcases Int.lt_trichotomy z 0 with h | h | h
  · rw [Int.sign_eq_neg_one_of_neg h]; omega
  · rw [h]; decide
  · rw [Int.sign_eq_one_of_pos h]; omega

theorem sign_in (z : Int) : -1 ≤ z.sign ∧ z.sign ≤ 1 := by
  rcases Int.lt_trichotomy z 0 with h | h | h
  · rw [Int.sign_eq_neg_one_of_neg h]; omega
  · rw [h]; decide
  · rw [Int.sign_eq_one_of_pos h]; omega

theorem mul_in1 {x y : Int} (hx : -1 ≤ x ∧ x ≤ 1) (hy : -1 ≤ y ∧ y ≤ 1) : -1 ≤ x * y ∧ x * y ≤ 1 := by
  have h : x = -1 ∨ x = 0 ∨ x = 1 := by omega
  rcases h with rfl | rfl | rfl <;> omega

end Go.Proofs.YtajkeoapfkkjbaaGreatDoor
