/- Plain mathematics of division: quotient and remainder out of those of the magnitudes. No program in sight. -/
import Derived.Test.YtmkeigfckfkifaaDoorNum
namespace Go.Proofs.YtmkeigfckfkifaaDoor

/-- Quotient and remainder out of those of the magnitudes. -/
theorem div_easy (a b : Int) (hb : b ≠ 0) (hm : 0 ≤ a ∨ a.natAbs % b.natAbs = 0) :
    (if (decide (a < 0) != decide (b < 0)) = true then -((a.natAbs / b.natAbs : Nat) : Int) else ((a.natAbs / b.natAbs : Nat) : Int)) = a / b ∧ ((a.natAbs % b.natAbs : Nat) : Int) = a % b := by
  have hx := Nat.div_add_mod a.natAbs b.natAbs
  have hy : 0 < b.natAbs := by omega
  have hl := Nat.mod_lt a.natAbs hy
  obtain ⟨y, hyb⟩ : ∃ y, b.natAbs = y := ⟨_, rfl⟩
  obtain ⟨x, hxa⟩ : ∃ x, a.natAbs = x := ⟨_, rfl⟩
  rw [hyb, hxa] at hx hl hm
  rw [hyb] at hy
  rw [hyb, hxa]
  have key : a / (y : Int) = (if a < 0 then -((x / y : Nat) : Int) else ((x / y : Nat) : Int)) ∧ a % (y : Int) = ((x % y : Nat) : Int) := by
    refine (Int.ediv_emod_unique (by omega)).2 ⟨?_, by omega, by omega⟩
    generalize x / y = q at *
    generalize x % y = r at *
    have e : (y : Int) * (q : Int) + (r : Int) = (x : Int) := by rw [← hx]; simp
    by_cases ha : a < 0
    · rw [if_pos ha, Int.mul_neg]
      generalize (y : Int) * (q : Int) = p at *
      omega
    · rw [if_neg ha]
      generalize (y : Int) * (q : Int) = p at *
      omega
  by_cases hb0 : b < 0
  · have hbe : b = -(y : Int) := by omega
    rw [hbe, Int.ediv_neg, Int.emod_neg, key.1, key.2]
    have hny : decide (-(y : Int) < 0) = true := by simp; omega
    rw [hny]
    by_cases ha : a < 0 <;> simp [ha]
  · have hbe : b = (y : Int) := by omega
    rw [hbe, key.1, key.2]
    have hny : decide ((y : Int) < 0) = false := by simp
    rw [hny]
    by_cases ha : a < 0 <;> simp [ha]

end Go.Proofs.YtmkeigfckfkifaaDoor
