/- The walks of klipperef02.Root and of rational.Root, where there is a root and where there is none. -/
import Derived.Test.YtajkeoapfkkjbaaGreatDoorRfF
import Derived.Test.YtajkeoapfkkjbaaGreatDoorRatE
import Derived.Test.YtajkeoapfkkjbaaGreatDoorGRefB
import Derived.Test.YtajkeoapfkkjbaaGreatDoorGInt
namespace Go.Proofs.YtajkeoapfkkjbaaGreatDoor
set_option linter.all false
open Go.RowKit

theorem has_root (n : Nat) : ∃ r, IsRoot n r := by
  induction n with
  | zero => exact ⟨0, by simp, by simp⟩
  | succ n ih =>
    obtain ⟨r, h1, h2⟩ := ih
    by_cases h : (r + 1) * (r + 1) ≤ n + 1
    · refine ⟨r + 1, h, ?_⟩
      have : (r + 1) * (r + 1) < (r + 1 + 1) * (r + 1 + 1) := Nat.mul_lt_mul'' (by omega) (by omega)
      omega
    · exact ⟨r, by omega, by omega⟩

/-- The integers below the roots of a number's parts, and what the walks want of them. -/
structure RootP (q : Rat) (a b : Nat) (N : Nat) : Prop where
  pos : 0 ≤ q.num
  ra : IsRoot q.num.natAbs a
  rb : IsRoot q.den b
  sz : Sz q N

theorem RootP.sa {q : Rat} {a b N : Nat} (h : RootP q a b N) (h0 : 0 < N) : (canon (a : Int)).size ≤ N + 1 := canon_size_lt _ N (by rw [Int.natAbs_natCast]; exact root_small h.ra h.sz.1) h0
theorem RootP.sb {q : Rat} {a b N : Nat} (h : RootP q a b N) (h0 : 0 < N) : (canon (b : Int)).size ≤ N + 1 := canon_size_lt _ N (by rw [Int.natAbs_natCast]; exact root_small h.rb h.sz.2) h0
theorem RootP.bpos {q : Rat} {a b N : Nat} (h : RootP q a b N) : 0 < b := by
  have h1 := h.rb.2
  have h2 := q.den_nz
  rcases Nat.eq_zero_or_pos b with h3 | h3
  · rw [h3] at h1; omega
  · exact h3

theorem coprime_root {q : Rat} {a b : Nat} (ha : q.num = (a : Int) * (a : Int)) (hb : q.den = b * b) : a.gcd b = 1 := by
  have hr : q.num.natAbs.gcd q.den = 1 := q.reduced
  have hna : q.num.natAbs = a * a := by rw [ha, Int.natAbs_mul]; rfl
  rw [hna, hb] at hr
  have h1 : a.gcd b ∣ (a * a).gcd (b * b) := Nat.dvd_gcd (Nat.dvd_trans (Nat.gcd_dvd_left _ _) (Nat.dvd_mul_left _ _)) (Nat.dvd_trans (Nat.gcd_dvd_right _ _) (Nat.dvd_mul_left _ _))
  rw [hr] at h1
  exact Nat.dvd_one.1 h1

theorem root_text {q : Rat} {a b : Nat} (ha : q.num = (a : Int) * (a : Int)) (hb : q.den = b * b) (h0 : 0 < b) : canonR (mkRat (a : Int) b) = ratT (a : Int) b := by
  rw [canonR_mk _ _ (by omega), Int.natAbs_natCast, coprime_root ha hb]
  simp

theorem neg_sign {z : Int} (h : z < 0) : decide (z.sign < 0) = true := by rw [Int.sign_eq_neg_one_of_neg h]; rfl

theorem square_parts (q : Rat) : (q * q).num = q.num * q.num ∧ (q * q).den = q.den * q.den := by
  have hr : q.num.natAbs.gcd q.den = 1 := q.reduced
  have hc : Nat.Coprime (q.num * q.num).natAbs (q.den * q.den) := by
    rw [Int.natAbs_mul]
    have h1 : Nat.Coprime (q.num.natAbs * q.num.natAbs) q.den := Nat.Coprime.mul_left hr hr
    exact Nat.Coprime.mul_right h1 h1
  have e : q * q = ⟨q.num * q.num, q.den * q.den, Nat.mul_ne_zero q.den_nz q.den_nz, hc⟩ := by
    rw [rmul_eq]
    exact Rat.mkRat_self ⟨q.num * q.num, q.den * q.den, Nat.mul_ne_zero q.den_nz q.den_nz, hc⟩
  rw [e]
  exact ⟨rfl, rfl⟩

theorem abs_text (q : Rat) : canonR (absQ q) = ratT ((q.num.natAbs : Nat) : Int) q.den := by
  unfold absQ
  by_cases h : q.num < 0
  · rw [if_pos h]
    unfold canonR
    rw [Rat.neg_num, Rat.neg_den, show -q.num = ((q.num.natAbs : Nat) : Int) by omega]
  · rw [if_neg h]
    unfold canonR
    rw [show q.num = ((q.num.natAbs : Nat) : Int) by omega]
    rw [Int.natAbs_natCast]

end Go.Proofs.YtajkeoapfkkjbaaGreatDoor
