/- Plain mathematics of directions: angles, classes of folds, bearings. No program in sight. -/
import Derived.Test.YtnallacamijkeaaGreatDoorGLinP
import Derived.Test.YtnallacamijkeaaGreatDoorRatH
import Derived.Test.YtnallacamijkeaaGreatDoorRfI
namespace Go.Proofs.YtnallacamijkeaaGreatDoor
set_option linter.all false
theorem cmpR_int (a b : Int) : cmpR (a : Rat) (b : Rat) = (a - b).sign := by
 unfold cmpR
 rw [Rat.num_intCast, Rat.num_intCast, Rat.den_intCast, Rat.den_intCast]
 congr 1
 omega

theorem cast_pos {m : Int} (h : 0 < m) : (0 : Rat) < (m : Rat) := by exact_mod_cast h
theorem cast_ne {m : Int} (h : m ≠ 0) : (m : Rat) ≠ 0 := fun e => h (by exact_mod_cast e)

theorem cmpR_quot (n m k : Int) (hm : 0 < m) : cmpR ((n : Rat) / (m : Rat)) (k : Rat) = (n - k * m).sign := by
 have h := cmpR_mul ((n : Rat) / (m : Rat)) (k : Rat) (m : Rat)
 have hne := cast_ne (show m ≠ 0 by omega)
 have e1 : (n : Rat) / (m : Rat) * (m : Rat) = (n : Rat) := by grind
 have e2 : (k : Rat) * (m : Rat) = ((k * m : Int) : Rat) := by push_cast; rfl
 rw [e1, e2, cmpR_int, Rat.num_intCast, Int.sign_eq_one_of_pos hm, Int.mul_one] at h
 exact h.symm

def angleR (u v : V3) : Rat := dotR u v * dotR u v / (dotR u u * dotR v v)

theorem rdiv2_eq (x y : Int) (hy : y ≠ 0) : rdiv2 x y = (x : Rat) / (y : Rat) := by
 unfold rdiv2
 rw [Rat.mkRat_eq_div]
 have hyr := cast_ne hy
 by_cases h : y < 0
 ·rw [if_pos h]
  have : ((y.natAbs : Nat) : Rat) = -(y : Rat) := by
   have : ((y.natAbs : Nat) : Int) = -y := by omega
   have h2 : (((y.natAbs : Nat) : Int) : Rat) = ((-y : Int) : Rat) := by rw [this]
   push_cast at h2
   exact h2
  rw [this]
  push_cast
  grind
 ·rw [if_neg h]
  have : ((y.natAbs : Nat) : Rat) = (y : Rat) := by
   have : ((y.natAbs : Nat) : Int) = y := by omega
   have h2 : (((y.natAbs : Nat) : Int) : Rat) = ((y : Int) : Rat) := by rw [this]
   exact h2
  rw [this]

theorem angle_ofI (a b : I3) (d e : Nat) (hd : 0 < d) (he : 0 < e) (ha : a.nz) (hb : b.nz) :
  angleR (ofI a d) (ofI b e) = rdiv2 (dotI a b * dotI a b) (dotI a a * dotI b b) := by
 have pa := dot_self_pos ha
 have pb := dot_self_pos hb
 have hp : dotI a a * dotI b b ≠ 0 := Int.mul_ne_zero (by omega) (by omega)
 rw [rdiv2_eq _ _ hp]
 unfold angleR
 rw [dot_ofI, dot_ofI, dot_ofI]
 have h1 := unitR_pos hd
 have h2 := unitR_pos he
 have h3 := cast_ne (show dotI a a ≠ 0 by omega)
 have h4 := cast_ne (show dotI b b ≠ 0 by omega)
 generalize unitR d = s at *
 generalize unitR e = t at *
 push_cast
 have h5 : s ≠ 0 := by grind
 have h6 : t ≠ 0 := by grind
 grind

def classR (s : Int) (f : Rat) : Int := if 0 < s ∧ 0 < cmpR f 1 then 1 else if 0 < s then 2 else if cmpR f 1 < 0 then 3 else if cmpR f 3 < 0 then 4 else 5
def classI (d sq : Int) : Int := if 0 < d ∧ sq < 4 * d * d then 1 else if 0 < d then 2 else if 4 * d * d < sq then 3 else if 4 * d * d < 3 * sq then 4 else 5

theorem sign_pos_iff (n : Int) : 0 < n.sign ↔ 0 < n := by
 rcases Int.lt_trichotomy n 0 with h | h | h
 ·rw [Int.sign_eq_neg_one_of_neg h]; omega
 ·subst h; simp
 ·rw [Int.sign_eq_one_of_pos h]; omega
theorem sign_neg_iff (n : Int) : n.sign < 0 ↔ n < 0 := by
 rcases Int.lt_trichotomy n 0 with h | h | h
 ·rw [Int.sign_eq_neg_one_of_neg h]; omega
 ·subst h; simp
 ·rw [Int.sign_eq_one_of_pos h]; omega

theorem class_ofI (a b : I3) (d e : Nat) (hd : 0 < d) (he : 0 < e) (ha : a.nz) (hb : b.nz) :
  classR (dotR (ofI a d) (ofI b e)).num.sign (((4 : Int) : Rat) * angleR (ofI a d) (ofI b e)) = classI (dotI a b) (dotI a a * dotI b b) := by
 have pa := dot_self_pos ha
 have pb := dot_self_pos hb
 have pp : 0 < dotI a a * dotI b b := Int.mul_pos pa pb
 rw [angle_ofI a b d e hd he ha hb, rdiv2_eq _ _ (by omega), dot_ofI, sgn_scale _ (unit2_pos hd he)]
 generalize dotI a b = p at *
 generalize dotI a a * dotI b b = q at *
 have e1 : ((4 : Int) : Rat) * (((p * p : Int) : Rat) / (q : Rat)) = ((4 * p * p : Int) : Rat) / (q : Rat) := by
  have := cast_ne (show q ≠ 0 by omega)
  push_cast
  grind
 rw [e1]
 unfold classR classI
 have c1 := cmpR_quot (4 * p * p) q 1 pp
 have c3 := cmpR_quot (4 * p * p) q 3 pp
 rw [show ((1 : Int) : Rat) = 1 from rfl] at c1
 rw [show ((3 : Int) : Rat) = 3 from rfl] at c3
 rw [c1, c3]
 simp only [sign_pos_iff, sign_neg_iff]
 have i1 : 0 < 4 * p * p - 1 * q ↔ q < 4 * p * p := by omega
 have i2 : 4 * p * p - 1 * q < 0 ↔ 4 * p * p < q := by omega
 have i3 : 4 * p * p - 3 * q < 0 ↔ 4 * p * p < 3 * q := by omega
 simp only [i1, i2, i3]

def bearR (v : V3) : Rat × Rat := if upR v then (v.x * (-1), v.y * (-1)) else (v.x, v.y)

theorem bear_mult (v : I3) (t : Rat) (ht : 0 < t) (hv : v.nz) : ∃ s : Rat, 0 < s ∧ bearR ⟨t * v.x, t * v.y, t * v.z⟩ = (s * ((downI v).x : Rat), s * ((downI v).y : Rat)) := by
 obtain ⟨g1, g2, g3⟩ := gcd3_dvd v.x v.y v.z
 have hgp := gcd3_pos hv
 have hgr : (0 : Rat) < ((gcd3 v.x v.y v.z : Nat) : Rat) := by exact_mod_cast hgp
 refine ⟨t * ((gcd3 v.x v.y v.z : Nat) : Rat), Rat.mul_pos ht hgr, ?_⟩
 unfold bearR
 rw [upR_scale v.x v.y v.z t ht]
 unfold downI I3.g
 simp only
 obtain ⟨c1, h1⟩ := g1
 obtain ⟨c2, h2⟩ := g2
 generalize gcd3 v.x v.y v.z = g at *
 have hg0 : (g : Int) ≠ 0 := by omega
 generalize upI v.x v.y v.z = u
 rw [h1, h2]
 cases u with
 | false =>
  rw [if_neg Bool.false_ne_true, show turnI false (g : Int) = (g : Int) from rfl, Int.mul_ediv_cancel_left _ hg0, Int.mul_ediv_cancel_left _ hg0]
  push_cast
  congr 1 <;> grind
 | true =>
  rw [if_pos rfl]
  have n1 : ∀ c : Int, (g : Int) * c / turnI true (g : Int) = -c := fun c => by
   rw [show turnI true (g : Int) = -(g : Int) from rfl, show (g : Int) * c = (-(g : Int)) * (-c) by rw [Int.neg_mul_neg], Int.mul_ediv_cancel_left _ (by omega)]
  rw [n1, n1]
  push_cast
  congr 1 <;> grind

end Go.Proofs.YtnallacamijkeaaGreatDoor
