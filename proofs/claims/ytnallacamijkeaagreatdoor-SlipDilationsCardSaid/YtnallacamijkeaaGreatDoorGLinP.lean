/- Plain mathematics of directions: the downward form, dot and cross products, classes. No program in sight. -/
/- Plain mathematics of directions: the downward form of a positive multiple of an integer vector. No program in sight. -/
namespace Go.Proofs.YtnallacamijkeaaGreatDoor
set_option linter.all false
structure V3 where
 x : Rat
 y : Rat
 z : Rat

def V3.scale (v : V3) (k : Rat) : V3 := ⟨v.x * k, v.y * k, v.z * k⟩
def upR (v : V3) : Bool := if v.z = 0 then (if v.y = 0 then decide (v.x.num < 0) else decide (v.y.num < 0)) else decide (0 < v.z.num)
def gcd3 (a b c : Int) : Nat := Nat.gcd (Nat.gcd a.natAbs b.natAbs) c.natAbs
def upI (X Y Z : Int) : Bool := if Z = 0 then (if Y = 0 then decide (X < 0) else decide (Y < 0)) else decide (0 < Z)
def turnI (b : Bool) (g : Int) : Int := if b then -g else g
structure I3 where
 x : Int
 y : Int
 z : Int
def I3.g (v : I3) : Int := turnI (upI v.x v.y v.z) (gcd3 v.x v.y v.z)
def downI (v : I3) : I3 := ⟨v.x / v.g, v.y / v.g, v.z / v.g⟩
def I3.nz (v : I3) : Prop := ¬ (v.x = 0 ∧ v.y = 0 ∧ v.z = 0)

theorem gcd3_dvd (a b c : Int) : (gcd3 a b c : Int) ∣ a ∧ (gcd3 a b c : Int) ∣ b ∧ (gcd3 a b c : Int) ∣ c := by
 unfold gcd3
 refine ⟨?_, ?_, ?_⟩
 ·exact Int.ofNat_dvd_left.2 (Nat.dvd_trans (Nat.gcd_dvd_left _ _) (Nat.gcd_dvd_left _ _))
 ·exact Int.ofNat_dvd_left.2 (Nat.dvd_trans (Nat.gcd_dvd_left _ _) (Nat.gcd_dvd_right _ _))
 ·exact Int.ofNat_dvd_left.2 (Nat.gcd_dvd_right _ _)

theorem num_pos' (q : Rat) : 0 < q.num ↔ 0 < q := by
 rw [Rat.lt_iff]; simp
theorem num_neg' (q : Rat) : q.num < 0 ↔ q < 0 := by
 rw [Rat.lt_iff]; simp

theorem upR_scale (X Y Z : Int) (s : Rat) (hs : 0 < s) : upR ⟨s * X, s * Y, s * Z⟩ = upI X Y Z := by
 have hz : ∀ n : Int, s * (n : Rat) = 0 ↔ n = 0 := by
  intro n
  constructor
  ·intro h
   rcases Rat.mul_eq_zero.1 h with h | h
   ·grind
   ·exact_mod_cast h
  ·intro h; rw [h]; grind
 have hn : ∀ n : Int, (s * (n : Rat)).num < 0 ↔ n < 0 := by
  intro n
  rw [num_neg']
  constructor
  ·intro h
   apply Classical.byContradiction
   intro h2
   have h3 : (0 : Rat) ≤ (n : Rat) := by exact_mod_cast (show (0 : Int) ≤ n by omega)
   have := Rat.mul_nonneg (Rat.le_of_lt hs) h3
   grind
  ·intro h
   have h3 : (n : Rat) < 0 := by exact_mod_cast h
   have := Rat.mul_pos hs (show (0 : Rat) < - (n : Rat) by grind)
   grind
 have hp : ∀ n : Int, 0 < (s * (n : Rat)).num ↔ 0 < n := by
  intro n
  rw [num_pos']
  constructor
  ·intro h
   apply Classical.byContradiction
   intro h2
   have h3 : (0 : Rat) ≤ -(n : Rat) := by
    have : ((n : Int) : Rat) ≤ 0 := by exact_mod_cast (show n ≤ 0 by omega)
    grind
   have := Rat.mul_nonneg (Rat.le_of_lt hs) h3
   grind
  ·intro h
   have h3 : (0 : Rat) < (n : Rat) := by exact_mod_cast h
   exact Rat.mul_pos hs h3
 unfold upR upI
 simp only [hz, hn, hp]

theorem gcd3_pos {a b c : Int} (h : ¬ (a = 0 ∧ b = 0 ∧ c = 0)) : 0 < gcd3 a b c := by
 unfold gcd3
 apply Nat.pos_of_ne_zero
 intro e
 rw [Nat.gcd_eq_zero_iff, Nat.gcd_eq_zero_iff] at e
 exact h ⟨by omega, by omega, by omega⟩

end Go.Proofs.YtnallacamijkeaaGreatDoor

/- Plain mathematics of directions: sums of products, cross products, multiples. No program in sight. -/
namespace Go.Proofs.YtnallacamijkeaaGreatDoor
def dotI (a b : I3) : Int := a.x * b.x + a.y * b.y + a.z * b.z
def crossI (a b : I3) : I3 := ⟨a.y * b.z - a.z * b.y, a.z * b.x - a.x * b.z, a.x * b.y - a.y * b.x⟩
def dotR (u v : V3) : Rat := u.x * v.x + u.y * v.y + u.z * v.z
def crossR (u v : V3) : V3 := ⟨u.y * v.z - u.z * v.y, u.z * v.x - u.x * v.z, u.x * v.y - u.y * v.x⟩
def V3.zero (v : V3) : Prop := v.x = 0 ∧ v.y = 0 ∧ v.z = 0
def ofI (v : I3) (d : Nat) : V3 := ⟨mkRat v.x d, mkRat v.y d, mkRat v.z d⟩
def unitR (d : Nat) : Rat := 1 / (d : Rat)

theorem unitR_pos {d : Nat} (h : 0 < d) : 0 < unitR d := by
 have h0 : (0 : Rat) < (d : Rat) := by exact_mod_cast h
 unfold unitR
 have := Rat.inv_pos.2 h0
 rw [Rat.div_def, Rat.one_mul]
 exact this

theorem ofI_eq (v : I3) (d : Nat) : ofI v d = ⟨unitR d * v.x, unitR d * v.y, unitR d * v.z⟩ := by
 unfold ofI unitR
 simp only [Rat.mkRat_eq_div]
 congr 1 <;> grind

theorem dot_ofI (a b : I3) (d e : Nat) : dotR (ofI a d) (ofI b e) = unitR d * unitR e * ((dotI a b : Int) : Rat) := by
 rw [ofI_eq, ofI_eq]
 unfold dotR dotI
 push_cast
 grind

theorem unit2_pos {d e : Nat} (hd : 0 < d) (he : 0 < e) : 0 < unitR d * unitR e := Rat.mul_pos (unitR_pos hd) (unitR_pos he)

theorem sgn_scale (t : Rat) (ht : 0 < t) (n : Int) : (t * (n : Rat)).num.sign = n.sign := by
 rcases Int.lt_trichotomy n 0 with h | h | h
 ·have h3 : (n : Rat) < 0 := by exact_mod_cast h
  have h4 : t * (n : Rat) < 0 := by
   have := Rat.mul_pos ht (show (0 : Rat) < - (n : Rat) by grind)
   grind
  rw [Int.sign_eq_neg_one_of_neg h, Int.sign_eq_neg_one_of_neg ((num_neg' _).2 h4)]
 ·subst h
  have : t * ((0 : Int) : Rat) = 0 := by grind
  rw [this]; rfl
 ·have h3 : (0 : Rat) < (n : Rat) := by exact_mod_cast h
  rw [Int.sign_eq_one_of_pos h, Int.sign_eq_one_of_pos ((num_pos' _).2 (Rat.mul_pos ht h3))]

theorem dot_self_pos {v : I3} (h : v.nz) : 0 < dotI v v := by
 obtain ⟨x, y, z⟩ := v
 unfold dotI
 have h1 : ∀ a : Int, 0 ≤ a * a := fun a => by
  rcases Int.le_total 0 a with h | h
  ·exact Int.mul_nonneg h h
  ·exact Int.mul_nonneg_of_nonpos_of_nonpos h h
 have h2 : ∀ a : Int, a ≠ 0 → 0 < a * a := fun a ha => by
  have := h1 a
  have h3 : a * a ≠ 0 := Int.mul_ne_zero ha ha
  omega
 simp only
 have a1 := h1 x; have a2 := h1 y; have a3 := h1 z
 by_cases hx : x = 0
 ·by_cases hy : y = 0
  ·by_cases hz : z = 0
   ·exact absurd ⟨hx, hy, hz⟩ h
   ·have := h2 z hz; omega
  ·have := h2 y hy; omega
 ·have := h2 x hx; omega

def I3.neg (v : I3) : I3 := ⟨-v.x, -v.y, -v.z⟩

end Go.Proofs.YtnallacamijkeaaGreatDoor
