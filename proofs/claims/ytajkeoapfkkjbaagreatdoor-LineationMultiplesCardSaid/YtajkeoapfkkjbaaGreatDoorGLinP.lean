/- Plain mathematics of directions: the downward form, dot and cross products, classes. No program in sight. -/
/- Plain mathematics of directions: the downward form of a positive multiple of an integer vector. No program in sight. -/
namespace Go.Proofs.YtajkeoapfkkjbaaGreatDoor
set_option linter.all false
theorem q_num (q : Rat) : q * (q.den : Rat) = (q.num : Rat) := by
  have h := Rat.mkRat_self q
  rw [Rat.mkRat_eq_div] at h
  have hd : (q.den : Rat) ≠ 0 := by
    intro e
    have : q.den = 0 := by exact_mod_cast e
    exact q.den_nz this
  have : (q.num : Rat) / (q.den : Rat) * (q.den : Rat) = (q.num : Rat) := by grind
  rw [← this, h]

theorem int_of_dvd (q : Rat) (L : Nat) (h : q.den ∣ L) : ∃ n : Int, q * (L : Rat) = (n : Rat) := by
  obtain ⟨c, rfl⟩ := h
  refine ⟨q.num * (c : Int), ?_⟩
  have := q_num q
  have e : ((q.den * c : Nat) : Rat) = (q.den : Rat) * (c : Rat) := by push_cast; rfl
  rw [e, ← Rat.mul_assoc, this]
  push_cast
  rfl

def lcmStep (den d : Nat) : Nat := den * d / Nat.gcd den d

theorem lcmStep_eq (a b : Nat) : lcmStep a b = Nat.lcm a b := rfl

structure V3 where
  x : Rat
  y : Rat
  z : Rat

def V3.scale (v : V3) (k : Rat) : V3 := ⟨v.x * k, v.y * k, v.z * k⟩
def denL (v : V3) : Nat := lcmStep (lcmStep (lcmStep 1 v.x.den) v.y.den) v.z.den
theorem denL_dvd (v : V3) : v.x.den ∣ denL v ∧ v.y.den ∣ denL v ∧ v.z.den ∣ denL v := by
  unfold denL
  simp only [lcmStep_eq]
  exact ⟨Nat.dvd_trans (Nat.dvd_lcm_right _ _) (Nat.dvd_trans (Nat.dvd_lcm_left _ _) (Nat.dvd_lcm_left _ _)), Nat.dvd_trans (Nat.dvd_lcm_right _ _) (Nat.dvd_lcm_left _ _), Nat.dvd_lcm_right _ _⟩
theorem denL_pos (v : V3) : 0 < denL v := by
  unfold denL
  simp only [lcmStep_eq]
  exact Nat.lcm_pos (Nat.lcm_pos (Nat.lcm_pos (by omega) v.x.den_pos) v.y.den_pos) v.z.den_pos
def upR (v : V3) : Bool := if v.z = 0 then (if v.y = 0 then decide (v.x.num < 0) else decide (v.y.num < 0)) else decide (0 < v.z.num)
def divG (v : V3) : Nat := Nat.gcd (Nat.gcd (Nat.gcd 0 v.x.num.natAbs) v.y.num.natAbs) v.z.num.natAbs
def turnR (b : Bool) (k : Rat) : Rat := if b then -k else k
def downR (v : V3) : V3 := (v.scale (denL v)).scale (turnR (upR (v.scale (denL v))) (mkRat 1 (divG (v.scale (denL v)))))

def gcd3 (a b c : Int) : Nat := Nat.gcd (Nat.gcd a.natAbs b.natAbs) c.natAbs
def upI (X Y Z : Int) : Bool := if Z = 0 then (if Y = 0 then decide (X < 0) else decide (Y < 0)) else decide (0 < Z)
def turnI (b : Bool) (g : Int) : Int := if b then -g else g
structure I3 where
  x : Int
  y : Int
  z : Int
def I3.g (v : I3) : Int := turnI (upI v.x v.y v.z) (gcd3 v.x v.y v.z)
def downI (v : I3) : I3 := ⟨v.x / v.g, v.y / v.g, v.z / v.g⟩
def I3.rat (v : I3) : V3 := ⟨v.x, v.y, v.z⟩
def I3.nz (v : I3) : Prop := ¬ (v.x = 0 ∧ v.y = 0 ∧ v.z = 0)

theorem gcd3_dvd (a b c : Int) : (gcd3 a b c : Int) ∣ a ∧ (gcd3 a b c : Int) ∣ b ∧ (gcd3 a b c : Int) ∣ c := by
  unfold gcd3
  refine ⟨?_, ?_, ?_⟩
  · exact Int.ofNat_dvd_left.2 (Nat.dvd_trans (Nat.gcd_dvd_left _ _) (Nat.gcd_dvd_left _ _))
  · exact Int.ofNat_dvd_left.2 (Nat.dvd_trans (Nat.gcd_dvd_left _ _) (Nat.gcd_dvd_right _ _))
  · exact Int.ofNat_dvd_left.2 (Nat.gcd_dvd_right _ _)

theorem num_pos' (q : Rat) : 0 < q.num ↔ 0 < q := by
  rw [Rat.lt_iff]; simp
theorem num_neg' (q : Rat) : q.num < 0 ↔ q < 0 := by
  rw [Rat.lt_iff]; simp

theorem upR_scale (X Y Z : Int) (s : Rat) (hs : 0 < s) : upR ⟨s * X, s * Y, s * Z⟩ = upI X Y Z := by
  have hz : ∀ n : Int, s * (n : Rat) = 0 ↔ n = 0 := by
    intro n
    constructor
    · intro h
      rcases Rat.mul_eq_zero.1 h with h | h
      · grind
      · exact_mod_cast h
    · intro h; rw [h]; grind
  have hn : ∀ n : Int, (s * (n : Rat)).num < 0 ↔ n < 0 := by
    intro n
    rw [num_neg']
    constructor
    · intro h
      apply Classical.byContradiction
      intro h2
      have h3 : (0 : Rat) ≤ (n : Rat) := by exact_mod_cast (show (0 : Int) ≤ n by omega)
      have := Rat.mul_nonneg (Rat.le_of_lt hs) h3
      grind
    · intro h
      have h3 : (n : Rat) < 0 := by exact_mod_cast h
      have := Rat.mul_pos hs (show (0 : Rat) < - (n : Rat) by grind)
      grind
  have hp : ∀ n : Int, 0 < (s * (n : Rat)).num ↔ 0 < n := by
    intro n
    rw [num_pos']
    constructor
    · intro h
      apply Classical.byContradiction
      intro h2
      have h3 : (0 : Rat) ≤ -(n : Rat) := by
        have : ((n : Int) : Rat) ≤ 0 := by exact_mod_cast (show n ≤ 0 by omega)
        grind
      have := Rat.mul_nonneg (Rat.le_of_lt hs) h3
      grind
    · intro h
      have h3 : (0 : Rat) < (n : Rat) := by exact_mod_cast h
      exact Rat.mul_pos hs h3
  unfold upR upI
  simp only [hz, hn, hp]

theorem gcd3_pos {a b c : Int} (h : ¬ (a = 0 ∧ b = 0 ∧ c = 0)) : 0 < gcd3 a b c := by
  unfold gcd3
  apply Nat.pos_of_ne_zero
  intro e
  rw [Nat.gcd_eq_zero_iff, Nat.gcd_eq_zero_iff] at e
  exact h ⟨by omega, by omega, by omega⟩

theorem prim_eq (a b : Nat) (n m p X Y Z : Int) (hx : (b : Int) * n = a * X) (hy : (b : Int) * m = a * Y) (hz : (b : Int) * p = a * Z) :
    b * gcd3 n m p = a * gcd3 X Y Z := by
  unfold gcd3
  rw [← Nat.gcd_mul_left, ← Nat.gcd_mul_left, ← Nat.gcd_mul_left, ← Nat.gcd_mul_left]
  have e : ∀ (u v : Int), (b : Int) * u = a * v → b * u.natAbs = a * v.natAbs := by
    intro u v h
    have := congrArg Int.natAbs h
    rw [Int.natAbs_mul, Int.natAbs_mul, Int.natAbs_natCast, Int.natAbs_natCast] at this
    exact this
  rw [e _ _ hx, e _ _ hy, e _ _ hz]

theorem nat_ne {n : Nat} (h : 0 < n) : (n : Rat) ≠ 0 := by
  intro e
  have : n = 0 := by exact_mod_cast e
  omega

/-- The downward form of a positive multiple of an integer vector is that of the integer vector. -/
theorem down_eq (v : I3) (t : Rat) (ht : 0 < t) (hv : v.nz) : downR ⟨t * v.x, t * v.y, t * v.z⟩ = (downI v).rat := by
  obtain ⟨X, Y, Z⟩ := v
  have hX : ¬ (X = 0 ∧ Y = 0 ∧ Z = 0) := hv
  generalize hw : (⟨t * X, t * Y, t * Z⟩ : V3) = w
  show downR w = _
  obtain ⟨d1, d2, d3⟩ := denL_dvd w
  have hL := denL_pos w
  generalize hLe : denL w = L at *
  have hLr : (0 : Rat) < (L : Rat) := by exact_mod_cast hL
  have hs : 0 < t * (L : Rat) := Rat.mul_pos ht hLr
  obtain ⟨n1, e1⟩ := int_of_dvd _ _ d1
  obtain ⟨n2, e2⟩ := int_of_dvd _ _ d2
  obtain ⟨n3, e3⟩ := int_of_dvd _ _ d3
  have wx : w.x = t * X := by rw [← hw]
  have wy : w.y = t * Y := by rw [← hw]
  have wz : w.z = t * Z := by rw [← hw]
  generalize hse : t * (L : Rat) = s at *
  have f1 : (n1 : Rat) = s * X := by rw [← e1, wx, ← hse]; grind
  have f2 : (n2 : Rat) = s * Y := by rw [← e2, wy, ← hse]; grind
  have f3 : (n3 : Rat) = s * Z := by rw [← e3, wz, ← hse]; grind
  have hsc : w.scale (L : Rat) = ⟨s * X, s * Y, s * Z⟩ := by
    unfold V3.scale; rw [e1, e2, e3, f1, f2, f3]
  have hg : divG (w.scale (L : Rat)) = gcd3 n1 n2 n3 := by
    unfold V3.scale divG gcd3
    rw [e1, e2, e3, Rat.num_intCast, Rat.num_intCast, Rat.num_intCast, Nat.gcd_zero_left]
  -- s is a quotient of naturals
  have hsn : 0 < s.num := by rw [num_pos']; exact hs
  obtain ⟨a, ha⟩ : ∃ a : Nat, s.num = a := ⟨s.num.toNat, by omega⟩
  have hsd : s * (s.den : Rat) = (a : Rat) := by rw [q_num, ha]; rfl
  have hb := s.den_pos
  have cr : ∀ (n x : Int), (n : Rat) = s * x → (s.den : Int) * n = a * x := by
    intro n x h
    have : ((s.den : Nat) : Rat) * (n : Rat) = (a : Rat) * (x : Rat) := by
      rw [h, ← hsd]; grind
    exact_mod_cast this
  have hp := prim_eq a s.den n1 n2 n3 X Y Z (cr _ _ f1) (cr _ _ f2) (cr _ _ f3)
  have hgp := gcd3_pos hX
  have hgs : ((gcd3 n1 n2 n3 : Nat) : Rat) = s * ((gcd3 X Y Z : Nat) : Rat) := by
    have h1 : ((s.den : Nat) : Rat) * ((gcd3 n1 n2 n3 : Nat) : Rat) = (a : Rat) * ((gcd3 X Y Z : Nat) : Rat) := by exact_mod_cast hp
    have h2 := nat_ne hb
    rw [← hsd] at h1
    grind
  obtain ⟨g1, g2, g3⟩ := gcd3_dvd X Y Z
  have hgr := nat_ne hgp
  unfold downR
  rw [hLe, hg, hsc, upR_scale X Y Z s hs]
  unfold downI I3.g I3.rat V3.scale
  simp only
  generalize upI X Y Z = u
  generalize gcd3 n1 n2 n3 = gn at *
  generalize gcd3 X Y Z = g at *
  have hk : mkRat 1 gn = 1 / (s * (g : Rat)) := by
    rw [Rat.mkRat_eq_div, hgs]; rfl
  have dv : ∀ x : Int, (g : Int) ∣ x → s * (x : Rat) * turnR u (mkRat 1 gn) = ((x / turnI u (g : Int) : Int) : Rat) := by
    intro x ⟨c, hc⟩
    subst hc
    rw [hk]
    have hg0 : (g : Int) ≠ 0 := by omega
    cases u with
    | false =>
      show s * (((g : Int) * c : Int) : Rat) * (1 / (s * (g : Rat))) = (((g : Int) * c / (g : Int) : Int) : Rat)
      rw [Int.mul_ediv_cancel_left _ hg0]
      push_cast
      grind
    | true =>
      show s * (((g : Int) * c : Int) : Rat) * (-(1 / (s * (g : Rat)))) = (((g : Int) * c / (-(g : Int)) : Int) : Rat)
      rw [show (g : Int) * c = (-(g : Int)) * (-c) by rw [Int.neg_mul_neg], Int.mul_ediv_cancel_left _ (by omega)]
      push_cast
      grind
  rw [dv X g1, dv Y g2, dv Z g3]

end Go.Proofs.YtajkeoapfkkjbaaGreatDoor

/- Plain mathematics of directions: sums of products, cross products, multiples. No program in sight. -/
namespace Go.Proofs.YtajkeoapfkkjbaaGreatDoor
def dotI (a b : I3) : Int := a.x * b.x + a.y * b.y + a.z * b.z
def crossI (a b : I3) : I3 := ⟨a.y * b.z - a.z * b.y, a.z * b.x - a.x * b.z, a.x * b.y - a.y * b.x⟩
def dotR (u v : V3) : Rat := u.x * v.x + u.y * v.y + u.z * v.z
def crossR (u v : V3) : V3 := ⟨u.y * v.z - u.z * v.y, u.z * v.x - u.x * v.z, u.x * v.y - u.y * v.x⟩
def V3.zero (v : V3) : Prop := v.x = 0 ∧ v.y = 0 ∧ v.z = 0
/-- The vector of a description: numerators over one divisor. -/
def ofI (v : I3) (d : Nat) : V3 := ⟨mkRat v.x d, mkRat v.y d, mkRat v.z d⟩
def unitR (d : Nat) : Rat := 1 / (d : Rat)

theorem unitR_pos {d : Nat} (h : 0 < d) : 0 < unitR d := by
  have h0 : (0 : Rat) < (d : Rat) := by exact_mod_cast h
  unfold unitR
  have := Rat.inv_pos.2 h0
  rw [Rat.div_def, Rat.one_mul]
  exact this

theorem ofI_eq (v : I3) (d : Nat) : ofI v d = ⟨unitR d * v.x, unitR d * v.y, unitR d * v.z⟩ := by
  unfold ofI unitR
  simp only [Rat.mkRat_eq_div]
  congr 1 <;> grind

theorem down_ofI (v : I3) (d : Nat) (hd : 0 < d) (hv : v.nz) : downR (ofI v d) = (downI v).rat := by
  rw [ofI_eq]; exact down_eq v _ (unitR_pos hd) hv

theorem ofI_zero (v : I3) (d : Nat) (hd : 0 < d) : (ofI v d).zero ↔ ¬ v.nz := by
  have h0 := unitR_pos hd
  have hz : ∀ n : Int, unitR d * (n : Rat) = 0 ↔ n = 0 := by
    intro n
    constructor
    · intro h
      rcases Rat.mul_eq_zero.1 h with h | h
      · grind
      · exact_mod_cast h
    · intro h; rw [h]; grind
  rw [ofI_eq]
  unfold V3.zero I3.nz
  simp only [hz]
  constructor
  · intro h h2; exact h2 h
  · intro h; exact Classical.not_not.1 h

theorem dot_ofI (a b : I3) (d e : Nat) : dotR (ofI a d) (ofI b e) = unitR d * unitR e * ((dotI a b : Int) : Rat) := by
  rw [ofI_eq, ofI_eq]
  unfold dotR dotI
  push_cast
  grind

theorem cross_ofI (a b : I3) (d e : Nat) : crossR (ofI a d) (ofI b e) = ⟨unitR d * unitR e * ((crossI a b).x : Rat), unitR d * unitR e * ((crossI a b).y : Rat), unitR d * unitR e * ((crossI a b).z : Rat)⟩ := by
  rw [ofI_eq, ofI_eq]
  unfold crossR crossI
  simp only
  congr 1 <;> (push_cast; grind)

theorem unit2_pos {d e : Nat} (hd : 0 < d) (he : 0 < e) : 0 < unitR d * unitR e := Rat.mul_pos (unitR_pos hd) (unitR_pos he)

theorem sgn_scale (t : Rat) (ht : 0 < t) (n : Int) : (t * (n : Rat)).num.sign = n.sign := by
  rcases Int.lt_trichotomy n 0 with h | h | h
  · have h3 : (n : Rat) < 0 := by exact_mod_cast h
    have h4 : t * (n : Rat) < 0 := by
      have := Rat.mul_pos ht (show (0 : Rat) < - (n : Rat) by grind)
      grind
    rw [Int.sign_eq_neg_one_of_neg h, Int.sign_eq_neg_one_of_neg ((num_neg' _).2 h4)]
  · subst h
    have : t * ((0 : Int) : Rat) = 0 := by grind
    rw [this]; rfl
  · have h3 : (0 : Rat) < (n : Rat) := by exact_mod_cast h
    rw [Int.sign_eq_one_of_pos h, Int.sign_eq_one_of_pos ((num_pos' _).2 (Rat.mul_pos ht h3))]

theorem dot_self_pos {v : I3} (h : v.nz) : 0 < dotI v v := by
  obtain ⟨x, y, z⟩ := v
  unfold dotI
  have h1 : ∀ a : Int, 0 ≤ a * a := fun a => by
    rcases Int.le_total 0 a with h | h
    · exact Int.mul_nonneg h h
    · exact Int.mul_nonneg_of_nonpos_of_nonpos h h
  have h2 : ∀ a : Int, a ≠ 0 → 0 < a * a := fun a ha => by
    have := h1 a
    have h3 : a * a ≠ 0 := Int.mul_ne_zero ha ha
    omega
  simp only
  have a1 := h1 x; have a2 := h1 y; have a3 := h1 z
  by_cases hx : x = 0
  · by_cases hy : y = 0
    · by_cases hz : z = 0
      · exact absurd ⟨hx, hy, hz⟩ h
      · have := h2 z hz; omega
    · have := h2 y hy; omega
  · have := h2 x hx; omega

theorem cross_zero_of_down {a b : I3} (h : downI a = downI b) (ha : a.nz) (hb : b.nz) : ¬ (crossI a b).nz := by
  have key : ∀ v : I3, v.nz → v.x = v.g * (downI v).x ∧ v.y = v.g * (downI v).y ∧ v.z = v.g * (downI v).z := by
    intro v _
    obtain ⟨g1, g2, g3⟩ := gcd3_dvd v.x v.y v.z
    have hg : v.g ∣ v.x ∧ v.g ∣ v.y ∧ v.g ∣ v.z := by
      unfold I3.g turnI
      split
      · exact ⟨Int.neg_dvd.2 g1, Int.neg_dvd.2 g2, Int.neg_dvd.2 g3⟩
      · exact ⟨g1, g2, g3⟩
    unfold downI
    exact ⟨(Int.mul_ediv_cancel' hg.1).symm, (Int.mul_ediv_cancel' hg.2.1).symm, (Int.mul_ediv_cancel' hg.2.2).symm⟩
  obtain ⟨a1, a2, a3⟩ := key a ha
  obtain ⟨b1, b2, b3⟩ := key b hb
  rw [← h] at b1 b2 b3
  intro hc
  apply hc
  unfold crossI
  simp only
  rw [a1, a2, a3, b1, b2, b3]
  refine ⟨?_, ?_, ?_⟩ <;> grind

def I3.neg (v : I3) : I3 := ⟨-v.x, -v.y, -v.z⟩
theorem nz_neg {v : I3} (h : v.nz) : v.neg.nz := by
  unfold I3.nz I3.neg at *; simp only; omega
theorem downI_neg {v : I3} (h : v.nz) : downI v.neg = downI v := by
  have hu : upI (-v.x) (-v.y) (-v.z) = !upI v.x v.y v.z := by
    unfold upI I3.nz at *
    by_cases hz : v.z = 0
    · rw [if_pos hz, if_pos (by omega)]
      by_cases hy : v.y = 0
      · rw [if_pos hy, if_pos (by omega)]
        by_cases h2 : v.x < 0
        · rw [decide_eq_true h2, decide_eq_false (by omega)]; rfl
        · rw [decide_eq_false h2, decide_eq_true (by omega)]; rfl
      · rw [if_neg hy, if_neg (by omega)]
        by_cases h2 : v.y < 0
        · rw [decide_eq_true h2, decide_eq_false (by omega)]; rfl
        · rw [decide_eq_false h2, decide_eq_true (by omega)]; rfl
    · rw [if_neg hz, if_neg (by omega)]
      by_cases h2 : 0 < v.z
      · rw [decide_eq_true h2, decide_eq_false (by omega)]; rfl
      · rw [decide_eq_false h2, decide_eq_true (by omega)]; rfl
  have hg : v.neg.g = -v.g := by
    unfold I3.g I3.neg gcd3
    simp only
    rw [hu, Int.natAbs_neg, Int.natAbs_neg, Int.natAbs_neg]
    cases upI v.x v.y v.z <;> simp [turnI]
  obtain ⟨g1, g2, g3⟩ := gcd3_dvd v.x v.y v.z
  have hd : v.g ∣ v.x ∧ v.g ∣ v.y ∧ v.g ∣ v.z := by
    unfold I3.g turnI
    split
    · exact ⟨Int.neg_dvd.2 g1, Int.neg_dvd.2 g2, Int.neg_dvd.2 g3⟩
    · exact ⟨g1, g2, g3⟩
  unfold downI
  rw [hg]
  unfold I3.neg
  simp only [Int.ediv_neg, Int.neg_ediv_of_dvd hd.1, Int.neg_ediv_of_dvd hd.2.1, Int.neg_ediv_of_dvd hd.2.2, Int.neg_neg]

theorem rat_inj {a b : I3} (h : a.rat = b.rat) : a = b := by
  obtain ⟨a1, a2, a3⟩ := a
  obtain ⟨b1, b2, b3⟩ := b
  unfold I3.rat at h
  injection h with h1 h2 h3
  rw [show a1 = b1 by exact_mod_cast h1, show a2 = b2 by exact_mod_cast h2, show a3 = b3 by exact_mod_cast h3]

theorem mul_neg_one_of (t : Rat) (x y : Int) (h : (x : Rat) = t * y) : ((-x : Int) : Rat) = -t * y := by push_cast; grind

/-- an integer vector that is a multiple of another one has the same downward form -/
theorem down_mult {a b : I3} (t : Rat) (ht : t ≠ 0) (hx : (a.x : Rat) = t * b.x) (hy : (a.y : Rat) = t * b.y) (hz : (a.z : Rat) = t * b.z) (ha : a.nz) (hb : b.nz) : downI a = downI b := by
  have one : ∀ v : I3, v.nz → downR v.rat = (downI v).rat := by
    intro v hv
    have := down_eq v 1 (by decide) hv
    rw [Rat.one_mul, Rat.one_mul, Rat.one_mul] at this
    exact this
  rcases (by grind : 0 < t ∨ t < 0) with h | h
  · apply rat_inj
    rw [← one a ha, ← down_eq b t h hb]
    unfold I3.rat
    rw [hx, hy, hz]
  · rw [← downI_neg ha]
    apply rat_inj
    rw [← one a.neg (nz_neg ha), ← down_eq b (-t) (by grind) hb]
    unfold I3.rat I3.neg
    simp only
    rw [mul_neg_one_of t _ _ hx, mul_neg_one_of t _ _ hy, mul_neg_one_of t _ _ hz]

theorem down_of_cross_zero {a b : I3} (h : ¬ (crossI a b).nz) (ha : a.nz) (hb : b.nz) : downI a = downI b := by
  have h' : (crossI a b).x = 0 ∧ (crossI a b).y = 0 ∧ (crossI a b).z = 0 := Classical.not_not.1 h
  obtain ⟨c1, c2, c3⟩ := h'
  unfold crossI at c1 c2 c3
  simp only at c1 c2 c3
  have r1 : (a.y : Rat) * b.z = a.z * b.y := by exact_mod_cast (show a.y * b.z = a.z * b.y by omega)
  have r2 : (a.z : Rat) * b.x = a.x * b.z := by exact_mod_cast (show a.z * b.x = a.x * b.z by omega)
  have r3 : (a.x : Rat) * b.y = a.y * b.x := by exact_mod_cast (show a.x * b.y = a.y * b.x by omega)
  have ne : ∀ n : Int, n ≠ 0 → (n : Rat) ≠ 0 := fun n hn e => hn (by exact_mod_cast e)
  have eqz : ∀ n : Int, (n : Rat) = 0 → n = 0 := fun n e => by exact_mod_cast e
  by_cases hx : b.x = 0
  · have hx' : (b.x : Rat) = 0 := by rw [hx]; rfl
    by_cases hy : b.y = 0
    · have hy' : (b.y : Rat) = 0 := by rw [hy]; rfl
      have hz : b.z ≠ 0 := fun e => hb ⟨hx, hy, e⟩
      have hz' := ne _ hz
      have ay : (a.y : Rat) = 0 := by
        rw [hy', Rat.mul_zero] at r1
        rcases Rat.mul_eq_zero.1 r1 with h | h
        · exact h
        · exact absurd h hz'
      have ax : (a.x : Rat) = 0 := by
        rw [hx', Rat.mul_zero] at r2
        rcases Rat.mul_eq_zero.1 r2.symm with h | h
        · exact h
        · exact absurd h hz'
      have az : (a.z : Rat) ≠ 0 := ne _ (fun e => ha ⟨eqz _ ax, eqz _ ay, e⟩)
      exact down_mult ((a.z : Rat) / b.z) (by intro e; grind) (by rw [ax, hx']; grind) (by rw [ay, hy']; grind) (by grind) ha hb
    · have hy' := ne _ hy
      have ay : (a.y : Rat) ≠ 0 := by
        intro e
        have hax : (a.x : Rat) = 0 := by
          rw [e, Rat.zero_mul] at r3
          rcases Rat.mul_eq_zero.1 r3 with h | h
          · exact h
          · exact absurd h hy'
        have haz : (a.z : Rat) = 0 := by
          rw [e, Rat.zero_mul] at r1
          rcases Rat.mul_eq_zero.1 r1.symm with h | h
          · exact h
          · exact absurd h hy'
        exact ha ⟨eqz _ hax, eqz _ e, eqz _ haz⟩
      exact down_mult ((a.y : Rat) / b.y) (by intro e; grind) (by grind) (by grind) (by grind) ha hb
  · have hx' := ne _ hx
    have ax : (a.x : Rat) ≠ 0 := by
      intro e
      have hay : (a.y : Rat) = 0 := by
        rw [e, Rat.zero_mul] at r3
        rcases Rat.mul_eq_zero.1 r3.symm with h | h
        · exact h
        · exact absurd h hx'
      have haz : (a.z : Rat) = 0 := by
        rw [e, Rat.zero_mul] at r2
        rcases Rat.mul_eq_zero.1 r2 with h | h
        · exact h
        · exact absurd h hx'
      exact ha ⟨eqz _ e, eqz _ hay, eqz _ haz⟩
    exact down_mult ((a.x : Rat) / b.x) (by intro e; grind) (by grind) (by grind) (by grind) ha hb

end Go.Proofs.YtajkeoapfkkjbaaGreatDoor
