/- Plain mathematics of slips: bounds, the place where three planes meet. -/
import Derived.Test.YtnallacamijkeaaGreatDoorVec
/- Plain mathematics of slips: bounds of numerators and denominators apart, vectors over one denominator, the place where three planes meet. -/
namespace Go.Proofs.YtnallacamijkeaaGreatDoor
set_option linter.all false
open Go.RowKit

def S2 (q : Rat) (a b : Nat) : Prop := q.num.natAbs < 10 ^ a ∧ q.den < 10 ^ b

theorem pow_up {n a b : Nat} (h : n < 10 ^ a) (hab : a ≤ b) : n < 10 ^ b := Nat.lt_of_lt_of_le h (Nat.pow_le_pow_right (by omega) hab)
theorem S2.sz {q : Rat} {a b N : Nat} (h : S2 q a b) (h1 : a ≤ N) (h2 : b ≤ N) : Sz q N := ⟨pow_up h.1 h1, pow_up h.2 h2⟩
theorem S2.mono {q : Rat} {a b c d : Nat} (h : S2 q a b) (h1 : a ≤ c) (h2 : b ≤ d) : S2 q c d := ⟨pow_up h.1 h1, pow_up h.2 h2⟩
theorem S2.of {q : Rat} {n : Int} {d a b : Nat} (hd : d ≠ 0) (e : q = mkRat n d) (hn : n.natAbs < 10 ^ a) (h : d < 10 ^ b) : S2 q a b := by
 subst e
 have hb := mk_bounds n d hd
 exact ⟨Nat.lt_of_le_of_lt hb.1 hn, Nat.lt_of_le_of_lt hb.2 h⟩
theorem S2.int (n : Int) (a : Nat) (h : n.natAbs < 10 ^ a) : S2 (n : Rat) a 1 := ⟨h, by show 1 < 10 ^ 1; omega⟩
theorem S2.neg {q : Rat} {a b : Nat} (h : S2 q a b) : S2 (-q) a b := ⟨by rw [Rat.neg_num, Int.natAbs_neg]; exact h.1, by rw [Rat.neg_den]; exact h.2⟩

theorem mul_pow_lt {n m a b : Nat} (h : n < 10 ^ a) (k : m < 10 ^ b) : n * m < 10 ^ (a + b) := nat_mul_pow h k
theorem add_pow_lt {n m e : Nat} (h : n < 10 ^ e) (k : m < 10 ^ e) : n + m < 10 ^ (e + 1) := by
 rw [Nat.pow_succ]
 omega

theorem S2.mul {q r : Rat} {a b c d : Nat} (h : S2 q a b) (k : S2 r c d) : S2 (q * r) (a + c) (b + d) := by
 refine S2.of (n := q.num * r.num) (d := q.den * r.den) (den_mul_ne q r) ?_ ?_ (mul_pow_lt h.2 k.2)
 ·rw [Rat.mul_def, Rat.normalize_eq_mkRat]
 ·rw [Int.natAbs_mul]
  exact mul_pow_lt h.1 k.1
theorem S2.add {q r : Rat} {a b c d : Nat} (h : S2 q a b) (k : S2 r c d) (e : Nat) (h1 : a + d ≤ e) (h2 : c + b ≤ e) : S2 (q + r) (e + 1) (b + d) := by
 refine S2.of (n := q.num * (r.den : Int) + r.num * (q.den : Int)) (d := q.den * r.den) (den_mul_ne q r) ?_ ?_ (mul_pow_lt h.2 k.2)
 ·rw [Rat.add_def, Rat.normalize_eq_mkRat]
 ·have e1 : (q.num * (r.den : Int)).natAbs < 10 ^ e := by
   rw [Int.natAbs_mul, Int.natAbs_natCast]
   exact pow_up (mul_pow_lt h.1 k.2) h1
  have e2 : (r.num * (q.den : Int)).natAbs < 10 ^ e := by
   rw [Int.natAbs_mul, Int.natAbs_natCast]
   exact pow_up (mul_pow_lt k.1 h.2) h2
  exact Nat.lt_of_le_of_lt (Int.natAbs_add_le _ _) (add_pow_lt e1 e2)
theorem S2.sub {q r : Rat} {a b c d : Nat} (h : S2 q a b) (k : S2 r c d) (e : Nat) (h1 : a + d ≤ e) (h2 : c + b ≤ e) : S2 (q - r) (e + 1) (b + d) := by
 rw [Rat.sub_eq_add_neg]
 exact h.add k.neg e h1 h2
theorem S2.inv {q : Rat} {a b : Nat} (h : S2 q a b) (h0 : q ≠ 0) : S2 q⁻¹ b a := by
 obtain ⟨h1, h2⟩ := inv_parts q h0
 unfold S2
 rw [h1, h2]
 refine ⟨?_, h.1⟩
 have := h.2
 split
 ·rw [Int.natAbs_neg, Int.natAbs_natCast]; exact this
 ·rw [Int.natAbs_natCast]; exact this
theorem S2.div {q r : Rat} {a b c d : Nat} (h : S2 q a b) (k : S2 r c d) (h0 : r ≠ 0) : S2 (q / r) (a + d) (b + c) := by
 rw [Rat.div_def]
 exact h.mul (k.inv h0)

theorem brief_S2 {q : Rat} (h : (canonR q).size ≤ 8) : S2 q 8 6 := by
 have hsz : (canonR q).size = (ratL q.num q.den).length := rfl
 have h2 : (mdig q.num).length ≤ (Lib.itoa q.num).length := by
  rcases itoa_cases q.num with ⟨_, e⟩ | ⟨_, e⟩
  ·rw [e]; exact Nat.le_refl _
  ·rw [e, List.length_cons]; omega
 have hp : 0 < (mdig q.num).length := List.length_pos_iff.2 (decDigits_ne _)
 refine ⟨dec_lt_pow q.num.natAbs 8 ?_, ?_⟩
 ·have h3 : (Lib.itoa q.num).length ≤ (ratL q.num q.den).length := by
   unfold ratL
   split
   ·exact Nat.le_refl _
   ·rw [List.length_append]; omega
  have h4 : (mdig q.num).length = (Lib.decDigits q.num.natAbs).length := rfl
  omega
 ·by_cases hd : q.den = 1
  ·rw [hd]; exact Nat.one_lt_pow (by omega) (by omega)
  ·refine dec_lt_pow _ _ ?_
   have : (ratL q.num q.den).length = (Lib.itoa q.num).length + (1 + (Lib.decDigits q.den).length) := by
    unfold ratL
    rw [if_neg hd, List.length_append, List.length_cons]; omega
   omega

def R3 (v : V3) (a b : Nat) : Prop := ∃ (n : I3) (d : Nat), d ≠ 0 ∧ v = ofI n d ∧ n.x.natAbs < 10 ^ a ∧ n.y.natAbs < 10 ^ a ∧ n.z.natAbs < 10 ^ a ∧ d < 10 ^ b

theorem mk_self (q : Rat) : mkRat q.num q.den = q := Rat.mkRat_self q
theorem mk_scale (q : Rat) (m : Nat) (hm : m ≠ 0) : mkRat (q.num * (m : Int)) (q.den * m) = q := by
 rw [Rat.mkRat_mul_right hm, mk_self]

theorem R3.of {v : V3} {a b : Nat} (hx : S2 v.x a b) (hy : S2 v.y a b) (hz : S2 v.z a b) : R3 v (a + b + b) (b + b + b) := by
 refine ⟨⟨v.x.num * ((v.y.den * v.z.den : Nat) : Int), v.y.num * ((v.x.den * v.z.den : Nat) : Int), v.z.num * ((v.x.den * v.y.den : Nat) : Int)⟩, v.x.den * v.y.den * v.z.den, ?_, ?_, ?_, ?_, ?_, ?_⟩
 ·exact Nat.mul_ne_zero (Nat.mul_ne_zero v.x.den_nz v.y.den_nz) v.z.den_nz
 ·obtain ⟨x, y, z⟩ := v
  unfold ofI
  simp only [V3.mk.injEq]
  refine ⟨?_, ?_, ?_⟩
  ·rw [Nat.mul_assoc, mk_scale _ _ (Nat.mul_ne_zero y.den_nz z.den_nz)]
  ·rw [Nat.mul_comm x.den y.den, Nat.mul_assoc, mk_scale _ _ (Nat.mul_ne_zero x.den_nz z.den_nz)]
  ·rw [Nat.mul_comm _ z.den, mk_scale _ _ (Nat.mul_ne_zero x.den_nz y.den_nz)]
 ·rw [Int.natAbs_mul, Int.natAbs_natCast, Nat.add_assoc]; exact mul_pow_lt hx.1 (mul_pow_lt hy.2 hz.2)
 ·rw [Int.natAbs_mul, Int.natAbs_natCast, Nat.add_assoc]; exact mul_pow_lt hy.1 (mul_pow_lt hx.2 hz.2)
 ·rw [Int.natAbs_mul, Int.natAbs_natCast, Nat.add_assoc]; exact mul_pow_lt hz.1 (mul_pow_lt hx.2 hy.2)
 ·exact mul_pow_lt (mul_pow_lt hx.2 hy.2) hz.2

theorem R3.xyz {v : V3} {a b : Nat} (h : R3 v a b) : S2 v.x a b ∧ S2 v.y a b ∧ S2 v.z a b := by
 obtain ⟨n, d, hd, rfl, h1, h2, h3, h4⟩ := h
 exact ⟨S2.of hd rfl h1 h4, S2.of hd rfl h2 h4, S2.of hd rfl h3 h4⟩
theorem R3.sz {v : V3} {a b N : Nat} (h : R3 v a b) (h1 : a ≤ N) (h2 : b ≤ N) : Sz3 v N := ⟨h.xyz.1.sz h1 h2, h.xyz.2.1.sz h1 h2, h.xyz.2.2.sz h1 h2⟩

theorem mk_add_same (p q : Int) {d : Nat} (h : d ≠ 0) : mkRat p d + mkRat q d = mkRat (p + q) d := by
 rw [Rat.mkRat_add_mkRat _ _ h h, show p * (d : Int) + q * (d : Int) = (p + q) * (d : Int) from (Int.add_mul ..).symm, Rat.mkRat_mul_right h]
theorem dot_mk (a b : I3) (d e : Nat) (hd : d ≠ 0) (he : e ≠ 0) : dotR (ofI a d) (ofI b e) = mkRat (dotI a b) (d * e) := by
 have hde : d * e ≠ 0 := Nat.mul_ne_zero hd he
 unfold dotR ofI dotI
 simp only [Rat.mkRat_mul_mkRat]
 rw [mk_add_same _ _ hde, mk_add_same _ _ hde]
theorem cross_mk (a b : I3) (d e : Nat) (hd : d ≠ 0) (he : e ≠ 0) : crossR (ofI a d) (ofI b e) = ofI (crossI a b) (d * e) := by
 have hde : d * e ≠ 0 := Nat.mul_ne_zero hd he
 have one : ∀ p q r s : Int, mkRat p d * mkRat q e - mkRat r d * mkRat s e = mkRat (p * q - r * s) (d * e) := fun p q r s => by
  rw [Rat.mkRat_mul_mkRat, Rat.mkRat_mul_mkRat, Rat.sub_eq_add_neg, Rat.neg_mkRat, mk_add_same _ _ hde, Int.sub_eq_add_neg]
 unfold crossR ofI crossI
 simp only [one]

theorem nat_three {p q r e : Nat} (h1 : p < 10 ^ e) (h2 : q < 10 ^ e) (h3 : r < 10 ^ e) : p + q + r < 10 ^ (e + 1) := by
 rw [Nat.pow_succ]
 omega
theorem mulI_lt {x y : Int} {a b : Nat} (h : x.natAbs < 10 ^ a) (k : y.natAbs < 10 ^ b) : (x * y).natAbs < 10 ^ (a + b) := by
 rw [Int.natAbs_mul]
 exact mul_pow_lt h k

theorem R3.dot {u v : V3} {a b c d : Nat} (h : R3 u a b) (k : R3 v c d) : S2 (dotR u v) (a + c + 1) (b + d) := by
 obtain ⟨n, e, he, rfl, h1, h2, h3, h4⟩ := h
 obtain ⟨m, f, hf, rfl, k1, k2, k3, k4⟩ := k
 refine S2.of (Nat.mul_ne_zero he hf) (dot_mk n m e f he hf) ?_ (mul_pow_lt h4 k4)
 have l1 := mulI_lt h1 k1
 have l2 := mulI_lt h2 k2
 have l3 := mulI_lt h3 k3
 have := nat_three l1 l2 l3
 unfold dotI
 have t := Int.natAbs_add_le (n.x * m.x + n.y * m.y) (n.z * m.z)
 have t2 := Int.natAbs_add_le (n.x * m.x) (n.y * m.y)
 omega
theorem R3.cross {u v : V3} {a b c d : Nat} (h : R3 u a b) (k : R3 v c d) : R3 (crossR u v) (a + c + 1) (b + d) := by
 obtain ⟨n, e, he, rfl, h1, h2, h3, h4⟩ := h
 obtain ⟨m, f, hf, rfl, k1, k2, k3, k4⟩ := k
 have two : ∀ {p q r s : Int}, p.natAbs < 10 ^ a → q.natAbs < 10 ^ c → r.natAbs < 10 ^ a → s.natAbs < 10 ^ c → (p * q - r * s).natAbs < 10 ^ (a + c + 1) := fun {p q r s} hp hq hr hs => by
  have l1 := mulI_lt hp hq
  have l2 := mulI_lt hr hs
  have t := Int.natAbs_sub_le (p * q) (r * s)
  exact Nat.lt_of_le_of_lt t (add_pow_lt l1 l2)
 exact ⟨crossI n m, e * f, Nat.mul_ne_zero he hf, cross_mk n m e f he hf, two h2 k3 h3 k2, two h3 k1 h1 k3, two h1 k2 h2 k1, mul_pow_lt h4 k4⟩

def V3.add (u v : V3) : V3 := ⟨u.x + v.x, u.y + v.y, u.z + v.z⟩

def meetR (n0 n1 n2 : V3) (b0 b1 b2 : Rat) : V3 :=
 (((crossR n1 n2).scale b0).add ((crossR n2 n0).scale b1)).add ((crossR n0 n1).scale b2) |>.scale (1 / dotR n0 (crossR n1 n2))

end Go.Proofs.YtnallacamijkeaaGreatDoor

/- Plain mathematics of slips: how long the numbers of the place are where three planes meet. -/
namespace Go.Proofs.YtnallacamijkeaaGreatDoor
set_option linter.all false
open Go.RowKit

theorem mk_div (c : Int) (d : Nat) (hd : d ≠ 0) : mkRat c d = (c : Rat) / ((d : Nat) : Rat) := by
 rw [Rat.mkRat_eq_div]
theorem meet_quot (c0 c1 c2 k0 k1 k2 b0 b1 b2 T : Rat) (h0 : k0 ≠ 0) (h1 : k1 ≠ 0) (h2 : k2 ≠ 0) (hT : T ≠ 0) :
  (c0 / (k1 * k2) * b0 + c1 / (k2 * k0) * b1 + c2 / (k0 * k1) * b2) * (1 / (T / (k0 * (k1 * k2)))) = (c0 * k0 * b0 + c1 * k1 * b1 + c2 * k2 * b2) / T := by
 have hK : k0 * (k1 * k2) ≠ 0 := by
  intro e
  rcases Rat.mul_eq_zero.1 e with e | e
  ·exact h0 e
  ·rcases Rat.mul_eq_zero.1 e with e | e
   ·exact h1 e
   ·exact h2 e
 have h12 : k1 * k2 ≠ 0 := fun e => hK (by rw [e, Rat.mul_zero])
 have h20 : k2 * k0 ≠ 0 := fun e => hK (by rw [show k0 * (k1 * k2) = k1 * (k2 * k0) by grind, e, Rat.mul_zero])
 have h01 : k0 * k1 ≠ 0 := fun e => hK (by rw [show k0 * (k1 * k2) = k0 * k1 * k2 by grind, e, Rat.zero_mul])
 have hi : 1 / (T / (k0 * (k1 * k2))) = k0 * (k1 * k2) / T := by
  generalize k0 * (k1 * k2) = K at *
  rw [Rat.div_def, Rat.div_def T, Rat.div_def, Rat.inv_mul_rev, Rat.inv_inv, Rat.one_mul]
 have g0 : c0 / (k1 * k2) * (k0 * (k1 * k2)) = c0 * k0 := by
  generalize k1 * k2 = m at *
  grind
 have g1 : c1 / (k2 * k0) * (k0 * (k1 * k2)) = c1 * k1 := by
  rw [show k0 * (k1 * k2) = k1 * (k2 * k0) by grind]
  generalize k2 * k0 = m at *
  grind
 have g2 : c2 / (k0 * k1) * (k0 * (k1 * k2)) = c2 * k2 := by
  rw [show k0 * (k1 * k2) = k2 * (k0 * k1) by grind]
  generalize k0 * k1 = m at *
  grind
 have key : ∀ x0 x1 x2 K t : Rat, (x0 * b0 + x1 * b1 + x2 * b2) * (K * t) = (x0 * K * b0 + x1 * K * b1 + x2 * K * b2) * t := by
  intro x0 x1 x2 K t
  grind
 rw [hi, show k0 * (k1 * k2) / T = k0 * (k1 * k2) * T⁻¹ from Rat.div_def _ _, key, g0, g1, g2, ← Rat.div_def]
theorem S2.nat (n a : Nat) (h : n < 10 ^ a) : S2 ((n : Nat) : Rat) a 1 := by
 refine ⟨?_, ?_⟩
 ·rw [Rat.num_natCast, Int.natAbs_natCast]; exact h
 ·rw [Rat.den_natCast]; show 1 < 10 ^ 1; omega
theorem meet_one {c0 c1 c2 T : Int} {d0 d1 d2 : Nat} {b0 b1 b2 : Rat} {p q : Nat} (h0 : d0 ≠ 0) (h1 : d1 ≠ 0) (h2 : d2 ≠ 0) (hT : T ≠ 0) (e0 : c0.natAbs < 10 ^ 41) (e1 : c1.natAbs < 10 ^ 41) (e2 : c2.natAbs < 10 ^ 41) (eT : T.natAbs < 10 ^ 62)
  (f0 : d0 < 10 ^ 18) (f1 : d1 < 10 ^ 18) (f2 : d2 < 10 ^ 18) (g0 : S2 b0 p q) (g1 : S2 b1 p q) (g2 : S2 b2 p q) :
  S2 ((mkRat c0 (d1 * d2) * b0 + mkRat c1 (d2 * d0) * b1 + mkRat c2 (d0 * d1) * b2) * (1 / mkRat T (d0 * (d1 * d2)))) (66 + p + 2 * q) (68 + 3 * q) := by
 have hT' : ((T : Int) : Rat) ≠ 0 := by simpa using hT
 have k0 : ((d0 : Nat) : Rat) ≠ 0 := by simpa using h0
 have k1 : ((d1 : Nat) : Rat) ≠ 0 := by simpa using h1
 have k2 : ((d2 : Nat) : Rat) ≠ 0 := by simpa using h2
 rw [mk_div _ _ (Nat.mul_ne_zero h1 h2), mk_div _ _ (Nat.mul_ne_zero h2 h0), mk_div _ _ (Nat.mul_ne_zero h0 h1), mk_div _ _ (Nat.mul_ne_zero h0 (Nat.mul_ne_zero h1 h2))]
 simp only [Rat.natCast_mul]
 rw [meet_quot _ _ _ _ _ _ _ _ _ _ k0 k1 k2 hT']
 have s0 : S2 ((c0 : Rat) * ((d0 : Nat) : Rat) * b0) (59 + p) (2 + q) := ((S2.int c0 41 e0).mul (S2.nat d0 18 f0)).mul g0
 have s1 : S2 ((c1 : Rat) * ((d1 : Nat) : Rat) * b1) (59 + p) (2 + q) := ((S2.int c1 41 e1).mul (S2.nat d1 18 f1)).mul g1
 have s2 : S2 ((c2 : Rat) * ((d2 : Nat) : Rat) * b2) (59 + p) (2 + q) := ((S2.int c2 41 e2).mul (S2.nat d2 18 f2)).mul g2
 have a1 := s0.add s1 (61 + p + q) (by omega) (by omega)
 have a2 := a1.add s2 (64 + p + 2 * q) (by omega) (by omega)
 exact (a2.div (S2.int T 62 eT) hT').mono (by omega) (by omega)
theorem meet_size {n0 n1 n2 : V3} {b0 b1 b2 : Rat} {p q : Nat} (h0 : R3 n0 20 18) (h1 : R3 n1 20 18) (h2 : R3 n2 20 18) (g0 : S2 b0 p q) (g1 : S2 b1 p q) (g2 : S2 b2 p q) (hd : dotR n0 (crossR n1 n2) ≠ 0) :
  S2 (meetR n0 n1 n2 b0 b1 b2).x (66 + p + 2 * q) (68 + 3 * q) ∧ S2 (meetR n0 n1 n2 b0 b1 b2).y (66 + p + 2 * q) (68 + 3 * q) ∧ S2 (meetR n0 n1 n2 b0 b1 b2).z (66 + p + 2 * q) (68 + 3 * q) := by
 obtain ⟨A, d0, z0, rfl, a1, a2, a3, f0⟩ := h0
 obtain ⟨B, d1, z1, rfl, b1', b2', b3', f1⟩ := h1
 obtain ⟨D, d2, z2, rfl, c1', c2', c3', f2⟩ := h2
 have two : ∀ {p q r s : Int}, p.natAbs < 10 ^ 20 → q.natAbs < 10 ^ 20 → r.natAbs < 10 ^ 20 → s.natAbs < 10 ^ 20 → (p * q - r * s).natAbs < 10 ^ 41 := fun {p q r s} hp hq hr hs => by
  have l1 := mulI_lt hp hq
  have l2 := mulI_lt hr hs
  have t := Int.natAbs_sub_le (p * q) (r * s)
  exact Nat.lt_of_le_of_lt t (add_pow_lt l1 l2)
 have hdet : dotR (ofI A d0) (crossR (ofI B d1) (ofI D d2)) = mkRat (dotI A (crossI B D)) (d0 * (d1 * d2)) := by
  rw [cross_mk _ _ _ _ z1 z2, dot_mk _ _ _ _ z0 (Nat.mul_ne_zero z1 z2)]
 have hT : dotI A (crossI B D) ≠ 0 := fun e => by
  rw [hdet, e] at hd
  exact hd (Rat.zero_mkRat _)
 have eT : (dotI A (crossI B D)).natAbs < 10 ^ 62 := by
  have l1 := mulI_lt a1 (two b2' c3' b3' c2')
  have l2 := mulI_lt a2 (two b3' c1' b1' c3')
  have l3 := mulI_lt a3 (two b1' c2' b2' c1')
  have := nat_three l1 l2 l3
  show (A.x * (B.y * D.z - B.z * D.y) + A.y * (B.z * D.x - B.x * D.z) + A.z * (B.x * D.y - B.y * D.x)).natAbs < 10 ^ 62
  have t := Int.natAbs_add_le (A.x * (B.y * D.z - B.z * D.y) + A.y * (B.z * D.x - B.x * D.z)) (A.z * (B.x * D.y - B.y * D.x))
  have t2 := Int.natAbs_add_le (A.x * (B.y * D.z - B.z * D.y)) (A.y * (B.z * D.x - B.x * D.z))
  omega
 unfold meetR
 rw [hdet, cross_mk _ _ _ _ z1 z2, cross_mk _ _ _ _ z2 z0, cross_mk _ _ _ _ z0 z1]
 refine ⟨?_, ?_, ?_⟩
 ·exact meet_one z0 z1 z2 hT (two b2' c3' b3' c2') (two c2' a3 c3' a2) (two a2 b3' a3 b2') eT f0 f1 f2 g0 g1 g2
 ·exact meet_one z0 z1 z2 hT (two b3' c1' b1' c3') (two c3' a1 c1' a3) (two a3 b1' a1 b3') eT f0 f1 f2 g0 g1 g2
 ·exact meet_one z0 z1 z2 hT (two b1' c2' b2' c1') (two c1' a2 c2' a1) (two a1 b2' a2 b1') eT f0 f1 f2 g0 g1 g2

end Go.Proofs.YtnallacamijkeaaGreatDoor
