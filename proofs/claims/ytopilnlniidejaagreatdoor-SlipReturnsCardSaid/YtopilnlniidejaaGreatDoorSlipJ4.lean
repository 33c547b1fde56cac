/- Plain mathematics: where a line meets a plane, and how long the numbers of that place are. -/
import Derived.Test.YtopilnlniidejaaGreatDoorGSlipP
namespace Go.Proofs.YtopilnlniidejaaGreatDoor
set_option linter.all false
open Go.RowKit

theorem R3.scale {v : V3} {a b c d : Nat} (h : R3 v a b) {k : Rat} (hk : S2 k c d) : R3 (v.scale k) (a + c) (b + d) := by
 obtain ⟨n, e, he, rfl, h1, h2, h3, h4⟩ := h
 have hkk : mkRat k.num k.den = k := mk_self k
 have one : ∀ x : Int, mkRat x e * k = mkRat (x * k.num) (e * k.den) := fun x => by
  conv => lhs; rw [← hkk]
  rw [Rat.mkRat_mul_mkRat]
 refine ⟨⟨n.x * k.num, n.y * k.num, n.z * k.num⟩, e * k.den, Nat.mul_ne_zero he k.den_nz, ?_, mulI_lt h1 hk.1, mulI_lt h2 hk.1, mulI_lt h3 hk.1, mul_pow_lt h4 hk.2⟩
 unfold V3.scale ofI
 simp only [one]
theorem R3.add {u v : V3} {a b c d m : Nat} (h : R3 u a b) (k : R3 v c d) (h1 : a + d ≤ m) (h2 : c + b ≤ m) : R3 (u.add v) (m + 1) (b + d) := by
 obtain ⟨p, e, he, rfl, p1, p2, p3, p4⟩ := h
 obtain ⟨q, f, hf, rfl, q1, q2, q3, q4⟩ := k
 have one : ∀ x y : Int, mkRat x e + mkRat y f = mkRat (x * f + y * e) (e * f) := fun x y => Rat.mkRat_add_mkRat _ _ he hf
 have bd : ∀ x y : Int, x.natAbs < 10 ^ a → y.natAbs < 10 ^ c → (x * (f : Int) + y * (e : Int)).natAbs < 10 ^ (m + 1) := fun x y hx hy => by
  have e1 : (x * (f : Int)).natAbs < 10 ^ m := by
   rw [Int.natAbs_mul, Int.natAbs_natCast]
   exact pow_up (mul_pow_lt hx q4) h1
  have e2 : (y * (e : Int)).natAbs < 10 ^ m := by
   rw [Int.natAbs_mul, Int.natAbs_natCast]
   exact pow_up (mul_pow_lt hy p4) h2
  exact Nat.lt_of_le_of_lt (Int.natAbs_add_le _ _) (add_pow_lt e1 e2)
 refine ⟨⟨p.x * f + q.x * e, p.y * f + q.y * e, p.z * f + q.z * e⟩, e * f, Nat.mul_ne_zero he hf, ?_, bd _ _ p1 q1, bd _ _ p2 q2, bd _ _ p3 q3, mul_pow_lt p4 q4⟩
 unfold V3.add ofI
 simp only [one]

def placeR (n : V3) (q : Rat) (c d : V3) : V3 := c.add (d.scale ((q - dotR n c) / dotR n d))
theorem place_quot (c d p r U T α γ δ : Rat) (hr : r ≠ 0) (hα : α ≠ 0) (hγ : γ ≠ 0) (hδ : δ ≠ 0) (hT : T ≠ 0) :
  c / γ + d / δ * ((p / r - U / (α * γ)) / (T / (α * δ))) = (c * r * T + d * (p * α * γ - r * U)) / (r * γ * T) := by
 have i1 : r * r⁻¹ = 1 := Rat.mul_inv_cancel _ hr
 have i2 : α * α⁻¹ = 1 := Rat.mul_inv_cancel _ hα
 have i3 : γ * γ⁻¹ = 1 := Rat.mul_inv_cancel _ hγ
 have i4 : δ * δ⁻¹ = 1 := Rat.mul_inv_cancel _ hδ
 have i5 : T * T⁻¹ = 1 := Rat.mul_inv_cancel _ hT
 simp only [Rat.div_def, Rat.inv_mul_rev, Rat.inv_inv]
 generalize r⁻¹ = r' at *
 generalize α⁻¹ = α' at *
 generalize γ⁻¹ = γ' at *
 generalize δ⁻¹ = δ' at *
 generalize T⁻¹ = T' at *
 have e : c * γ' + d * δ' * ((p * r' - U * (γ' * α')) * (T' * (δ * α) )) = c * γ' + d * p * r' * T' * α * (δ * δ') - d * U * γ' * T' * (α * α') * (δ * δ') := by grind
 have e2 : (c * r * T + d * (p * α * γ - r * U)) * (T' * (γ' * r')) = c * γ' * (r * r') * (T * T') + d * p * α * T' * r' * (γ * γ') - d * U * T' * γ' * (r * r') := by grind
 first
  | (rw [e2, i1, i3, i5]; have e3 : c * γ' + d * δ' * ((p * r' - U * (γ' * α')) * (T' * (δ * α))) = _ := e; rw [i2, i4] at e3; grind)
  | grind
theorem int_ne {m : Int} (h : m ≠ 0) : ((m : Int) : Rat) ≠ 0 := by simpa using h
theorem place_one {c d p U T : Int} {r α γ δ : Nat} (hr : r ≠ 0) (hα : α ≠ 0) (hγ : γ ≠ 0) (hδ : δ ≠ 0) (hT : T ≠ 0) (b1 : c.natAbs < 10 ^ 20) (b2 : d.natAbs < 10 ^ 20) (b3 : p.natAbs < 10 ^ 8) (b4 : U.natAbs < 10 ^ 41) (b5 : T.natAbs < 10 ^ 41) (b6 : r < 10 ^ 6) (b7 : α < 10 ^ 18) (b8 : γ < 10 ^ 18) :
  S2 (mkRat c γ + mkRat d δ * ((mkRat p r - mkRat U (α * γ)) / mkRat T (α * δ))) 72 68 := by
 have k1 : ((r : Nat) : Rat) ≠ 0 := by simpa using hr
 have k2 : ((α : Nat) : Rat) ≠ 0 := by simpa using hα
 have k3 : ((γ : Nat) : Rat) ≠ 0 := by simpa using hγ
 have k4 : ((δ : Nat) : Rat) ≠ 0 := by simpa using hδ
 have k5 : ((T : Int) : Rat) ≠ 0 := by simpa using hT
 rw [mk_div _ _ hγ, mk_div _ _ hδ, mk_div _ _ hr, mk_div _ _ (Nat.mul_ne_zero hα hγ), mk_div _ _ (Nat.mul_ne_zero hα hδ)]
 simp only [Rat.natCast_mul]
 rw [place_quot _ _ _ _ _ _ _ _ _ k1 k2 k3 k4 k5]
 have n1 : (c * (r : Int) * T).natAbs < 10 ^ 69 := by
  have := mulI_lt (mulI_lt b1 (show ((r : Nat) : Int).natAbs < 10 ^ 6 by rw [Int.natAbs_natCast]; exact b6)) b5
  exact pow_up this (by omega)
 have n2 : (p * (α : Int) * (γ : Int)).natAbs < 10 ^ 48 := by
  have := mulI_lt (mulI_lt b3 (show ((α : Nat) : Int).natAbs < 10 ^ 18 by rw [Int.natAbs_natCast]; exact b7)) (show ((γ : Nat) : Int).natAbs < 10 ^ 18 by rw [Int.natAbs_natCast]; exact b8)
  exact pow_up this (by omega)
 have n3 : ((r : Int) * U).natAbs < 10 ^ 48 := by
  have := mulI_lt (show ((r : Nat) : Int).natAbs < 10 ^ 6 by rw [Int.natAbs_natCast]; exact b6) b4
  exact pow_up this (by omega)
 have n4 : (p * (α : Int) * (γ : Int) - (r : Int) * U).natAbs < 10 ^ 49 := Nat.lt_of_le_of_lt (Int.natAbs_sub_le _ _) (add_pow_lt n2 n3)
 have n5 : (d * (p * (α : Int) * (γ : Int) - (r : Int) * U)).natAbs < 10 ^ 69 := mulI_lt b2 n4
 have n6 : (c * (r : Int) * T + d * (p * (α : Int) * (γ : Int) - (r : Int) * U)).natAbs < 10 ^ 70 := Nat.lt_of_le_of_lt (Int.natAbs_add_le _ _) (add_pow_lt n1 n5)
 have n7 : ((r : Int) * (γ : Int) * T).natAbs < 10 ^ 65 := by
  have := mulI_lt (mulI_lt (show ((r : Nat) : Int).natAbs < 10 ^ 6 by rw [Int.natAbs_natCast]; exact b6) (show ((γ : Nat) : Int).natAbs < 10 ^ 18 by rw [Int.natAbs_natCast]; exact b8)) b5
  exact pow_up this (by omega)
 have hd : ((r : Int) * (γ : Int) * T : Int) ≠ 0 := Int.mul_ne_zero (Int.mul_ne_zero (by simpa using hr) (by simpa using hγ)) hT
 have e : (((c : Int) : Rat) * ((r : Nat) : Rat) * ((T : Int) : Rat) + ((d : Int) : Rat) * (((p : Int) : Rat) * ((α : Nat) : Rat) * ((γ : Nat) : Rat) - ((r : Nat) : Rat) * ((U : Int) : Rat))) / (((r : Nat) : Rat) * ((γ : Nat) : Rat) * ((T : Int) : Rat))
   = ((c * (r : Int) * T + d * (p * (α : Int) * (γ : Int) - (r : Int) * U) : Int) : Rat) / (((r : Int) * (γ : Int) * T : Int) : Rat) := by push_cast; rfl
 rw [e]
 exact ((S2.int _ 70 n6).div (S2.int _ 65 n7) (int_ne hd)).mono (by omega) (by omega)
theorem dotI_lt {u v : I3} {a b : Nat} (h : u.x.natAbs < 10 ^ a ∧ u.y.natAbs < 10 ^ a ∧ u.z.natAbs < 10 ^ a) (k : v.x.natAbs < 10 ^ b ∧ v.y.natAbs < 10 ^ b ∧ v.z.natAbs < 10 ^ b) : (dotI u v).natAbs < 10 ^ (a + b + 1) := by
 have l1 := mulI_lt h.1 k.1
 have l2 := mulI_lt h.2.1 k.2.1
 have l3 := mulI_lt h.2.2 k.2.2
 have := nat_three l1 l2 l3
 show (u.x * v.x + u.y * v.y + u.z * v.z).natAbs < _
 have t := Int.natAbs_add_le (u.x * v.x + u.y * v.y) (u.z * v.z)
 have t2 := Int.natAbs_add_le (u.x * v.x) (u.y * v.y)
 omega
theorem place_size {n c d : V3} {q : Rat} (hn : R3 n 20 18) (hc : R3 c 20 18) (hd : R3 d 20 18) (hq : S2 q 8 6) (h : dotR n d ≠ 0) : S2 (placeR n q c d).x 72 68 ∧ S2 (placeR n q c d).y 72 68 ∧ S2 (placeR n q c d).z 72 68 := by
 obtain ⟨A, α, z0, rfl, a1, a2, a3, f0⟩ := hn
 obtain ⟨C, γ, z1, rfl, c1, c2, c3, f1⟩ := hc
 obtain ⟨D, δ, z2, rfl, d1, d2, d3, f2⟩ := hd
 have hT : dotI A D ≠ 0 := fun e => h (by rw [dot_mk _ _ _ _ z0 z2, e]; exact Rat.zero_mkRat _)
 have bU : (dotI A C).natAbs < 10 ^ 41 := dotI_lt ⟨a1, a2, a3⟩ ⟨c1, c2, c3⟩
 have bT : (dotI A D).natAbs < 10 ^ 41 := dotI_lt ⟨a1, a2, a3⟩ ⟨d1, d2, d3⟩
 have one : ∀ x y : Int, x.natAbs < 10 ^ 20 → y.natAbs < 10 ^ 20 → S2 (mkRat x γ + mkRat y δ * ((q - dotR (ofI A α) (ofI C γ)) / dotR (ofI A α) (ofI D δ))) 72 68 := fun x y hx hy => by
  rw [dot_mk _ _ _ _ z0 z1, dot_mk _ _ _ _ z0 z2]
  conv => arg 1; rw [← mk_self q]
  exact place_one q.den_nz z0 z1 z2 hT hx hy hq.1 bU bT hq.2 f0 f1
 exact ⟨one _ _ c1 d1, one _ _ c2 d2, one _ _ c3 d3⟩

end Go.Proofs.YtopilnlniidejaaGreatDoor
