/- Plain mathematics of slips: bounds, the place where three planes meet. -/
import Derived.Test.YthhkmihjnnfpgaaGreatDoorVec
/- Plain mathematics of slips: bounds of numerators and denominators apart, vectors over one denominator, the place where three planes meet. -/
namespace Go.Proofs.YthhkmihjnnfpgaaGreatDoor
set_option linter.all false
open Go.RowKit

def S2 (q:Rat) (a b:Nat):Prop:=q.num.natAbs < 10 ^ a∧q.den < 10 ^ b

theorem pow_up {n a b:Nat} (h:n < 10 ^ a) (hab:a≤b):n < 10 ^ b:=Nat.lt_of_lt_of_le h (Nat.pow_le_pow_right (by omega) hab)
theorem S2.sz {q:Rat} {a b N:Nat} (h:S2 q a b) (h1:a≤N) (h2:b≤N):Sz q N:=⟨pow_up h.1 h1,pow_up h.2 h2⟩
theorem S2.mono {q:Rat} {a b c d:Nat} (h:S2 q a b) (h1:a≤c) (h2:b≤d):S2 q c d:=⟨pow_up h.1 h1,pow_up h.2 h2⟩
theorem S2.of {q:Rat} {n:Int} {d a b:Nat} (hd:d ≠ 0) (e:q=mkRat n d) (hn:n.natAbs < 10 ^ a) (h:d < 10 ^ b):S2 q a b:=by
 subst e
 have hb:=mk_bounds n d hd
 exact ⟨Nat.lt_of_le_of_lt hb.1 hn,Nat.lt_of_le_of_lt hb.2 h⟩
theorem S2.int (n:Int) (a:Nat) (h:n.natAbs < 10 ^ a):S2 (n:Rat) a 1:=⟨h,by show 1 < 10 ^ 1; omega⟩
theorem mul_pow_lt {n m a b:Nat} (h:n < 10 ^ a) (k:m < 10 ^ b):n * m < 10 ^ (a + b):=nat_mul_pow h k
theorem add_pow_lt {n m e:Nat} (h:n < 10 ^ e) (k:m < 10 ^ e):n + m < 10 ^ (e + 1):=by
 rw [Nat.pow_succ]
 omega

theorem S2.add {q r:Rat} {a b c d:Nat} (h:S2 q a b) (k:S2 r c d) (e:Nat) (h1:a + d≤e) (h2:c + b≤e):S2 (q + r) (e + 1) (b + d):=by
 refine S2.of (n:=q.num * (r.den:Int) + r.num * (q.den:Int)) (d:=q.den * r.den) (den_mul_ne q r) ?_ ?_ (mul_pow_lt h.2 k.2)
 ·rw [Rat.add_def,Rat.normalize_eq_mkRat]
 ·have e1:(q.num * (r.den:Int)).natAbs < 10 ^ e:=by
   rw [Int.natAbs_mul,Int.natAbs_natCast]
   exact pow_up (mul_pow_lt h.1 k.2) h1
  have e2:(r.num * (q.den:Int)).natAbs < 10 ^ e:=by
   rw [Int.natAbs_mul,Int.natAbs_natCast]
   exact pow_up (mul_pow_lt k.1 h.2) h2
  exact Nat.lt_of_le_of_lt (Int.natAbs_add_le _ _) (add_pow_lt e1 e2)
theorem S2.inv {q:Rat} {a b:Nat} (h:S2 q a b) (h0:q ≠ 0):S2 q⁻¹ b a:=by
 obtain ⟨h1,h2⟩:=inv_parts q h0
 unfold S2
 rw [h1,h2]
 refine ⟨?_,h.1⟩
 have:=h.2
 split
 ·rw [Int.natAbs_neg,Int.natAbs_natCast]; exact this
 ·rw [Int.natAbs_natCast]; exact this
def R3 (v:V3) (a b:Nat):Prop:=∃ (n:I3) (d:Nat),d ≠ 0∧v=ofI n d∧n.x.natAbs < 10 ^ a∧n.y.natAbs < 10 ^ a∧n.z.natAbs < 10 ^ a∧d < 10 ^ b

theorem mk_self (q:Rat):mkRat q.num q.den=q:=Rat.mkRat_self q
theorem mk_scale (q:Rat) (m:Nat) (hm:m ≠ 0):mkRat (q.num * (m:Int)) (q.den * m)=q:=by
 rw [Rat.mkRat_mul_right hm,mk_self]

theorem R3.of {v:V3} {a b:Nat} (hx:S2 v.x a b) (hy:S2 v.y a b) (hz:S2 v.z a b):R3 v (a + b + b) (b + b + b):=by
 refine ⟨⟨v.x.num * ((v.y.den * v.z.den:Nat):Int),v.y.num * ((v.x.den * v.z.den:Nat):Int),v.z.num * ((v.x.den * v.y.den:Nat):Int)⟩,v.x.den * v.y.den * v.z.den,?_,?_,?_,?_,?_,?_⟩
 ·exact Nat.mul_ne_zero (Nat.mul_ne_zero v.x.den_nz v.y.den_nz) v.z.den_nz
 ·obtain ⟨x,y,z⟩:=v
  unfold ofI
  simp only [V3.mk.injEq]
  refine ⟨?_,?_,?_⟩
  ·rw [Nat.mul_assoc,mk_scale _ _ (Nat.mul_ne_zero y.den_nz z.den_nz)]
  ·rw [Nat.mul_comm x.den y.den,Nat.mul_assoc,mk_scale _ _ (Nat.mul_ne_zero x.den_nz z.den_nz)]
  ·rw [Nat.mul_comm _ z.den,mk_scale _ _ (Nat.mul_ne_zero x.den_nz y.den_nz)]
 ·rw [Int.natAbs_mul,Int.natAbs_natCast,Nat.add_assoc]; exact mul_pow_lt hx.1 (mul_pow_lt hy.2 hz.2)
 ·rw [Int.natAbs_mul,Int.natAbs_natCast,Nat.add_assoc]; exact mul_pow_lt hy.1 (mul_pow_lt hx.2 hz.2)
 ·rw [Int.natAbs_mul,Int.natAbs_natCast,Nat.add_assoc]; exact mul_pow_lt hz.1 (mul_pow_lt hx.2 hy.2)
 ·exact mul_pow_lt (mul_pow_lt hx.2 hy.2) hz.2

theorem R3.xyz {v:V3} {a b:Nat} (h:R3 v a b):S2 v.x a b∧S2 v.y a b∧S2 v.z a b:=by
 obtain ⟨n,d,hd,rfl,h1,h2,h3,h4⟩:=h
 exact ⟨S2.of hd rfl h1 h4,S2.of hd rfl h2 h4,S2.of hd rfl h3 h4⟩
theorem R3.sz {v:V3} {a b N:Nat} (h:R3 v a b) (h1:a≤N) (h2:b≤N):Sz3 v N:=⟨h.xyz.1.sz h1 h2,h.xyz.2.1.sz h1 h2,h.xyz.2.2.sz h1 h2⟩

def V3.add (u v:V3):V3:=⟨u.x + v.x,u.y + v.y,u.z + v.z⟩

end Go.Proofs.YthhkmihjnnfpgaaGreatDoor
