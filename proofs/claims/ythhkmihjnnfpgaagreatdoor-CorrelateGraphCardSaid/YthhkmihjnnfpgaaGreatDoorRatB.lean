/- The walks of rational.Add and Mul. -/
import Derived.Test.YthhkmihjnnfpgaaGreatDoorRatA
import Derived.Test.YthhkmihjnnfpgaaGreatDoorRatQ
import Derived.Test.YthhkmihjnnfpgaaGreatDoorRatS
import Derived.Test.YthhkmihjnnfpgaaGreatDoorGInt
namespace Go.Proofs.YthhkmihjnnfpgaaGreatDoor
set_option linter.all false
open Go.RowKit

def Sz (q:Rat) (N:Nat):Prop:=q.num.natAbs < 10 ^ N∧q.den < 10 ^ N

theorem Sz.mono {q:Rat} {N M:Nat} (h:Sz q N) (hNM:N≤M):Sz q M:=by
 have h1:(10:Nat) ^ N≤10 ^ M:=Nat.pow_le_pow_right (by omega) hNM
 exact ⟨Nat.lt_of_lt_of_le h.1 h1,Nat.lt_of_lt_of_le h.2 h1⟩

theorem Sz.num {q:Rat} {N:Nat} (h:Sz q N) (h0:0 < N):(canon q.num).size≤N + 1:=canon_size_lt _ N h.1 h0
theorem Sz.den {q:Rat} {N:Nat} (h:Sz q N) (h0:0 < N):(canon (q.den:Int)).size≤N + 1:=canon_size_lt _ N (by rw [Int.natAbs_natCast]; exact h.2) h0

theorem ratT_size (n:Int) (d:Nat):(ratT n d).size≤(canon n).size + 1 + (canon (d:Int)).size:=by
 show (ratL n d).length≤(Lib.itoa n).length + 1 + (Lib.itoa (d:Int)).length
 unfold ratL
 rw [itoa_of_nat]
 split
 ·omega
 ·rw [List.length_append,List.length_cons]; omega

theorem Sz.text {q:Rat} {N:Nat} (h:Sz q N) (h0:0 < N):(canonR q).size≤2 * N + 3:=by
 have h1:=ratT_size q.num q.den
 have h2:=h.num h0
 have h3:=h.den h0
 have h4:(canonR q).size=(ratT q.num q.den).size:=rfl
 omega

theorem mk_bounds (n:Int) (d:Nat) (hd:d ≠ 0):(mkRat n d).num.natAbs≤n.natAbs∧(mkRat n d).den≤d:=by
 rw [Rat.mkRat_def,dif_neg hd,Rat.normalize_eq]
 exact ⟨Int.natAbs_ediv_le_natAbs _ _,Nat.div_le_self _ _⟩

theorem radd_eq (a b:Rat):a + b=mkRat (a.num * (b.den:Int) + b.num * (a.den:Int)) (a.den * b.den):=by
 rw [Rat.add_def,Rat.normalize_eq_mkRat]
theorem rmul_eq (a b:Rat):a * b=mkRat (a.num * b.num) (a.den * b.den):=by
 rw [Rat.mul_def,Rat.normalize_eq_mkRat]

theorem den_mul_ne (a b:Rat):a.den * b.den ≠ 0:=Nat.mul_ne_zero a.den_nz b.den_nz
theorem den_mul_pos (a b:Rat):0 < a.den * b.den:=Nat.pos_of_ne_zero (den_mul_ne a b)

theorem nat_mul_pow {x y N M:Nat} (hx:x < 10 ^ N) (hy:y < 10 ^ M):x * y < 10 ^ (N + M):=by
 rw [Nat.pow_add]
 exact Nat.mul_lt_mul'' hx hy

theorem add_abs_lt {x y:Int} {N:Nat} (hx:x.natAbs < 10 ^ N) (hy:y.natAbs < 10 ^ N):(x + y).natAbs < 10 ^ (N + 1):=by
 rw [Nat.pow_succ]
 generalize (10:Nat) ^ N=s at *
 omega

theorem cross_lt {a b:Rat} {N:Nat} (ha:Sz a N) (hb:Sz b N):(a.num * (b.den:Int)).natAbs < 10 ^ (N + N):=by
 rw [Int.natAbs_mul,Int.natAbs_natCast]
 exact nat_mul_pow ha.1 hb.2
theorem dens_lt {a b:Rat} {N:Nat} (ha:Sz a N) (hb:Sz b N):a.den * b.den < 10 ^ (N + N):=nat_mul_pow ha.2 hb.2

theorem Sz.add {a b:Rat} {N:Nat} (ha:Sz a N) (hb:Sz b N):Sz (a + b) (N + N + 1):=by
 obtain ⟨h1,h2⟩:=mk_bounds (a.num * (b.den:Int) + b.num * (a.den:Int)) (a.den * b.den) (den_mul_ne a b)
 rw [← radd_eq] at h1 h2
 have h3:=add_abs_lt (cross_lt ha hb) (cross_lt hb ha)
 have h4:=dens_lt ha hb
 have h5:(10:Nat) ^ (N + N)≤10 ^ (N + N + 1):=Nat.pow_le_pow_right (by omega) (by omega)
 exact ⟨Nat.lt_of_le_of_lt h1 h3,by omega⟩

theorem rlowest_any (n:Int) (D:Nat) (w:World) (ht:Pow10 w) (hD:0 < D) (hn:(canon n).size≤9000) (hd:(canon (D:Int)).size≤9000) :
  Calls Tryz.prog 58 #[.string (canon n),.string (canon (D:Int))] w fun e w'=>e=.returned (.string (canonR (mkRat n D)))∧Below w.heap.size w w':=by
 have h:=lowest_any false n D w ht hD hn hd
 rw [if_neg (by simp),if_neg (by simp)] at h
 exact h

theorem mul_in {x y:Int} (hx:x.natAbs < 1000000000) (hy:y.natAbs < 1000000000):-1000000000000000000≤x * y∧x * y≤1000000000000000000:=by
 have h1:(x * y).natAbs < 1000000000 * 1000000000:=by
  rw [Int.natAbs_mul]
  exact Nat.mul_lt_mul'' hx hy
 omega

theorem nat_mul_in {x y:Nat} (hx:x < 1000000000) (hy:y < 1000000000):x * y≤1000000000000000000:=by
 have:=Nat.mul_lt_mul'' hx hy
 omega

set_option maxRecDepth 100000 in
set_option maxHeartbeats 8000000 in
theorem radd_any (a b:Rat) (N:Nat) (hN0:0 < N) (hN:N≤1000) (ha:Sz a N) (hb:Sz b N) (w:World) (he:Env w) :
  Calls Tryz.prog 21 #[.string (canonR a),.string (canonR b)] w fun e w'=>e=.returned (.string (canonR (a + b)))∧Below w.heap.size w w':=by
 have hsa:=ha.text hN0
 have hsb:=hb.text hN0
 have qa:=fun W=>rquick_any a W (by omega)
 have qb:=fun W=>rquick_any b W (by omega)
 have pa:=fun W (hW:Below w.heap.size w W)=>rparts_any a.num a.den W (he.below hW).2 (by have:(ratT a.num a.den).size=(canonR a).size:=rfl; omega)
 have pb:=fun W (hW:Below w.heap.size w W)=>rparts_any b.num b.den W (he.below hW).2 (by have:(ratT b.num b.den).size=(canonR b).size:=rfl; omega)
 rw [show ratT a.num a.den=canonR a from rfl] at pa
 rw [show ratT b.num b.den=canonR b from rfl] at pb
 have a1:=ha.num hN0
 have a2:=ha.den hN0
 have b1:=hb.num hN0
 have b2:=hb.den hN0
 have dsz:(canon ((a.den:Int) * (b.den:Int))).size≤N + N + 1:=by
  rw [← Int.natCast_mul]
  exact canon_size_lt _ (N + N) (by rw [Int.natAbs_natCast]; exact dens_lt ha hb) (by omega)
 have m3:=fun W (hW:Below w.heap.size w W)=>mul_any (a.den:Int) (b.den:Int) W (he.below hW).1 (by omega) (by omega)
 have c1:=cross_lt ha hb
 have c2:=cross_lt hb ha
 have s1:=canon_size_lt _ (N + N) c1 (by omega)
 have s2:=canon_size_lt _ (N + N) c2 (by omega)
 have s3:=canon_size_lt _ (N + N + 1) (add_abs_lt c1 c2) (by omega)
 have m1:=fun W (hW:Below w.heap.size w W)=>mul_any a.num (b.den:Int) W (he.below hW).1 (by omega) (by omega)
 have m2:=fun W (hW:Below w.heap.size w W)=>mul_any b.num (a.den:Int) W (he.below hW).1 (by omega) (by omega)
 have ad:=fun W (hW:Below w.heap.size w W)=>add_any (a.num * (b.den:Int)) (b.num * (a.den:Int)) W (he.below hW).1 (by omega) (by omega)
 have lw:=fun W (hW:Below w.heap.size w W)=>rlowest_any (a.num * (b.den:Int) + b.num * (a.den:Int)) (a.den * b.den) W (he.below hW).1 (den_mul_pos a b) (by omega) (by rw [Int.natCast_mul]; omega)
 rw [← radd_eq,Int.natCast_mul] at lw
 have sm:=fun (h1:short a=true) (h2:short b=true) W (hW:Below w.heap.size w W)=>small_of (a.num * (b.den:Int) + b.num * (a.den:Int)) (a.den * b.den) W (he.below hW).1 (den_mul_pos a b)
  (by have:=mul_in (x:=a.num) (y:=(b.den:Int)) (short_lt a h1).1 (by have:=(short_lt b h2).2; omega); have:=mul_in (x:=b.num) (y:=(a.den:Int)) (short_lt b h2).1 (by have:=(short_lt a h1).2; omega); omega)
  (by have:=mul_in (x:=a.num) (y:=(b.den:Int)) (short_lt a h1).1 (by have:=(short_lt b h2).2; omega); have:=mul_in (x:=b.num) (y:=(a.den:Int)) (short_lt b h2).1 (by have:=(short_lt a h1).2; omega); omega)
  (by have:=nat_mul_in (short_lt a h1).2 (short_lt b h2).2; omega)
 rw [← radd_eq,Int.natCast_mul] at sm
 have z1:=canonR_beq0 a
 have z2:=canonR_beq0 b
 have e0:a=0→canonR (a + b)=canonR b:=fun h=>by rw [h,Rat.zero_add]
 have e1:b=0→canonR (a + b)=canonR a:=fun h=>by rw [h,Rat.add_zero]
 have ab1:=fun (h1:short a=true)=>(⟨(short_lt a h1).1,by have:=(short_lt a h1).2; omega⟩:a.num.natAbs < 1000000000∧(a.den:Int) < 1000000000)
 have ab2:=fun (h2:short b=true)=>(⟨(short_lt b h2).1,by have:=(short_lt b h2).2; omega⟩:b.num.natAbs < 1000000000∧(b.den:Int) < 1000000000)
 have ap:0≤(a.den:Int):=by omega
 have bp:0≤(b.den:Int):=by omega
 generalize canonR (a + b)=R at *
 generalize canonR a=TA at *
 generalize canonR b=TB at *
 have hz1:a=0 ∨ (TA.toList == [48])=false:=by
  by_cases h:a=0
  ·exact .inl h
  ·exact .inr (by rw [z1]; exact decide_eq_false h)
 have hz2:b=0 ∨ (TB.toList == [48])=false:=by
  by_cases h:b=0
  ·exact .inl h
  ·exact .inr (by rw [z2]; exact decide_eq_false h)
 rcases hz1 with h | hz1
 ·have hz:(TA.toList == [48])=true:=by rw [z1]; exact decide_eq_true h
  have hr:=e0 h
  subst hr
  clear z1 z2 e0 e1 qa qb pa pb m1 m2 m3 ad lw sm ab1 ab2
  go_enter Tryz.func21,Tryz.ntmps21
  go_wp2
  go_ret
  exact ⟨rfl,Below.refl _ _⟩
 rcases hz2 with h | hz2
 ·have hz:(TB.toList == [48])=true:=by rw [z2]; exact decide_eq_true h
  have hr:=e1 h
  subst hr
  clear z1 z2 e0 e1 qa qb pa pb m1 m2 m3 ad lw sm ab1 ab2
  go_enter Tryz.func21,Tryz.ntmps21
  go_wp2
  go_ret
  exact ⟨rfl,Below.refl _ _⟩
 clear z1 z2 e0 e1
 clear hsa hsb a1 a2 b1 b2 dsz s1 c1 c2 s2 s3 ha hb he hN hN0
 generalize a.num=an at *
 generalize b.num=bn at *
 generalize (a.den:Int)=ad' at *
 generalize (b.den:Int)=bd' at *
 have PA:=Lib.hid pa
 have PB:=Lib.hid pb
 have M1:=Lib.hid m1
 have M2:=Lib.hid m2
 have AD:=Lib.hid ad
 have M3:=Lib.hid m3
 have LW:=Lib.hid lw
 clear pa pb m1 m2 ad m3 lw
 cases hs1:short a with
 | false =>
  rw [hs1] at qa
  simp only [Bool.false_eq_true,if_false] at qa
  have QA:=Lib.hid qa
  clear qa qb sm ab1 ab2 hs1
  go_enter Tryz.func21,Tryz.ntmps21
  go_wp2_with (first
   | (go_at_call_of 55 (Value.string TA); (with_reducible refine (QA.out _).mono ?_); rintro e w1 ⟨rfl,rfl⟩)
   | (go_at_call_of 57 (Value.string TA); (with_reducible refine (PA.out _ (Below.refl _ _)).mono ?_); rintro e w3 ⟨rfl,q⟩; have B3:=Lib.hid (q.below w.heap.size); clear q)
   | (go_at_call_of 57 (Value.string TB); (with_reducible refine (PB.out _ B3.out).mono ?_); rintro e w4 ⟨rfl,q⟩; have B4:=Lib.hid (B3.out.trans (q.below _)); clear q)
   | (go_at_call 59; (with_reducible refine (M1.out _ B4.out).mono ?_); rintro e w5 ⟨rfl,q⟩; have B5:=Lib.hid (B4.out.trans (q.mono B4.out.size)); clear q)
   | (go_at_call 59; (with_reducible refine (M2.out _ B5.out).mono ?_); rintro e w6 ⟨rfl,q⟩; have B6:=Lib.hid (B5.out.trans (q.mono B5.out.size)); clear q)
   | (go_at_call 52; (with_reducible refine (AD.out _ B6.out).mono ?_); rintro e w7 ⟨rfl,q⟩; have B7:=Lib.hid (B6.out.trans (q.mono B6.out.size)); clear q)
   | (go_at_call 59; (with_reducible refine (M3.out _ B7.out).mono ?_); rintro e w8 ⟨rfl,q⟩; have B8:=Lib.hid (B7.out.trans (q.mono B7.out.size)); clear q)
   | (go_at_call 58; (with_reducible refine (LW.out _ B8.out).mono ?_); rintro e w9 ⟨rfl,q⟩; have B9:=Lib.hid (B8.out.trans (q.mono B8.out.size)); clear q)
   | fail "arm")
  go_ret
  exact ⟨rfl,B9.out⟩
 | true =>
  rw [hs1] at qa
  simp only [if_true] at qa
  have QA:=Lib.hid qa
  cases hs2:short b with
  | false =>
   rw [hs2] at qb
   simp only [Bool.false_eq_true,if_false] at qb
   have QB:=Lib.hid qb
   clear qa qb sm ab1 ab2 hs1 hs2
   go_enter Tryz.func21,Tryz.ntmps21
   go_wp2_with (first
   | (go_at_call_of 55 (Value.string TA); (with_reducible refine (QA.out _).mono ?_); rintro e w1 ⟨rfl,rfl⟩)
   | (go_at_call_of 55 (Value.string TB); (with_reducible refine (QB.out _).mono ?_); rintro e w2 ⟨rfl,rfl⟩)
   | (go_at_call_of 57 (Value.string TA); (with_reducible refine (PA.out _ (Below.refl _ _)).mono ?_); rintro e w3 ⟨rfl,q⟩; have B3:=Lib.hid (q.below w.heap.size); clear q)
   | (go_at_call_of 57 (Value.string TB); (with_reducible refine (PB.out _ B3.out).mono ?_); rintro e w4 ⟨rfl,q⟩; have B4:=Lib.hid (B3.out.trans (q.below _)); clear q)
   | (go_at_call 59; (with_reducible refine (M1.out _ B4.out).mono ?_); rintro e w5 ⟨rfl,q⟩; have B5:=Lib.hid (B4.out.trans (q.mono B4.out.size)); clear q)
   | (go_at_call 59; (with_reducible refine (M2.out _ B5.out).mono ?_); rintro e w6 ⟨rfl,q⟩; have B6:=Lib.hid (B5.out.trans (q.mono B5.out.size)); clear q)
   | (go_at_call 52; (with_reducible refine (AD.out _ B6.out).mono ?_); rintro e w7 ⟨rfl,q⟩; have B7:=Lib.hid (B6.out.trans (q.mono B6.out.size)); clear q)
   | (go_at_call 59; (with_reducible refine (M3.out _ B7.out).mono ?_); rintro e w8 ⟨rfl,q⟩; have B8:=Lib.hid (B7.out.trans (q.mono B7.out.size)); clear q)
   | (go_at_call 58; (with_reducible refine (LW.out _ B8.out).mono ?_); rintro e w9 ⟨rfl,q⟩; have B9:=Lib.hid (B8.out.trans (q.mono B8.out.size)); clear q)
   | fail "arm")
   go_ret
   exact ⟨rfl,B9.out⟩
  | true =>
   rw [hs2] at qb
   simp only [if_true] at qb
   have QB:=Lib.hid qb
   have SM:=Lib.hid (sm hs1 hs2)
   obtain ⟨u1,u2⟩:=ab1 hs1
   obtain ⟨v1,v2⟩:=ab2 hs2
   have g1:=mul_in (x:=an) (y:=bd') u1 (by omega)
   have g2:=mul_in (x:=bn) (y:=ad') v1 (by omega)
   have g3:=mul_in (x:=ad') (y:=bd') (by omega) (by omega)
   obtain ⟨g1a,g1b⟩:=g1
   obtain ⟨g2a,g2b⟩:=g2
   obtain ⟨g3a,g3b⟩:=g3
   clear qa qb sm ab1 ab2 hs1 hs2 u1 u2 v1 v2 PA PB M1 M2 AD M3 LW
   go_enter Tryz.func21,Tryz.ntmps21
   go_wp2_with (first
   | (go_at_call_of 55 (Value.string TA); (with_reducible refine (QA.out _).mono ?_); rintro e w1 ⟨rfl,rfl⟩)
   | (go_at_call_of 55 (Value.string TB); (with_reducible refine (QB.out _).mono ?_); rintro e w2 ⟨rfl,rfl⟩)
   | (go_at_call 56; (with_reducible refine (SM.out _ (Below.refl _ _)).mono ?_); rintro e w9 ⟨rfl,q⟩; have B9:=Lib.hid q; clear q)
   | fail "arm")
   go_ret
   exact ⟨rfl,B9.out⟩

set_option maxRecDepth 100000 in
set_option maxHeartbeats 8000000 in
theorem rmul_any (a b:Rat) (N:Nat) (hN0:0 < N) (hN:N≤1000) (ha:Sz a N) (hb:Sz b N) (w:World) (he:Env w) :
  Calls Tryz.prog 39 #[.string (canonR a),.string (canonR b)] w fun e w'=>e=.returned (.string (canonR (a * b)))∧Below w.heap.size w w':=by
 have hsa:=ha.text hN0
 have hsb:=hb.text hN0
 have qa:=fun W=>rquick_any a W (by omega)
 have qb:=fun W=>rquick_any b W (by omega)
 have pa:=fun W (hW:Below w.heap.size w W)=>rparts_any a.num a.den W (he.below hW).2 (by have:(ratT a.num a.den).size=(canonR a).size:=rfl; omega)
 have pb:=fun W (hW:Below w.heap.size w W)=>rparts_any b.num b.den W (he.below hW).2 (by have:(ratT b.num b.den).size=(canonR b).size:=rfl; omega)
 rw [show ratT a.num a.den=canonR a from rfl] at pa
 rw [show ratT b.num b.den=canonR b from rfl] at pb
 have a1:=ha.num hN0
 have a2:=ha.den hN0
 have b1:=hb.num hN0
 have b2:=hb.den hN0
 have dsz:(canon ((a.den:Int) * (b.den:Int))).size≤N + N + 1:=by
  rw [← Int.natCast_mul]
  exact canon_size_lt _ (N + N) (by rw [Int.natAbs_natCast]; exact dens_lt ha hb) (by omega)
 have m3:=fun W (hW:Below w.heap.size w W)=>mul_any (a.den:Int) (b.den:Int) W (he.below hW).1 (by omega) (by omega)
 have s1:(canon (a.num * b.num)).size≤N + N + 1:=canon_size_lt _ (N + N) (by rw [Int.natAbs_mul]; exact nat_mul_pow ha.1 hb.1) (by omega)
 have m1:=fun W (hW:Below w.heap.size w W)=>mul_any a.num b.num W (he.below hW).1 (by omega) (by omega)
 have lw:=fun W (hW:Below w.heap.size w W)=>rlowest_any (a.num * b.num) (a.den * b.den) W (he.below hW).1 (den_mul_pos a b) (by omega) (by rw [Int.natCast_mul]; omega)
 rw [← rmul_eq,Int.natCast_mul] at lw
 have sm:=fun (h1:short a=true) (h2:short b=true) W (hW:Below w.heap.size w W)=>small_of (a.num * b.num) (a.den * b.den) W (he.below hW).1 (den_mul_pos a b)
  (by have:=mul_in (x:=a.num) (y:=b.num) (short_lt a h1).1 (short_lt b h2).1; omega)
  (by have:=mul_in (x:=a.num) (y:=b.num) (short_lt a h1).1 (short_lt b h2).1; omega)
  (by have:=nat_mul_in (short_lt a h1).2 (short_lt b h2).2; omega)
 rw [← rmul_eq,Int.natCast_mul] at sm
 have z1:=canonR_beq0 a
 have z2:=canonR_beq0 b
 have o1:=canonR_beq1 a
 have o2:=canonR_beq1 b
 have kz:canonR 0=⟨#[48]⟩:=by rw [canonR_zero,canon_zero]
 have e0:a=0→canonR (a * b)=⟨#[48]⟩:=fun h=>by rw [h,Rat.zero_mul,kz]
 have e1:b=0→canonR (a * b)=⟨#[48]⟩:=fun h=>by rw [h,Rat.mul_zero,kz]
 have e2:a=1→canonR (a * b)=canonR b:=fun h=>by rw [h,Rat.one_mul]
 have e3:b=1→canonR (a * b)=canonR a:=fun h=>by rw [h,Rat.mul_one]
 have ab1:=fun (h1:short a=true)=>(⟨(short_lt a h1).1,by have:=(short_lt a h1).2; omega⟩:a.num.natAbs < 1000000000∧(a.den:Int) < 1000000000)
 have ab2:=fun (h2:short b=true)=>(⟨(short_lt b h2).1,by have:=(short_lt b h2).2; omega⟩:b.num.natAbs < 1000000000∧(b.den:Int) < 1000000000)
 have ap:0≤(a.den:Int):=by omega
 have bp:0≤(b.den:Int):=by omega
 generalize canonR (a * b)=R at *
 generalize canonR a=TA at *
 generalize canonR b=TB at *
 have hz1:a=0 ∨ (TA.toList == [48])=false:=by
  by_cases h:a=0
  ·exact .inl h
  ·exact .inr (by rw [z1]; exact decide_eq_false h)
 rcases hz1 with h | hz1
 ·have hz:(TA.toList == [48])=true:=by rw [z1]; exact decide_eq_true h
  have hr:=e0 h
  subst hr
  clear z1 z2 o1 o2 e0 e1 e2 e3 qa qb pa pb m1 m3 lw sm ab1 ab2
  go_enter Tryz.func39,Tryz.ntmps39
  go_wp2
  go_ret
  exact ⟨rfl,Below.refl _ _⟩
 have hz2:b=0 ∨ (TB.toList == [48])=false:=by
  by_cases h:b=0
  ·exact .inl h
  ·exact .inr (by rw [z2]; exact decide_eq_false h)
 rcases hz2 with h | hz2
 ·have hz:(TB.toList == [48])=true:=by rw [z2]; exact decide_eq_true h
  have hr:=e1 h
  subst hr
  clear z1 z2 o1 o2 e0 e1 e2 e3 qa qb pa pb m1 m3 lw sm ab1 ab2
  go_enter Tryz.func39,Tryz.ntmps39
  go_wp2
  go_ret
  exact ⟨rfl,Below.refl _ _⟩
 have ho1:a=1 ∨ (TA.toList == [49])=false:=by
  by_cases h:a=1
  ·exact .inl h
  ·exact .inr (by rw [o1]; exact decide_eq_false h)
 rcases ho1 with h | ho1
 ·have hz:(TA.toList == [49])=true:=by rw [o1]; exact decide_eq_true h
  have hr:=e2 h
  subst hr
  clear z1 z2 o1 o2 e0 e1 e2 e3 qa qb pa pb m1 m3 lw sm ab1 ab2
  go_enter Tryz.func39,Tryz.ntmps39
  go_wp2
  go_ret
  exact ⟨rfl,Below.refl _ _⟩
 have ho2:b=1 ∨ (TB.toList == [49])=false:=by
  by_cases h:b=1
  ·exact .inl h
  ·exact .inr (by rw [o2]; exact decide_eq_false h)
 rcases ho2 with h | ho2
 ·have hz:(TB.toList == [49])=true:=by rw [o2]; exact decide_eq_true h
  have hr:=e3 h
  subst hr
  clear z1 z2 o1 o2 e0 e1 e2 e3 qa qb pa pb m1 m3 lw sm ab1 ab2
  go_enter Tryz.func39,Tryz.ntmps39
  go_wp2
  go_ret
  exact ⟨rfl,Below.refl _ _⟩
 clear z1 z2 o1 o2 e0 e1 e2 e3
 clear hsa hsb a1 a2 b1 b2 dsz s1 kz ha hb he hN hN0
 generalize a.num=an at *
 generalize b.num=bn at *
 generalize (a.den:Int)=ad' at *
 generalize (b.den:Int)=bd' at *
 have PA:=Lib.hid pa
 have PB:=Lib.hid pb
 have M1:=Lib.hid m1
 have M3:=Lib.hid m3
 have LW:=Lib.hid lw
 clear pa pb m1  m3 lw
 cases hs1:short a with
 | false =>
  rw [hs1] at qa
  simp only [Bool.false_eq_true,if_false] at qa
  have QA:=Lib.hid qa
  clear qa qb sm ab1 ab2 hs1
  go_enter Tryz.func39,Tryz.ntmps39
  go_wp2_with (first
   | (go_at_call_of 55 (Value.string TA); (with_reducible refine (QA.out _).mono ?_); rintro e w1 ⟨rfl,rfl⟩)
   | (go_at_call_of 57 (Value.string TA); (with_reducible refine (PA.out _ (Below.refl _ _)).mono ?_); rintro e w3 ⟨rfl,q⟩; have B3:=Lib.hid (q.below w.heap.size); clear q)
   | (go_at_call_of 57 (Value.string TB); (with_reducible refine (PB.out _ B3.out).mono ?_); rintro e w4 ⟨rfl,q⟩; have B4:=Lib.hid (B3.out.trans (q.below _)); clear q)
   | (go_at_call 59; (with_reducible refine (M1.out _ B4.out).mono ?_); rintro e w5 ⟨rfl,q⟩; have B5:=Lib.hid (B4.out.trans (q.mono B4.out.size)); clear q)
   | (go_at_call 59; (with_reducible refine (M3.out _ B5.out).mono ?_); rintro e w8 ⟨rfl,q⟩; have B8:=Lib.hid (B5.out.trans (q.mono B5.out.size)); clear q)
   | (go_at_call 58; (with_reducible refine (LW.out _ B8.out).mono ?_); rintro e w9 ⟨rfl,q⟩; have B9:=Lib.hid (B8.out.trans (q.mono B8.out.size)); clear q)
   | fail "arm")
  go_ret
  exact ⟨rfl,B9.out⟩
 | true =>
  rw [hs1] at qa
  simp only [if_true] at qa
  have QA:=Lib.hid qa
  cases hs2:short b with
  | false =>
   rw [hs2] at qb
   simp only [Bool.false_eq_true,if_false] at qb
   have QB:=Lib.hid qb
   clear qa qb sm ab1 ab2 hs1 hs2
   go_enter Tryz.func39,Tryz.ntmps39
   go_wp2_with (first
   | (go_at_call_of 55 (Value.string TA); (with_reducible refine (QA.out _).mono ?_); rintro e w1 ⟨rfl,rfl⟩)
   | (go_at_call_of 55 (Value.string TB); (with_reducible refine (QB.out _).mono ?_); rintro e w2 ⟨rfl,rfl⟩)
   | (go_at_call_of 57 (Value.string TA); (with_reducible refine (PA.out _ (Below.refl _ _)).mono ?_); rintro e w3 ⟨rfl,q⟩; have B3:=Lib.hid (q.below w.heap.size); clear q)
   | (go_at_call_of 57 (Value.string TB); (with_reducible refine (PB.out _ B3.out).mono ?_); rintro e w4 ⟨rfl,q⟩; have B4:=Lib.hid (B3.out.trans (q.below _)); clear q)
   | (go_at_call 59; (with_reducible refine (M1.out _ B4.out).mono ?_); rintro e w5 ⟨rfl,q⟩; have B5:=Lib.hid (B4.out.trans (q.mono B4.out.size)); clear q)
   | (go_at_call 59; (with_reducible refine (M3.out _ B5.out).mono ?_); rintro e w8 ⟨rfl,q⟩; have B8:=Lib.hid (B5.out.trans (q.mono B5.out.size)); clear q)
   | (go_at_call 58; (with_reducible refine (LW.out _ B8.out).mono ?_); rintro e w9 ⟨rfl,q⟩; have B9:=Lib.hid (B8.out.trans (q.mono B8.out.size)); clear q)
   | fail "arm")
   go_ret
   exact ⟨rfl,B9.out⟩
  | true =>
   rw [hs2] at qb
   simp only [if_true] at qb
   have QB:=Lib.hid qb
   have SM:=Lib.hid (sm hs1 hs2)
   obtain ⟨u1,u2⟩:=ab1 hs1
   obtain ⟨v1,v2⟩:=ab2 hs2
   have g1:=mul_in (x:=an) (y:=bn) u1 v1
   have g3:=mul_in (x:=ad') (y:=bd') (by omega) (by omega)
   obtain ⟨g1a,g1b⟩:=g1
   obtain ⟨g3a,g3b⟩:=g3
   clear qa qb sm ab1 ab2 hs1 hs2 u1 u2 v1 v2 PA PB M1  M3 LW
   go_enter Tryz.func39,Tryz.ntmps39
   go_wp2_with (first
   | (go_at_call_of 55 (Value.string TA); (with_reducible refine (QA.out _).mono ?_); rintro e w1 ⟨rfl,rfl⟩)
   | (go_at_call_of 55 (Value.string TB); (with_reducible refine (QB.out _).mono ?_); rintro e w2 ⟨rfl,rfl⟩)
   | (go_at_call 56; (with_reducible refine (SM.out _ (Below.refl _ _)).mono ?_); rintro e w9 ⟨rfl,q⟩; have B9:=Lib.hid q; clear q)
   | fail "arm")
   go_ret
   exact ⟨rfl,B9.out⟩

end Go.Proofs.YthhkmihjnnfpgaaGreatDoor
