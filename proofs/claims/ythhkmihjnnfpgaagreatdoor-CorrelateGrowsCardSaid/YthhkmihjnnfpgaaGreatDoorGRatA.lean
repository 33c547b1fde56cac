/- Package rational: lowest terms, sums and products. -/
import Derived.Test.YthhkmihjnnfpgaaGreatDoorGRat
import Derived.Test.YthhkmihjnnfpgaaGreatDoorGRefB
import Derived.Test.YthhkmihjnnfpgaaGreatDoorGInt
/- The walks of rational.Parts, join and lowest. -/
namespace Go.Proofs.YthhkmihjnnfpgaaGreatDoor
set_option linter.all false
open Go.RowKit

theorem cell_block {w:World} {a:Addr} {v:Value} (h:w.cell? a=some v):a.block < w.heap.size:=by
 rcases Nat.lt_or_ge a.block w.heap.size with h1 | h1
 ·exact h1
 ·unfold World.cell? at h
  rw [Array.getElem?_eq_none h1] at h
  cases h

def MaxL (w:World):Prop:=∃ m,w.cell? ⟨0, 0,none⟩=some (.int .i64 m)

theorem MaxL.below {w w':World} (h:MaxL w) (hb:Below w.heap.size w w'):MaxL w':=by
 obtain ⟨m,hm⟩:=h
 exact ⟨m,(hb.cell (p:=⟨0, 0,none⟩) (cell_block hm)).trans hm⟩

def Env (w:World):Prop:=Pow10 w∧MaxL w
theorem Env.below {w w':World} (h:Env w) (hb:Below w.heap.size w w'):Env w':=⟨h.1.below hb,h.2.below hb⟩

theorem canon_beq1 (a:Int):((canon a).toList == [49])=decide (a=1):=by rw [← canon_one_list]; exact canon_beq a 1

theorem rparts_any (n:Int) (d:Nat) (w:World) (hm:MaxL w) (hs:(ratT n d).size≤1000000) :
  Calls Tryz.prog 57 #[.string (ratT n d)] w fun e w'=>e=.returned (.tuple #[.string (canon n),.string (canon (d:Int))])∧Drew w w':=by
 obtain ⟨m,hm⟩:=hm
 have hc:=Tryz.strings_Cut (ratT n d) ⟨#[47]⟩ m w (by omega) hm
 rw [show (ratT n d).data.toList=ratL n d from rfl,show (⟨#[47]⟩:ByteArray).data.toList=[47] from rfl,cut_ratL] at hc
 have hk:=k_1
 by_cases h:d=1
 ·subst h
  rw [if_pos rfl] at hc
  have hc':Calls Tryz.prog 88 #[.string (ratT n 1),.string ⟨#[47]⟩] w fun e w'=>e=.returned (.tuple #[.string (canon n),.string ⟨#[]⟩,.bool false])∧∃ k,w'=w.drewN k:=hc
  have hk2:canon ((1:Nat):Int)=⟨#[49]⟩:=hk
  have HC:=Lib.hid hc'
  rw [hk2]
  clear hc hc' hk hk2 hm hs
  generalize ratT n 1=T at *
  go_enter Tryz.func57, Tryz.ntmps57
  go_wp2_with (go_at_call 88; (with_reducible refine HC.out.mono ?_); rintro e w1 ⟨rfl,nd,rfl⟩)
  go_ret2
  exact ⟨rfl,Drew.of _ _⟩
 ·rw [if_neg h] at hc
  have hc':Calls Tryz.prog 88 #[.string (ratT n d),.string ⟨#[47]⟩] w fun e w'=>e=.returned (.tuple #[.string (canon n),.string ⟨(Lib.decDigits d).toArray⟩,.bool true])∧∃ k,w'=w.drewN k:=hc
  rw [← canon_nat d] at hc'
  have HC:=Lib.hid hc'
  clear hc hc' hk hm hs h
  generalize ratT n d=T at *
  go_enter Tryz.func57, Tryz.ntmps57
  go_wp2_with (go_at_call 88; (with_reducible refine HC.out.mono ?_); rintro e w1 ⟨rfl,nd,rfl⟩)
  go_ret2
  exact ⟨rfl,Drew.of _ _⟩

theorem join_any (n:Int) (d:Nat) (w:World) (hn:(canon n).size≤1000000) (hd:(canon (d:Int)).size≤1000000) :
  Calls Tryz.prog 93 #[.string (canon n),.string (canon (d:Int))] w fun e w'=>e=.returned (.string (ratT n d))∧w=w':=by
 have hb:=canon_beq1 (d:Int)
 by_cases h:d=1
 ·subst h
  have hb1:((canon ((1:Nat):Int)).toList == [49])=true:=by rw [hb]; rfl
  rw [ratT_one]
  clear hb
  generalize canon ((1:Nat):Int)=D at *
  go_enter Tryz.func93, Tryz.ntmps93
  go_wp2
  go_ret
  exact ⟨rfl,rfl⟩
 ·have hb1:((canon (d:Int)).toList == [49])=false:=by rw [hb]; exact decide_eq_false (by omega)
  rw [ratT_frac n d h]
  clear hb h
  generalize canon (d:Int)=D at *
  generalize canon n=T at *
  go_enter Tryz.func93, Tryz.ntmps93
  go_wp2
  go_ret
  exact ⟨rfl,rfl⟩

theorem gcd_pos (n:Int) (D:Nat) (hD:0 < D):0 < n.natAbs.gcd D:=Nat.gcd_pos_of_pos_right _ hD

set_option maxRecDepth 100000 in
set_option maxHeartbeats 4000000 in
theorem lowest_any (neg:Bool) (n:Int) (D:Nat) (w:World) (ht:Pow10 w) (hD:0 < D) (hn:(canon n).size≤9000) (hd:(canon (D:Int)).size≤9000) :
  Calls Tryz.prog 58 #[.string (canon (if neg then -n else n)),.string (canon (if neg then -(D:Int) else (D:Int)))] w fun e w'=>e=.returned (.string (canonR (mkRat n D)))∧Below w.heap.size w w':=by
 have hg:=fun W (hW:Below w.heap.size w W)=>gcd_any n (D:Int) W (ht.below hW) (by omega) (by omega)
 rw [show Int.gcd n (D:Int)=n.natAbs.gcd D from rfl] at hg
 have hgp:=gcd_pos n D hD
 have hmk:=canonR_mk n D (by omega)
 have hgD:n.natAbs.gcd D≤D:=Nat.gcd_le_right _ hD
 have hgs:(canon ((n.natAbs.gcd D:Nat):Int)).size≤9001:=by
  have h1:=itoa_len_small (z:=(D:Int)) (k:=9000) hd
  rw [Int.natAbs_natCast] at h1
  exact canon_size_lt _ 9000 (by rw [Int.natAbs_natCast]; omega) (by omega)
 have d1:=fun W (hW:Below w.heap.size w W)=>divmod_any n ((n.natAbs.gcd D:Nat):Int) W (ht.below hW) (by omega) (by omega) (by omega)
 have d2:=fun W (hW:Below w.heap.size w W)=>divmod_any (D:Int) ((n.natAbs.gcd D:Nat):Int) W (ht.below hW) (by omega) (by omega) (by omega)
 have hqn:(canon (n / ((n.natAbs.gcd D:Nat):Int))).size≤9001:=by
  have h1:=itoa_len_small (z:=n) (k:=9000) hn
  exact canon_size_lt _ 9000 (Nat.lt_of_le_of_lt (Int.natAbs_ediv_le_natAbs _ _) h1) (by omega)
 have hqd:(canon ((D / n.natAbs.gcd D:Nat):Int)).size≤9001:=by
  have h1:=itoa_len_small (z:=(D:Int)) (k:=9000) hd
  rw [Int.natAbs_natCast] at h1
  exact canon_size_lt _ 9000 (by rw [Int.natAbs_natCast]; exact Nat.lt_of_le_of_lt (Nat.div_le_self _ _) h1) (by omega)
 rw [show (D:Int) / ((n.natAbs.gcd D:Nat):Int)=((D / n.natAbs.gcd D:Nat):Int) by simp] at d2
 have j1:=fun W=>join_any (n / ((n.natAbs.gcd D:Nat):Int)) (D / n.natAbs.gcd D) W (by omega) (by omega)
 rw [← hmk] at j1
 have hb1:=canon_beq1 ((n.natAbs.gcd D:Nat):Int)
 have n1:=fun W=>neg_any (-n) W (by have:=canon_neg_size n 9000 hn; omega)
 have n2:=fun W=>neg_any (-(D:Int)) W (by have:=canon_neg_size (D:Int) 9000 hd; omega)
 rw [Int.neg_neg] at n1 n2
 have s1:=fun W=>sign_any (if neg=true then -(D:Int) else (D:Int)) W
 have e1:n.natAbs.gcd D=1→canonR (mkRat n D)=ratT n D:=fun h=>by rw [hmk,h]; simp
 have j2:=fun W=>join_any n D W (by omega) (by omega)
 have hsg:(if neg=true then -(D:Int) else (D:Int)).sign=if neg=true then -1 else 1:=by
  cases neg
  ·rw [if_neg (by simp),if_neg (by simp)]; exact Int.sign_eq_one_of_pos (by omega)
  ·rw [if_pos rfl,if_pos rfl]; exact Int.sign_eq_neg_one_of_neg (by omega)
 rw [hsg] at s1
 obtain ⟨g,hgg⟩:∃ g,n.natAbs.gcd D=g:=⟨_,rfl⟩
 rw [hgg] at hg d1 d2 j1 hb1 e1
 obtain ⟨R,hR⟩:∃ R,canonR (mkRat n D)=R:=⟨_,rfl⟩
 obtain ⟨dg,hdg⟩:∃ x,D / g=x:=⟨_,rfl⟩
 obtain ⟨ng,hng⟩:∃ x,n / (g:Int)=x:=⟨_,rfl⟩
 rw [hR] at j1 e1 ⊢
 rw [hdg] at d2 j1
 rw [hng] at d1 j1
 have HG:=Lib.hid hg
 have D1:=Lib.hid d1
 have D2:=Lib.hid d2
 have J1:=Lib.hid j1
 have J2:=Lib.hid j2
 have N1:=Lib.hid n1
 have N2:=Lib.hid n2
 have HB1:=Lib.hid hb1
 have E1:=Lib.hid e1
 clear hg d1 d2 j1 j2 n1 n2 hb1 e1 hsg hmk hgD hgs hqn hqd hn hd ht hgg hR hdg hng hgp
 by_cases h1:g=1
 ·have hbt:((canon (g:Int)).toList == [49])=true:=by rw [HB1.out,h1]; rfl
  have hbn:((canon (g:Int)).toList != [49])=false:=by rw [bne,hbt]; rfl
  have J3:=Lib.hid (fun W=>by have:=J2.out W; rw [← E1.out h1] at this; exact this)
  clear J1 J2 D1 D2 E1 HB1 h1
  cases neg with
  | false =>
   rw [if_neg (by simp),if_neg (by simp)] at s1 ⊢
   have S1:=Lib.hid s1
   clear s1
   go_enter Tryz.func58, Tryz.ntmps58
   go_wp2_with (first
    | (go_at_call 89; (with_reducible refine (S1.out _).mono ?_); rintro e w1 ⟨rfl,rfl⟩)
    | (go_at_call 91; (with_reducible refine (HG.out _ (Below.refl _ _)).mono ?_); rintro e w2 ⟨rfl,q⟩; have B2:=Lib.hid q; clear q)
    | (go_at_call 93; (with_reducible refine (J3.out _).mono ?_); rintro e w3 ⟨rfl,rfl⟩)
    | fail "arm")
   go_ret
   exact ⟨rfl,B2.out⟩
  | true =>
   rw [if_pos rfl,if_pos rfl] at s1 ⊢
   have S1:=Lib.hid s1
   clear s1
   go_enter Tryz.func58, Tryz.ntmps58
   go_wp2_with (first
    | (go_at_call 89; (with_reducible refine (S1.out _).mono ?_); rintro e w1 ⟨rfl,rfl⟩)
    | (go_at_call_of 90 (Value.string (canon (-n))); (with_reducible refine (N1.out _).mono ?_); rintro e w4 ⟨rfl,q⟩; have B4:=Lib.hid q; clear q)
    | (go_at_call_of 90 (Value.string (canon (-(D:Int)))); (with_reducible refine (N2.out _).mono ?_); rintro e w5 ⟨rfl,q⟩; have B5:=Lib.hid (B4.out.trans (q.mono B4.out.size)); clear q)
    | (go_at_call 91; (with_reducible refine (HG.out _ B5.out).mono ?_); rintro e w2 ⟨rfl,q⟩; have B2:=Lib.hid (B5.out.trans (q.mono B5.out.size)); clear q)
    | (go_at_call 93; (with_reducible refine (J3.out _).mono ?_); rintro e w3 ⟨rfl,rfl⟩)
    | fail "arm")
   go_ret
   exact ⟨rfl,B2.out⟩
 ·have hbt:((canon (g:Int)).toList == [49])=false:=by rw [HB1.out]; exact decide_eq_false (by omega)
  have hbn:((canon (g:Int)).toList != [49])=true:=by rw [bne,hbt]; rfl
  clear J2 E1 HB1
  cases neg with
  | false =>
   rw [if_neg (by simp),if_neg (by simp)] at s1 ⊢
   have S1:=Lib.hid s1
   clear s1
   go_enter Tryz.func58, Tryz.ntmps58
   go_wp2_with (first
    | (go_at_call 89; (with_reducible refine (S1.out _).mono ?_); rintro e w1 ⟨rfl,rfl⟩)
    | (go_at_call 91; (with_reducible refine (HG.out _ (Below.refl _ _)).mono ?_); rintro e w2 ⟨rfl,q⟩; have B2:=Lib.hid q; clear q)
    | (go_at_call_of 92 (Value.string (canon n)); (with_reducible refine (D1.out _ B2.out).mono ?_); rintro e w6 ⟨rfl,q⟩; have B6:=Lib.hid (B2.out.trans (q.mono B2.out.size)); clear q)
    | (go_at_call 92; (with_reducible refine (D2.out _ B6.out).mono ?_); rintro e w7 ⟨rfl,q⟩; have B7:=Lib.hid (B6.out.trans (q.mono B6.out.size)); clear q)
    | (go_at_call 93; (with_reducible refine (J1.out _).mono ?_); rintro e w3 ⟨rfl,rfl⟩)
    | fail "arm")
   go_ret
   exact ⟨rfl,B7.out⟩
  | true =>
   rw [if_pos rfl,if_pos rfl] at s1 ⊢
   have S1:=Lib.hid s1
   clear s1
   go_enter Tryz.func58, Tryz.ntmps58
   go_wp2_with (first
    | (go_at_call 89; (with_reducible refine (S1.out _).mono ?_); rintro e w1 ⟨rfl,rfl⟩)
    | (go_at_call_of 90 (Value.string (canon (-n))); (with_reducible refine (N1.out _).mono ?_); rintro e w4 ⟨rfl,q⟩; have B4:=Lib.hid q; clear q)
    | (go_at_call_of 90 (Value.string (canon (-(D:Int)))); (with_reducible refine (N2.out _).mono ?_); rintro e w5 ⟨rfl,q⟩; have B5:=Lib.hid (B4.out.trans (q.mono B4.out.size)); clear q)
    | (go_at_call 91; (with_reducible refine (HG.out _ B5.out).mono ?_); rintro e w2 ⟨rfl,q⟩; have B2:=Lib.hid (B5.out.trans (q.mono B5.out.size)); clear q)
    | (go_at_call_of 92 (Value.string (canon n)); (with_reducible refine (D1.out _ B2.out).mono ?_); rintro e w6 ⟨rfl,q⟩; have B6:=Lib.hid (B2.out.trans (q.mono B2.out.size)); clear q)
    | (go_at_call 92; (with_reducible refine (D2.out _ B6.out).mono ?_); rintro e w7 ⟨rfl,q⟩; have B7:=Lib.hid (B6.out.trans (q.mono B6.out.size)); clear q)
    | (go_at_call 93; (with_reducible refine (J1.out _).mono ?_); rintro e w3 ⟨rfl,rfl⟩)
    | fail "arm")
   go_ret
   exact ⟨rfl,B7.out⟩

end Go.Proofs.YthhkmihjnnfpgaaGreatDoor

/- The walks of rational.Add and Mul. -/
namespace Go.Proofs.YthhkmihjnnfpgaaGreatDoor
set_option linter.all false
open Go.RowKit

def Sz (q:Rat) (N:Nat):Prop:=q.num.natAbs < 10 ^ N∧q.den < 10 ^ N

theorem Sz.mono {q:Rat} {N M:Nat} (h:Sz q N) (hNM:N≤M):Sz q M:=by
 have h1:(10:Nat) ^ N≤10 ^ M:=Nat.pow_le_pow_right (by omega) hNM
 exact ⟨Nat.lt_of_lt_of_le h.1 h1,Nat.lt_of_lt_of_le h.2 h1⟩

theorem Sz.num {q:Rat} {N:Nat} (h:Sz q N) (h0:0 < N):(canon q.num).size≤N + 1:=canon_size_lt _ N h.1 h0
theorem Sz.den {q:Rat} {N:Nat} (h:Sz q N) (h0:0 < N):(canon (q.den:Int)).size≤N + 1:=canon_size_lt _ N (by rw [Int.natAbs_natCast]; exact h.2) h0

theorem ratT_size (n:Int) (d:Nat):(ratT n d).size≤(canon n).size + 1 + (canon (d:Int)).size:=by
 show (ratL n d).length≤(Lib.itoa n).length + 1 + (Lib.itoa (d:Int)).length
 unfold ratL
 rw [itoa_of_nat]
 split
 ·omega
 ·rw [List.length_append,List.length_cons]; omega

theorem Sz.text {q:Rat} {N:Nat} (h:Sz q N) (h0:0 < N):(canonR q).size≤2 * N + 3:=by
 have h1:=ratT_size q.num q.den
 have h2:=h.num h0
 have h3:=h.den h0
 have h4:(canonR q).size=(ratT q.num q.den).size:=rfl
 omega

theorem mk_bounds (n:Int) (d:Nat) (hd:d ≠ 0):(mkRat n d).num.natAbs≤n.natAbs∧(mkRat n d).den≤d:=by
 rw [Rat.mkRat_def,dif_neg hd,Rat.normalize_eq]
 exact ⟨Int.natAbs_ediv_le_natAbs _ _,Nat.div_le_self _ _⟩

theorem radd_eq (a b:Rat):a + b=mkRat (a.num * (b.den:Int) + b.num * (a.den:Int)) (a.den * b.den):=by
 rw [Rat.add_def,Rat.normalize_eq_mkRat]
theorem rmul_eq (a b:Rat):a * b=mkRat (a.num * b.num) (a.den * b.den):=by
 rw [Rat.mul_def,Rat.normalize_eq_mkRat]

theorem den_mul_ne (a b:Rat):a.den * b.den ≠ 0:=Nat.mul_ne_zero a.den_nz b.den_nz
theorem den_mul_pos (a b:Rat):0 < a.den * b.den:=Nat.pos_of_ne_zero (den_mul_ne a b)

theorem nat_mul_pow {x y N M:Nat} (hx:x < 10 ^ N) (hy:y < 10 ^ M):x * y < 10 ^ (N + M):=by
 rw [Nat.pow_add]
 exact Nat.mul_lt_mul'' hx hy

theorem add_abs_lt {x y:Int} {N:Nat} (hx:x.natAbs < 10 ^ N) (hy:y.natAbs < 10 ^ N):(x + y).natAbs < 10 ^ (N + 1):=by
 rw [Nat.pow_succ]
 generalize (10:Nat) ^ N=s at *
 omega

theorem cross_lt {a b:Rat} {N:Nat} (ha:Sz a N) (hb:Sz b N):(a.num * (b.den:Int)).natAbs < 10 ^ (N + N):=by
 rw [Int.natAbs_mul,Int.natAbs_natCast]
 exact nat_mul_pow ha.1 hb.2
theorem dens_lt {a b:Rat} {N:Nat} (ha:Sz a N) (hb:Sz b N):a.den * b.den < 10 ^ (N + N):=nat_mul_pow ha.2 hb.2

theorem Sz.add {a b:Rat} {N:Nat} (ha:Sz a N) (hb:Sz b N):Sz (a + b) (N + N + 1):=by
 obtain ⟨h1,h2⟩:=mk_bounds (a.num * (b.den:Int) + b.num * (a.den:Int)) (a.den * b.den) (den_mul_ne a b)
 rw [← radd_eq] at h1 h2
 have h3:=add_abs_lt (cross_lt ha hb) (cross_lt hb ha)
 have h4:=dens_lt ha hb
 have h5:(10:Nat) ^ (N + N)≤10 ^ (N + N + 1):=Nat.pow_le_pow_right (by omega) (by omega)
 exact ⟨Nat.lt_of_le_of_lt h1 h3,by omega⟩

theorem rlowest_any (n:Int) (D:Nat) (w:World) (ht:Pow10 w) (hD:0 < D) (hn:(canon n).size≤9000) (hd:(canon (D:Int)).size≤9000) :
  Calls Tryz.prog 58 #[.string (canon n),.string (canon (D:Int))] w fun e w'=>e=.returned (.string (canonR (mkRat n D)))∧Below w.heap.size w w':=by
 have h:=lowest_any false n D w ht hD hn hd
 rw [if_neg (by simp),if_neg (by simp)] at h
 exact h

theorem mul_in {x y:Int} (hx:x.natAbs < 1000000000) (hy:y.natAbs < 1000000000):-1000000000000000000≤x * y∧x * y≤1000000000000000000:=by
 have h1:(x * y).natAbs < 1000000000 * 1000000000:=by
  rw [Int.natAbs_mul]
  exact Nat.mul_lt_mul'' hx hy
 omega

theorem nat_mul_in {x y:Nat} (hx:x < 1000000000) (hy:y < 1000000000):x * y≤1000000000000000000:=by
 have:=Nat.mul_lt_mul'' hx hy
 omega

set_option maxRecDepth 100000 in
set_option maxHeartbeats 8000000 in
theorem radd_any (a b:Rat) (N:Nat) (hN0:0 < N) (hN:N≤1000) (ha:Sz a N) (hb:Sz b N) (w:World) (he:Env w) :
  Calls Tryz.prog 21 #[.string (canonR a),.string (canonR b)] w fun e w'=>e=.returned (.string (canonR (a + b)))∧Below w.heap.size w w':=by
 have hsa:=ha.text hN0
 have hsb:=hb.text hN0
 have qa:=fun W=>rquick_any a W (by omega)
 have qb:=fun W=>rquick_any b W (by omega)
 have pa:=fun W (hW:Below w.heap.size w W)=>rparts_any a.num a.den W (he.below hW).2 (by have:(ratT a.num a.den).size=(canonR a).size:=rfl; omega)
 have pb:=fun W (hW:Below w.heap.size w W)=>rparts_any b.num b.den W (he.below hW).2 (by have:(ratT b.num b.den).size=(canonR b).size:=rfl; omega)
 rw [show ratT a.num a.den=canonR a from rfl] at pa
 rw [show ratT b.num b.den=canonR b from rfl] at pb
 have a1:=ha.num hN0
 have a2:=ha.den hN0
 have b1:=hb.num hN0
 have b2:=hb.den hN0
 have dsz:(canon ((a.den:Int) * (b.den:Int))).size≤N + N + 1:=by
  rw [← Int.natCast_mul]
  exact canon_size_lt _ (N + N) (by rw [Int.natAbs_natCast]; exact dens_lt ha hb) (by omega)
 have m3:=fun W (hW:Below w.heap.size w W)=>mul_any (a.den:Int) (b.den:Int) W (he.below hW).1 (by omega) (by omega)
 have c1:=cross_lt ha hb
 have c2:=cross_lt hb ha
 have s1:=canon_size_lt _ (N + N) c1 (by omega)
 have s2:=canon_size_lt _ (N + N) c2 (by omega)
 have s3:=canon_size_lt _ (N + N + 1) (add_abs_lt c1 c2) (by omega)
 have m1:=fun W (hW:Below w.heap.size w W)=>mul_any a.num (b.den:Int) W (he.below hW).1 (by omega) (by omega)
 have m2:=fun W (hW:Below w.heap.size w W)=>mul_any b.num (a.den:Int) W (he.below hW).1 (by omega) (by omega)
 have ad:=fun W (hW:Below w.heap.size w W)=>add_any (a.num * (b.den:Int)) (b.num * (a.den:Int)) W (he.below hW).1 (by omega) (by omega)
 have lw:=fun W (hW:Below w.heap.size w W)=>rlowest_any (a.num * (b.den:Int) + b.num * (a.den:Int)) (a.den * b.den) W (he.below hW).1 (den_mul_pos a b) (by omega) (by rw [Int.natCast_mul]; omega)
 rw [← radd_eq,Int.natCast_mul] at lw
 have sm:=fun (h1:short a=true) (h2:short b=true) W (hW:Below w.heap.size w W)=>small_of (a.num * (b.den:Int) + b.num * (a.den:Int)) (a.den * b.den) W (he.below hW).1 (den_mul_pos a b)
  (by have:=mul_in (x:=a.num) (y:=(b.den:Int)) (short_lt a h1).1 (by have:=(short_lt b h2).2; omega); have:=mul_in (x:=b.num) (y:=(a.den:Int)) (short_lt b h2).1 (by have:=(short_lt a h1).2; omega); omega)
  (by have:=mul_in (x:=a.num) (y:=(b.den:Int)) (short_lt a h1).1 (by have:=(short_lt b h2).2; omega); have:=mul_in (x:=b.num) (y:=(a.den:Int)) (short_lt b h2).1 (by have:=(short_lt a h1).2; omega); omega)
  (by have:=nat_mul_in (short_lt a h1).2 (short_lt b h2).2; omega)
 rw [← radd_eq,Int.natCast_mul] at sm
 have z1:=canonR_beq0 a
 have z2:=canonR_beq0 b
 have e0:a=0→canonR (a + b)=canonR b:=fun h=>by rw [h,Rat.zero_add]
 have e1:b=0→canonR (a + b)=canonR a:=fun h=>by rw [h,Rat.add_zero]
 have ab1:=fun (h1:short a=true)=>(⟨(short_lt a h1).1,by have:=(short_lt a h1).2; omega⟩:a.num.natAbs < 1000000000∧(a.den:Int) < 1000000000)
 have ab2:=fun (h2:short b=true)=>(⟨(short_lt b h2).1,by have:=(short_lt b h2).2; omega⟩:b.num.natAbs < 1000000000∧(b.den:Int) < 1000000000)
 have ap:0≤(a.den:Int):=by omega
 have bp:0≤(b.den:Int):=by omega
 generalize canonR (a + b)=R at *
 generalize canonR a=TA at *
 generalize canonR b=TB at *
 have hz1:a=0 ∨ (TA.toList == [48])=false:=by
  by_cases h:a=0
  ·exact .inl h
  ·exact .inr (by rw [z1]; exact decide_eq_false h)
 have hz2:b=0 ∨ (TB.toList == [48])=false:=by
  by_cases h:b=0
  ·exact .inl h
  ·exact .inr (by rw [z2]; exact decide_eq_false h)
 rcases hz1 with h | hz1
 ·have hz:(TA.toList == [48])=true:=by rw [z1]; exact decide_eq_true h
  have hr:=e0 h
  subst hr
  clear z1 z2 e0 e1 qa qb pa pb m1 m2 m3 ad lw sm ab1 ab2
  go_enter Tryz.func21, Tryz.ntmps21
  go_wp2
  go_ret
  exact ⟨rfl,Below.refl _ _⟩
 rcases hz2 with h | hz2
 ·have hz:(TB.toList == [48])=true:=by rw [z2]; exact decide_eq_true h
  have hr:=e1 h
  subst hr
  clear z1 z2 e0 e1 qa qb pa pb m1 m2 m3 ad lw sm ab1 ab2
  go_enter Tryz.func21, Tryz.ntmps21
  go_wp2
  go_ret
  exact ⟨rfl,Below.refl _ _⟩
 clear z1 z2 e0 e1
 clear hsa hsb a1 a2 b1 b2 dsz s1 c1 c2 s2 s3 ha hb he hN hN0
 generalize a.num=an at *
 generalize b.num=bn at *
 generalize (a.den:Int)=ad' at *
 generalize (b.den:Int)=bd' at *
 have PA:=Lib.hid pa
 have PB:=Lib.hid pb
 have M1:=Lib.hid m1
 have M2:=Lib.hid m2
 have AD:=Lib.hid ad
 have M3:=Lib.hid m3
 have LW:=Lib.hid lw
 clear pa pb m1 m2 ad m3 lw
 cases hs1:short a with
 | false =>
  rw [hs1] at qa
  simp only [Bool.false_eq_true,if_false] at qa
  have QA:=Lib.hid qa
  clear qa qb sm ab1 ab2 hs1
  go_enter Tryz.func21, Tryz.ntmps21
  go_wp2_with (first
   | (go_at_call_of 55 (Value.string TA); (with_reducible refine (QA.out _).mono ?_); rintro e w1 ⟨rfl,rfl⟩)
   | (go_at_call_of 57 (Value.string TA); (with_reducible refine (PA.out _ (Below.refl _ _)).mono ?_); rintro e w3 ⟨rfl,q⟩; have B3:=Lib.hid (q.below w.heap.size); clear q)
   | (go_at_call_of 57 (Value.string TB); (with_reducible refine (PB.out _ B3.out).mono ?_); rintro e w4 ⟨rfl,q⟩; have B4:=Lib.hid (B3.out.trans (q.below _)); clear q)
   | (go_at_call 59; (with_reducible refine (M1.out _ B4.out).mono ?_); rintro e w5 ⟨rfl,q⟩; have B5:=Lib.hid (B4.out.trans (q.mono B4.out.size)); clear q)
   | (go_at_call 59; (with_reducible refine (M2.out _ B5.out).mono ?_); rintro e w6 ⟨rfl,q⟩; have B6:=Lib.hid (B5.out.trans (q.mono B5.out.size)); clear q)
   | (go_at_call 52; (with_reducible refine (AD.out _ B6.out).mono ?_); rintro e w7 ⟨rfl,q⟩; have B7:=Lib.hid (B6.out.trans (q.mono B6.out.size)); clear q)
   | (go_at_call 59; (with_reducible refine (M3.out _ B7.out).mono ?_); rintro e w8 ⟨rfl,q⟩; have B8:=Lib.hid (B7.out.trans (q.mono B7.out.size)); clear q)
   | (go_at_call 58; (with_reducible refine (LW.out _ B8.out).mono ?_); rintro e w9 ⟨rfl,q⟩; have B9:=Lib.hid (B8.out.trans (q.mono B8.out.size)); clear q)
   | fail "arm")
  go_ret
  exact ⟨rfl,B9.out⟩
 | true =>
  rw [hs1] at qa
  simp only [if_true] at qa
  have QA:=Lib.hid qa
  cases hs2:short b with
  | false =>
   rw [hs2] at qb
   simp only [Bool.false_eq_true,if_false] at qb
   have QB:=Lib.hid qb
   clear qa qb sm ab1 ab2 hs1 hs2
   go_enter Tryz.func21, Tryz.ntmps21
   go_wp2_with (first
   | (go_at_call_of 55 (Value.string TA); (with_reducible refine (QA.out _).mono ?_); rintro e w1 ⟨rfl,rfl⟩)
   | (go_at_call_of 55 (Value.string TB); (with_reducible refine (QB.out _).mono ?_); rintro e w2 ⟨rfl,rfl⟩)
   | (go_at_call_of 57 (Value.string TA); (with_reducible refine (PA.out _ (Below.refl _ _)).mono ?_); rintro e w3 ⟨rfl,q⟩; have B3:=Lib.hid (q.below w.heap.size); clear q)
   | (go_at_call_of 57 (Value.string TB); (with_reducible refine (PB.out _ B3.out).mono ?_); rintro e w4 ⟨rfl,q⟩; have B4:=Lib.hid (B3.out.trans (q.below _)); clear q)
   | (go_at_call 59; (with_reducible refine (M1.out _ B4.out).mono ?_); rintro e w5 ⟨rfl,q⟩; have B5:=Lib.hid (B4.out.trans (q.mono B4.out.size)); clear q)
   | (go_at_call 59; (with_reducible refine (M2.out _ B5.out).mono ?_); rintro e w6 ⟨rfl,q⟩; have B6:=Lib.hid (B5.out.trans (q.mono B5.out.size)); clear q)
   | (go_at_call 52; (with_reducible refine (AD.out _ B6.out).mono ?_); rintro e w7 ⟨rfl,q⟩; have B7:=Lib.hid (B6.out.trans (q.mono B6.out.size)); clear q)
   | (go_at_call 59; (with_reducible refine (M3.out _ B7.out).mono ?_); rintro e w8 ⟨rfl,q⟩; have B8:=Lib.hid (B7.out.trans (q.mono B7.out.size)); clear q)
   | (go_at_call 58; (with_reducible refine (LW.out _ B8.out).mono ?_); rintro e w9 ⟨rfl,q⟩; have B9:=Lib.hid (B8.out.trans (q.mono B8.out.size)); clear q)
   | fail "arm")
   go_ret
   exact ⟨rfl,B9.out⟩
  | true =>
   rw [hs2] at qb
   simp only [if_true] at qb
   have QB:=Lib.hid qb
   have SM:=Lib.hid (sm hs1 hs2)
   obtain ⟨u1,u2⟩:=ab1 hs1
   obtain ⟨v1,v2⟩:=ab2 hs2
   have g1:=mul_in (x:=an) (y:=bd') u1 (by omega)
   have g2:=mul_in (x:=bn) (y:=ad') v1 (by omega)
   have g3:=mul_in (x:=ad') (y:=bd') (by omega) (by omega)
   obtain ⟨g1a,g1b⟩:=g1
   obtain ⟨g2a,g2b⟩:=g2
   obtain ⟨g3a,g3b⟩:=g3
   clear qa qb sm ab1 ab2 hs1 hs2 u1 u2 v1 v2 PA PB M1 M2 AD M3 LW
   go_enter Tryz.func21, Tryz.ntmps21
   go_wp2_with (first
   | (go_at_call_of 55 (Value.string TA); (with_reducible refine (QA.out _).mono ?_); rintro e w1 ⟨rfl,rfl⟩)
   | (go_at_call_of 55 (Value.string TB); (with_reducible refine (QB.out _).mono ?_); rintro e w2 ⟨rfl,rfl⟩)
   | (go_at_call 56; (with_reducible refine (SM.out _ (Below.refl _ _)).mono ?_); rintro e w9 ⟨rfl,q⟩; have B9:=Lib.hid q; clear q)
   | fail "arm")
   go_ret
   exact ⟨rfl,B9.out⟩

set_option maxRecDepth 100000 in
set_option maxHeartbeats 8000000 in
theorem rmul_any (a b:Rat) (N:Nat) (hN0:0 < N) (hN:N≤1000) (ha:Sz a N) (hb:Sz b N) (w:World) (he:Env w) :
  Calls Tryz.prog 39 #[.string (canonR a),.string (canonR b)] w fun e w'=>e=.returned (.string (canonR (a * b)))∧Below w.heap.size w w':=by
 have hsa:=ha.text hN0
 have hsb:=hb.text hN0
 have qa:=fun W=>rquick_any a W (by omega)
 have qb:=fun W=>rquick_any b W (by omega)
 have pa:=fun W (hW:Below w.heap.size w W)=>rparts_any a.num a.den W (he.below hW).2 (by have:(ratT a.num a.den).size=(canonR a).size:=rfl; omega)
 have pb:=fun W (hW:Below w.heap.size w W)=>rparts_any b.num b.den W (he.below hW).2 (by have:(ratT b.num b.den).size=(canonR b).size:=rfl; omega)
 rw [show ratT a.num a.den=canonR a from rfl] at pa
 rw [show ratT b.num b.den=canonR b from rfl] at pb
 have a1:=ha.num hN0
 have a2:=ha.den hN0
 have b1:=hb.num hN0
 have b2:=hb.den hN0
 have dsz:(canon ((a.den:Int) * (b.den:Int))).size≤N + N + 1:=by
  rw [← Int.natCast_mul]
  exact canon_size_lt _ (N + N) (by rw [Int.natAbs_natCast]; exact dens_lt ha hb) (by omega)
 have m3:=fun W (hW:Below w.heap.size w W)=>mul_any (a.den:Int) (b.den:Int) W (he.below hW).1 (by omega) (by omega)
 have s1:(canon (a.num * b.num)).size≤N + N + 1:=canon_size_lt _ (N + N) (by rw [Int.natAbs_mul]; exact nat_mul_pow ha.1 hb.1) (by omega)
 have m1:=fun W (hW:Below w.heap.size w W)=>mul_any a.num b.num W (he.below hW).1 (by omega) (by omega)
 have lw:=fun W (hW:Below w.heap.size w W)=>rlowest_any (a.num * b.num) (a.den * b.den) W (he.below hW).1 (den_mul_pos a b) (by omega) (by rw [Int.natCast_mul]; omega)
 rw [← rmul_eq,Int.natCast_mul] at lw
 have sm:=fun (h1:short a=true) (h2:short b=true) W (hW:Below w.heap.size w W)=>small_of (a.num * b.num) (a.den * b.den) W (he.below hW).1 (den_mul_pos a b)
  (by have:=mul_in (x:=a.num) (y:=b.num) (short_lt a h1).1 (short_lt b h2).1; omega)
  (by have:=mul_in (x:=a.num) (y:=b.num) (short_lt a h1).1 (short_lt b h2).1; omega)
  (by have:=nat_mul_in (short_lt a h1).2 (short_lt b h2).2; omega)
 rw [← rmul_eq,Int.natCast_mul] at sm
 have z1:=canonR_beq0 a
 have z2:=canonR_beq0 b
 have o1:=canonR_beq1 a
 have o2:=canonR_beq1 b
 have kz:canonR 0=⟨#[48]⟩:=by rw [canonR_zero,canon_zero]
 have e0:a=0→canonR (a * b)=⟨#[48]⟩:=fun h=>by rw [h,Rat.zero_mul,kz]
 have e1:b=0→canonR (a * b)=⟨#[48]⟩:=fun h=>by rw [h,Rat.mul_zero,kz]
 have e2:a=1→canonR (a * b)=canonR b:=fun h=>by rw [h,Rat.one_mul]
 have e3:b=1→canonR (a * b)=canonR a:=fun h=>by rw [h,Rat.mul_one]
 have ab1:=fun (h1:short a=true)=>(⟨(short_lt a h1).1,by have:=(short_lt a h1).2; omega⟩:a.num.natAbs < 1000000000∧(a.den:Int) < 1000000000)
 have ab2:=fun (h2:short b=true)=>(⟨(short_lt b h2).1,by have:=(short_lt b h2).2; omega⟩:b.num.natAbs < 1000000000∧(b.den:Int) < 1000000000)
 have ap:0≤(a.den:Int):=by omega
 have bp:0≤(b.den:Int):=by omega
 generalize canonR (a * b)=R at *
 generalize canonR a=TA at *
 generalize canonR b=TB at *
 have hz1:a=0 ∨ (TA.toList == [48])=false:=by
  by_cases h:a=0
  ·exact .inl h
  ·exact .inr (by rw [z1]; exact decide_eq_false h)
 rcases hz1 with h | hz1
 ·have hz:(TA.toList == [48])=true:=by rw [z1]; exact decide_eq_true h
  have hr:=e0 h
  subst hr
  clear z1 z2 o1 o2 e0 e1 e2 e3 qa qb pa pb m1 m3 lw sm ab1 ab2
  go_enter Tryz.func39, Tryz.ntmps39
  go_wp2
  go_ret
  exact ⟨rfl,Below.refl _ _⟩
 have hz2:b=0 ∨ (TB.toList == [48])=false:=by
  by_cases h:b=0
  ·exact .inl h
  ·exact .inr (by rw [z2]; exact decide_eq_false h)
 rcases hz2 with h | hz2
 ·have hz:(TB.toList == [48])=true:=by rw [z2]; exact decide_eq_true h
  have hr:=e1 h
  subst hr
  clear z1 z2 o1 o2 e0 e1 e2 e3 qa qb pa pb m1 m3 lw sm ab1 ab2
  go_enter Tryz.func39, Tryz.ntmps39
  go_wp2
  go_ret
  exact ⟨rfl,Below.refl _ _⟩
 have ho1:a=1 ∨ (TA.toList == [49])=false:=by
  by_cases h:a=1
  ·exact .inl h
  ·exact .inr (by rw [o1]; exact decide_eq_false h)
 rcases ho1 with h | ho1
 ·have hz:(TA.toList == [49])=true:=by rw [o1]; exact decide_eq_true h
  have hr:=e2 h
  subst hr
  clear z1 z2 o1 o2 e0 e1 e2 e3 qa qb pa pb m1 m3 lw sm ab1 ab2
  go_enter Tryz.func39, Tryz.ntmps39
  go_wp2
  go_ret
  exact ⟨rfl,Below.refl _ _⟩
 have ho2:b=1 ∨ (TB.toList == [49])=false:=by
  by_cases h:b=1
  ·exact .inl h
  ·exact .inr (by rw [o2]; exact decide_eq_false h)
 rcases ho2 with h | ho2
 ·have hz:(TB.toList == [49])=true:=by rw [o2]; exact decide_eq_true h
  have hr:=e3 h
  subst hr
  clear z1 z2 o1 o2 e0 e1 e2 e3 qa qb pa pb m1 m3 lw sm ab1 ab2
  go_enter Tryz.func39, Tryz.ntmps39
  go_wp2
  go_ret
  exact ⟨rfl,Below.refl _ _⟩
 clear z1 z2 o1 o2 e0 e1 e2 e3
 clear hsa hsb a1 a2 b1 b2 dsz s1 kz ha hb he hN hN0
 generalize a.num=an at *
 generalize b.num=bn at *
 generalize (a.den:Int)=ad' at *
 generalize (b.den:Int)=bd' at *
 have PA:=Lib.hid pa
 have PB:=Lib.hid pb
 have M1:=Lib.hid m1
 have M3:=Lib.hid m3
 have LW:=Lib.hid lw
 clear pa pb m1  m3 lw
 cases hs1:short a with
 | false =>
  rw [hs1] at qa
  simp only [Bool.false_eq_true,if_false] at qa
  have QA:=Lib.hid qa
  clear qa qb sm ab1 ab2 hs1
  go_enter Tryz.func39, Tryz.ntmps39
  go_wp2_with (first
   | (go_at_call_of 55 (Value.string TA); (with_reducible refine (QA.out _).mono ?_); rintro e w1 ⟨rfl,rfl⟩)
   | (go_at_call_of 57 (Value.string TA); (with_reducible refine (PA.out _ (Below.refl _ _)).mono ?_); rintro e w3 ⟨rfl,q⟩; have B3:=Lib.hid (q.below w.heap.size); clear q)
   | (go_at_call_of 57 (Value.string TB); (with_reducible refine (PB.out _ B3.out).mono ?_); rintro e w4 ⟨rfl,q⟩; have B4:=Lib.hid (B3.out.trans (q.below _)); clear q)
   | (go_at_call 59; (with_reducible refine (M1.out _ B4.out).mono ?_); rintro e w5 ⟨rfl,q⟩; have B5:=Lib.hid (B4.out.trans (q.mono B4.out.size)); clear q)
   | (go_at_call 59; (with_reducible refine (M3.out _ B5.out).mono ?_); rintro e w8 ⟨rfl,q⟩; have B8:=Lib.hid (B5.out.trans (q.mono B5.out.size)); clear q)
   | (go_at_call 58; (with_reducible refine (LW.out _ B8.out).mono ?_); rintro e w9 ⟨rfl,q⟩; have B9:=Lib.hid (B8.out.trans (q.mono B8.out.size)); clear q)
   | fail "arm")
  go_ret
  exact ⟨rfl,B9.out⟩
 | true =>
  rw [hs1] at qa
  simp only [if_true] at qa
  have QA:=Lib.hid qa
  cases hs2:short b with
  | false =>
   rw [hs2] at qb
   simp only [Bool.false_eq_true,if_false] at qb
   have QB:=Lib.hid qb
   clear qa qb sm ab1 ab2 hs1 hs2
   go_enter Tryz.func39, Tryz.ntmps39
   go_wp2_with (first
   | (go_at_call_of 55 (Value.string TA); (with_reducible refine (QA.out _).mono ?_); rintro e w1 ⟨rfl,rfl⟩)
   | (go_at_call_of 55 (Value.string TB); (with_reducible refine (QB.out _).mono ?_); rintro e w2 ⟨rfl,rfl⟩)
   | (go_at_call_of 57 (Value.string TA); (with_reducible refine (PA.out _ (Below.refl _ _)).mono ?_); rintro e w3 ⟨rfl,q⟩; have B3:=Lib.hid (q.below w.heap.size); clear q)
   | (go_at_call_of 57 (Value.string TB); (with_reducible refine (PB.out _ B3.out).mono ?_); rintro e w4 ⟨rfl,q⟩; have B4:=Lib.hid (B3.out.trans (q.below _)); clear q)
   | (go_at_call 59; (with_reducible refine (M1.out _ B4.out).mono ?_); rintro e w5 ⟨rfl,q⟩; have B5:=Lib.hid (B4.out.trans (q.mono B4.out.size)); clear q)
   | (go_at_call 59; (with_reducible refine (M3.out _ B5.out).mono ?_); rintro e w8 ⟨rfl,q⟩; have B8:=Lib.hid (B5.out.trans (q.mono B5.out.size)); clear q)
   | (go_at_call 58; (with_reducible refine (LW.out _ B8.out).mono ?_); rintro e w9 ⟨rfl,q⟩; have B9:=Lib.hid (B8.out.trans (q.mono B8.out.size)); clear q)
   | fail "arm")
   go_ret
   exact ⟨rfl,B9.out⟩
  | true =>
   rw [hs2] at qb
   simp only [if_true] at qb
   have QB:=Lib.hid qb
   have SM:=Lib.hid (sm hs1 hs2)
   obtain ⟨u1,u2⟩:=ab1 hs1
   obtain ⟨v1,v2⟩:=ab2 hs2
   have g1:=mul_in (x:=an) (y:=bn) u1 v1
   have g3:=mul_in (x:=ad') (y:=bd') (by omega) (by omega)
   obtain ⟨g1a,g1b⟩:=g1
   obtain ⟨g3a,g3b⟩:=g3
   clear qa qb sm ab1 ab2 hs1 hs2 u1 u2 v1 v2 PA PB M1  M3 LW
   go_enter Tryz.func39, Tryz.ntmps39
   go_wp2_with (first
   | (go_at_call_of 55 (Value.string TA); (with_reducible refine (QA.out _).mono ?_); rintro e w1 ⟨rfl,rfl⟩)
   | (go_at_call_of 55 (Value.string TB); (with_reducible refine (QB.out _).mono ?_); rintro e w2 ⟨rfl,rfl⟩)
   | (go_at_call 56; (with_reducible refine (SM.out _ (Below.refl _ _)).mono ?_); rintro e w9 ⟨rfl,q⟩; have B9:=Lib.hid q; clear q)
   | fail "arm")
   go_ret
   exact ⟨rfl,B9.out⟩

end Go.Proofs.YthhkmihjnnfpgaaGreatDoor
