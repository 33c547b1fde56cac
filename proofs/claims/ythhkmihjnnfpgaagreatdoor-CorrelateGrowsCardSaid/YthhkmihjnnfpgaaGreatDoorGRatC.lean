/- Package rational: differences, quotients, signs. -/
import Derived.Test.YthhkmihjnnfpgaaGreatDoorGRatA
import Derived.Test.YthhkmihjnnfpgaaGreatDoorGText
/- The walks of rational.Neg, Sign, Sub, Middle, Floor, nearest, New and Of. -/
namespace Go.Proofs.YthhkmihjnnfpgaaGreatDoor
set_option linter.all false
open Go.RowKit

theorem first_minus (q:Rat) (h:0 < (canonR q).size):q.num < 0 ↔ (canonR q)[0].toNat=45:=by
 have h1:=(qtext_of q.num q.den).gm h
 by_cases hn:q.num < 0
 ·simp only [if_pos hn] at h1
  exact ⟨fun _=>h1.1 trivial,fun _=>hn⟩
 ·simp only [if_neg hn] at h1
  exact ⟨fun h=>absurd h hn,fun h=>by have:=h1.2 h; omega⟩

theorem mdig_neg (n:Int):mdig (-n)=mdig n:=by unfold mdig; rw [Int.natAbs_neg]

theorem ratL_neg (n:Int) (d:Nat) (h:0 < n):ratL (-n) d=45 :: ratL n d:=by
 have e1:Lib.itoa (-n)=45 :: mdig n:=by
  rcases itoa_cases (-n) with ⟨h1,e⟩ | ⟨h1,e⟩
  ·omega
  ·rw [e,mdig_neg]
 have e2:Lib.itoa n=mdig n:=by
  rcases itoa_cases n with ⟨h1,e⟩ | ⟨h1,e⟩
  ·exact e
  ·omega
 unfold ratL
 rw [e1,e2]
 split <;> rfl

theorem canonR_neg_pos (q:Rat) (h:0 < q.num):canonR (-q)=(⟨#[45]⟩:ByteArray) ++ canonR q:=by
 rw [minus_app]
 show ratT (-q).num (-q).den=_
 rw [Rat.neg_num,Rat.neg_den]
 unfold ratT
 rw [ratL_neg _ _ h]
 rfl

theorem canonR_neg_neg (q:Rat) (h:q.num < 0):canonR (-q)=(canonR q).extract 1 (canonR q).size:=by
 refine ba_ext ?_
 rw [Lib.extract_to_end]
 have e:=ratL_neg (-q.num) q.den (by omega)
 rw [Int.neg_neg] at e
 show ratL (-q).num (-q).den=(ratL q.num q.den).drop 1
 rw [Rat.neg_num,Rat.neg_den,e]
 rfl

set_option maxHeartbeats 1000000 in
theorem rneg_any (q:Rat) (w:World) (hs:(canonR q).size≤100000) :
  Calls Tryz.prog 99 #[.string (canonR q)] w fun e w'=>e=.returned (.string (canonR (-q)))∧Below w.heap.size w w':=by
 have hz:=canonR_beq0 q
 have h0:=canonR_pos q
 have hm:=first_minus q h0
 have h1:1≤(canonR q).size:=h0
 by_cases hq:q=0
 ·rw [decide_eq_true hq] at hz
  have HR:Hid (canonR (-q)=canonR q):=by rw [hq]; rfl
  generalize canonR (-q)=R at *
  generalize canonR q=T at *
  clear hm hq
  go_enter Tryz.func99, Tryz.ntmps99
  go_wp2
  go_ret
  rw [HR.out]
  exact ⟨rfl,Below.refl _ _⟩
 ·rw [decide_eq_false hq] at hz
  by_cases hn:q.num < 0
  ·have HR:=Lib.hid (canonR_neg_neg q hn)
   have h45:=hm.1 hn
   generalize canonR (-q)=R at *
   generalize canonR q=T at *
   have hc:((T[0].toNat:Int) == 45)=true:=by rw [h45]; rfl
   clear hm hq hn h45
   go_enter Tryz.func99, Tryz.ntmps99
   go_wp2
   go_ret
   rw [HR.out]
   exact ⟨rfl,Below.refl _ _⟩
  ·have hp:0 < q.num:=by
    rcases Int.lt_or_eq_of_le (show 0≤q.num by omega) with h | h
    ·exact h
    ·exact absurd (Rat.num_eq_zero.1 h.symm) hq
   have HR:=Lib.hid (canonR_neg_pos q hp)
   have h45:¬ (canonR q)[0].toNat=45:=fun h=>hn (hm.2 h)
   generalize canonR (-q)=R at *
   generalize canonR q=T at *
   have hc:((T[0].toNat:Int) == 45)=false:=beq_eq_false_iff_ne.2 (by omega)
   clear hm hq hn h45 hp
   go_enter Tryz.func99, Tryz.ntmps99
   go_wp2
   go_ret
   rw [HR.out]
   exact ⟨rfl,Below.refl _ _⟩

set_option maxHeartbeats 1000000 in
theorem rsign_any (q:Rat) (w:World) (_:(canonR q).size≤100000) :
  Calls Tryz.prog 43 #[.string (canonR q)] w fun e w'=>e=.returned (.int .i64 q.num.sign)∧w=w':=by
 have hz:=canonR_beq0 q
 have h0:=canonR_pos q
 have hm:=first_minus q h0
 by_cases hq:q=0
 ·rw [decide_eq_true hq] at hz
  have HR:Hid (q.num.sign=0):=by rw [hq]; rfl
  generalize q.num.sign=R at *
  generalize canonR q=T at *
  clear hm hq
  go_enter Tryz.func43, Tryz.ntmps43
  go_wp2
  go_ret
  rw [HR.out]
  exact ⟨rfl,rfl⟩
 ·rw [decide_eq_false hq] at hz
  by_cases hn:q.num < 0
  ·have HR:=Lib.hid (Int.sign_eq_neg_one_of_neg hn)
   have h45:=hm.1 hn
   generalize q.num.sign=R at *
   generalize canonR q=T at *
   have hc:((T[0].toNat:Int) == 45)=true:=by rw [h45]; rfl
   clear hm hq hn h45
   go_enter Tryz.func43, Tryz.ntmps43
   go_wp2
   go_ret
   rw [HR.out]
   exact ⟨rfl,rfl⟩
  ·have hp:0 < q.num:=by
    rcases Int.lt_or_eq_of_le (show 0≤q.num by omega) with h | h
    ·exact h
    ·exact absurd (Rat.num_eq_zero.1 h.symm) hq
   have HR:=Lib.hid (Int.sign_eq_one_of_pos hp)
   have h45:¬ (canonR q)[0].toNat=45:=fun h=>hn (hm.2 h)
   generalize q.num.sign=R at *
   generalize canonR q=T at *
   have hc:((T[0].toNat:Int) == 45)=false:=beq_eq_false_iff_ne.2 (by omega)
   clear hm hq hn h45 hp
   go_enter Tryz.func43, Tryz.ntmps43
   go_wp2
   go_ret
   rw [HR.out]
   exact ⟨rfl,rfl⟩

theorem Sz.neg {q:Rat} {N:Nat} (h:Sz q N):Sz (-q) N:=by
 unfold Sz
 rw [Rat.neg_num,Rat.neg_den,Int.natAbs_neg]
 exact h

set_option maxHeartbeats 1000000 in
theorem rsub_any (a b:Rat) (N:Nat) (hN0:0 < N) (hN:N≤1000) (ha:Sz a N) (hb:Sz b N) (w:World) (he:Env w) :
  Calls Tryz.prog 64 #[.string (canonR a),.string (canonR b)] w fun e w'=>e=.returned (.string (canonR (a - b)))∧Below w.heap.size w w':=by
 have h1:=fun W=>rneg_any b W (by have:=hb.text hN0; omega)
 have h2:=fun W (hW:Below w.heap.size w W)=>radd_any a (-b) N hN0 hN ha hb.neg W (he.below hW)
 rw [← Rat.sub_eq_add_neg] at h2
 generalize canonR (a - b)=R at *
 generalize canonR (-b)=T at *
 have H1:=Lib.hid h1
 have H2:=Lib.hid h2
 clear h1 h2 he ha hb
 go_enter Tryz.func64, Tryz.ntmps64
 go_wp2_with (first
  | (go_at_call 99; (with_reducible refine (H1.out _).mono ?_); rintro e w1 ⟨rfl,q⟩; have B1:=Lib.hid q; clear q)
  | (go_at_call 21; (with_reducible refine (H2.out _ B1.out).mono ?_); rintro e w2 ⟨rfl,q⟩; have B2:=Lib.hid (B1.out.trans (q.mono B1.out.size)); clear q)
  | fail "arm")
 go_ret
 exact ⟨rfl,B2.out⟩

set_option maxHeartbeats 1000000 in
theorem rnew_any (neg:Bool) (n:Int) (D:Nat) (w:World) (ht:Pow10 w) (hD:0 < D) (hn:(canon n).size≤9000) (hd:(canon (D:Int)).size≤9000) :
  Calls Tryz.prog 74 #[.string (canon (if neg then -n else n)),.string (canon (if neg then -(D:Int) else (D:Int)))] w fun e w'=>e=.returned (.tuple #[.string (canonR (mkRat n D)),.int .i64 0])∧Below w.heap.size w w':=by
 have h1:=fun W=>sign_any (if neg=true then -(D:Int) else (D:Int)) W
 have hsg:(if neg=true then -(D:Int) else (D:Int)).sign ≠ 0:=by
  cases neg
  ·rw [if_neg (by simp),Int.sign_eq_one_of_pos (by omega)]; omega
  ·rw [if_pos rfl,Int.sign_eq_neg_one_of_neg (by omega)]; omega
 have h2:=fun W (hW:Below w.heap.size w W)=>lowest_any neg n D W (ht.below hW) hD hn hd
 generalize (if neg=true then -(D:Int) else (D:Int)).sign=s at *
 generalize (if neg=true then -(D:Int) else (D:Int))=dd at *
 generalize (if neg=true then -n else n)=nn at *
 generalize canonR (mkRat n D)=R at *
 have hs:(s == 0)=false:=beq_eq_false_iff_ne.2 hsg
 have H1:=Lib.hid h1
 have H2:=Lib.hid h2
 clear h1 h2 ht hn hd hsg hD
 go_enter Tryz.func74, Tryz.ntmps74
 go_wp2_with (first
  | (go_at_call 89; (with_reducible refine (H1.out _).mono ?_); rintro e w1 ⟨rfl,rfl⟩)
  | (go_at_call 58; (with_reducible refine (H2.out _ (Below.refl _ _)).mono ?_); rintro e w2 ⟨rfl,q⟩; have B2:=Lib.hid q; clear q)
  | fail "arm")
 go_ret2
 exact ⟨rfl,B2.out⟩

set_option maxHeartbeats 1000000 in
theorem rof_any (neg:Bool) (n:Int) (D:Nat) (w:World) (ht:Pow10 w) (hD:0 < D) (hn0:-1000000000000000000≤n) (hn1:n≤1000000000000000000) (hd:D≤1000000000000000000) :
  Calls Tryz.prog 37 #[.int .i64 (if neg then -n else n),.int .i64 (if neg then -(D:Int) else (D:Int))] w fun e w'=>e=.returned (.tuple #[.string (canonR (mkRat n D)),.int .i64 0])∧Below w.heap.size w w':=by
 have s1:(canon n).size≤20:=canon_size_lt n 19 (by omega) (by omega)
 have s2:(canon (D:Int)).size≤20:=canon_size_lt (D:Int) 19 (by omega) (by omega)
 have h1:=fun W (hW:Below w.heap.size w W)=>of_any (if neg=true then -n else n) (by split <;> omega) (by split <;> omega) W (ht.below hW)
 have h2:=fun W (hW:Below w.heap.size w W)=>of_any (if neg=true then -(D:Int) else (D:Int)) (by split <;> omega) (by split <;> omega) W (ht.below hW)
 have h3:=fun W (hW:Below w.heap.size w W)=>rnew_any neg n D W (ht.below hW) hD (by omega) (by omega)
 generalize (if neg=true then -(D:Int) else (D:Int))=dd at *
 generalize (if neg=true then -n else n)=nn at *
 generalize canonR (mkRat n D)=R at *
 have H1:=Lib.hid h1
 have H2:=Lib.hid h2
 have H3:=Lib.hid h3
 clear h1 h2 h3 ht hn0 hn1 hd hD s1 s2
 go_enter Tryz.func37, Tryz.ntmps37
 go_wp2_with (first
  | (go_at_call_of 20 (Value.int .i64 nn); (with_reducible refine (H1.out _ (Below.refl _ _)).mono ?_); rintro e w1 ⟨rfl,q⟩; have B1:=Lib.hid q; clear q)
  | (go_at_call 20; (with_reducible refine (H2.out _ B1.out).mono ?_); rintro e w2 ⟨rfl,q⟩; have B2:=Lib.hid (B1.out.trans (q.mono B1.out.size)); clear q)
  | (go_at_call 74; (with_reducible refine (H3.out _ B2.out).mono ?_); rintro e w3 ⟨rfl,q⟩; have B3:=Lib.hid (B2.out.trans (q.mono B2.out.size)); clear q)
  | fail "arm")
 go_ret2
 exact ⟨rfl,B3.out⟩

end Go.Proofs.YthhkmihjnnfpgaaGreatDoor

/- Plain facts about rational numbers: the order's sign under sums, products and halves. No program in sight. -/
namespace Go.Proofs.YthhkmihjnnfpgaaGreatDoor
set_option linter.all false
theorem num_mk_sign (n:Int) (d:Nat) (hd:d ≠ 0):(mkRat n d).num.sign=n.sign:=by
 rw [Rat.mkRat_def,dif_neg hd,Rat.normalize_eq]
 show (n / ((n.natAbs.gcd d:Nat):Int)).sign=n.sign
 have hg:0 < n.natAbs.gcd d:=Nat.gcd_pos_of_pos_right _ (Nat.pos_of_ne_zero hd)
 have hdv:((n.natAbs.gcd d:Nat):Int) ∣ n:=Int.ofNat_dvd_left.2 (Nat.gcd_dvd_left _ _)
 generalize n.natAbs.gcd d=g at *
 obtain ⟨k,rfl⟩:=hdv
 rw [Int.mul_ediv_cancel_left _ (by omega),Int.sign_mul,Int.sign_eq_one_of_pos (show 0 < (g:Int) by omega),Int.one_mul]

def cmpR (a b:Rat):Int:=(a.num * (b.den:Int) - b.num * (a.den:Int)).sign

theorem cmpR_sub (a b:Rat):cmpR a b=(a - b).num.sign:=by
 have e:a - b=mkRat (a.num * (b.den:Int) - b.num * (a.den:Int)) (a.den * b.den):=by
  rw [Rat.sub_def,Rat.normalize_eq_mkRat]
 rw [e,num_mk_sign _ _ (den_mul_ne a b)]
 rfl

end Go.Proofs.YthhkmihjnnfpgaaGreatDoor
