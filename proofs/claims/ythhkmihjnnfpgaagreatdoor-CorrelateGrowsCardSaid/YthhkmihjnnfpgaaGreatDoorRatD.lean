/- The walks of rational.Compare, Div and Root. -/
import Derived.Test.YthhkmihjnnfpgaaGreatDoorGRatC
import Derived.Test.YthhkmihjnnfpgaaGreatDoorGRefB
import Derived.Test.YthhkmihjnnfpgaaGreatDoorGInt
namespace Go.Proofs.YthhkmihjnnfpgaaGreatDoor
set_option linter.all false
open Go.RowKit

set_option maxRecDepth 100000 in
set_option maxHeartbeats 8000000 in
theorem rcompare_any (a b:Rat) (N:Nat) (hN0:0 < N) (hN:N≤1000) (ha:Sz a N) (hb:Sz b N) (w:World) (he:Env w) :
  Calls Tryz.prog 22 #[.string (canonR a),.string (canonR b)] w fun e w'=>e=.returned (.int .i64 (a.num * (b.den:Int) - b.num * (a.den:Int)).sign)∧Below w.heap.size w w':=by
 have hsa:=ha.text hN0
 have hsb:=hb.text hN0
 have qa:=fun W=>rquick_any a W (by omega)
 have qb:=fun W=>rquick_any b W (by omega)
 have pa:=fun W (hW:Below w.heap.size w W)=>rparts_any a.num a.den W (he.below hW).2 (by have:(ratT a.num a.den).size=(canonR a).size:=rfl; omega)
 have pb:=fun W (hW:Below w.heap.size w W)=>rparts_any b.num b.den W (he.below hW).2 (by have:(ratT b.num b.den).size=(canonR b).size:=rfl; omega)
 rw [show ratT a.num a.den=canonR a from rfl] at pa
 rw [show ratT b.num b.den=canonR b from rfl] at pb
 have a1:=ha.num hN0
 have a2:=ha.den hN0
 have b1:=hb.num hN0
 have b2:=hb.den hN0
 have dsz:(canon ((a.den:Int) * (b.den:Int))).size≤N + N + 1:=by
  rw [← Int.natCast_mul]
  exact canon_size_lt _ (N + N) (by rw [Int.natAbs_natCast]; exact dens_lt ha hb) (by omega)
 have m3:=fun W (hW:Below w.heap.size w W)=>mul_any (a.den:Int) (b.den:Int) W (he.below hW).1 (by omega) (by omega)
 have c1:=cross_lt ha hb
 have c2:=cross_lt hb ha
 have m1:=fun W (hW:Below w.heap.size w W)=>mul_any a.num (b.den:Int) W (he.below hW).1 (by omega) (by omega)
 have m2:=fun W (hW:Below w.heap.size w W)=>mul_any b.num (a.den:Int) W (he.below hW).1 (by omega) (by omega)
 have cm:=fun W=>compare_any (a.num * (b.den:Int)) (b.num * (a.den:Int)) W
 have hab:=canonR_beq a b
 have e0:a=b→(a.num * (b.den:Int) - b.num * (a.den:Int)).sign=0:=fun h=>by rw [h,Int.sub_self]; rfl
 have l1:a.num * (b.den:Int) < b.num * (a.den:Int)→(a.num * (b.den:Int) - b.num * (a.den:Int)).sign = -1:=fun h=>Int.sign_eq_neg_one_of_neg (by omega)
 have l2:b.num * (a.den:Int) < a.num * (b.den:Int)→(a.num * (b.den:Int) - b.num * (a.den:Int)).sign=1:=fun h=>Int.sign_eq_one_of_pos (by omega)
 have l3:a.num * (b.den:Int)=b.num * (a.den:Int)→(a.num * (b.den:Int) - b.num * (a.den:Int)).sign=0:=fun h=>by rw [h,Int.sub_self]; rfl
 have ab1:=fun (h1:short a=true)=>(⟨(short_lt a h1).1,by have:=(short_lt a h1).2; omega⟩:a.num.natAbs < 1000000000∧(a.den:Int) < 1000000000)
 have ab2:=fun (h2:short b=true)=>(⟨(short_lt b h2).1,by have:=(short_lt b h2).2; omega⟩:b.num.natAbs < 1000000000∧(b.den:Int) < 1000000000)
 have ap:0≤(a.den:Int):=by omega
 have bp:0≤(b.den:Int):=by omega
 generalize (a.num * (b.den:Int) - b.num * (a.den:Int)).sign=R at *
 generalize canonR a=TA at *
 generalize canonR b=TB at *
 by_cases hq:a=b
 ·have hz:(TA.toList == TB.toList)=true:=by rw [hab]; exact decide_eq_true hq
  have hr:=e0 hq
  subst hr
  clear hab e0 l1 l2 l3 hq qa qb pa pb m1 m2 m3 cm ab1 ab2
  go_enter Tryz.func22, Tryz.ntmps22
  go_wp2
  go_ret
  exact ⟨rfl,Below.refl _ _⟩
 have hz:(TA.toList == TB.toList)=false:=by rw [hab]; exact decide_eq_false hq
 clear hab e0 hq hsa hsb a1 a2 b1 b2 dsz c1 c2 m3 ha hb he hN hN0
 generalize a.num=an at *
 generalize b.num=bn at *
 generalize (a.den:Int)=ad' at *
 generalize (b.den:Int)=bd' at *
 have PA:=Lib.hid pa
 have PB:=Lib.hid pb
 have M1:=Lib.hid m1
 have M2:=Lib.hid m2
 have CM:=Lib.hid cm
 clear pa pb m1 m2 cm
 cases hs1:short a with
 | false =>
  rw [hs1] at qa
  simp only [Bool.false_eq_true,if_false] at qa
  have QA:=Lib.hid qa
  clear qa qb ab1 ab2 hs1 l1 l2 l3
  go_enter Tryz.func22, Tryz.ntmps22
  go_wp2_with (first
   | (go_at_call_of 55 (Value.string TA); (with_reducible refine (QA.out _).mono ?_); rintro e w1 ⟨rfl,rfl⟩)
   | (go_at_call_of 57 (Value.string TA); (with_reducible refine (PA.out _ (Below.refl _ _)).mono ?_); rintro e w3 ⟨rfl,q⟩; have B3:=Lib.hid (q.below w.heap.size); clear q)
   | (go_at_call_of 57 (Value.string TB); (with_reducible refine (PB.out _ B3.out).mono ?_); rintro e w4 ⟨rfl,q⟩; have B4:=Lib.hid (B3.out.trans (q.below _)); clear q)
   | (go_at_call 59; (with_reducible refine (M1.out _ B4.out).mono ?_); rintro e w5 ⟨rfl,q⟩; have B5:=Lib.hid (B4.out.trans (q.mono B4.out.size)); clear q)
   | (go_at_call 59; (with_reducible refine (M2.out _ B5.out).mono ?_); rintro e w6 ⟨rfl,q⟩; have B6:=Lib.hid (B5.out.trans (q.mono B5.out.size)); clear q)
   | (go_at_call 60; (with_reducible refine (CM.out _).mono ?_); rintro e w7 ⟨rfl,rfl⟩)
   | fail "arm")
  go_ret
  exact ⟨rfl,B6.out⟩
 | true =>
  rw [hs1] at qa
  simp only [if_true] at qa
  have QA:=Lib.hid qa
  cases hs2:short b with
  | false =>
   rw [hs2] at qb
   simp only [Bool.false_eq_true,if_false] at qb
   have QB:=Lib.hid qb
   clear qa qb ab1 ab2 hs1 hs2 l1 l2 l3
   go_enter Tryz.func22, Tryz.ntmps22
   go_wp2_with (first
   | (go_at_call_of 55 (Value.string TA); (with_reducible refine (QA.out _).mono ?_); rintro e w1 ⟨rfl,rfl⟩)
   | (go_at_call_of 55 (Value.string TB); (with_reducible refine (QB.out _).mono ?_); rintro e w2 ⟨rfl,rfl⟩)
   | (go_at_call_of 57 (Value.string TA); (with_reducible refine (PA.out _ (Below.refl _ _)).mono ?_); rintro e w3 ⟨rfl,q⟩; have B3:=Lib.hid (q.below w.heap.size); clear q)
   | (go_at_call_of 57 (Value.string TB); (with_reducible refine (PB.out _ B3.out).mono ?_); rintro e w4 ⟨rfl,q⟩; have B4:=Lib.hid (B3.out.trans (q.below _)); clear q)
   | (go_at_call 59; (with_reducible refine (M1.out _ B4.out).mono ?_); rintro e w5 ⟨rfl,q⟩; have B5:=Lib.hid (B4.out.trans (q.mono B4.out.size)); clear q)
   | (go_at_call 59; (with_reducible refine (M2.out _ B5.out).mono ?_); rintro e w6 ⟨rfl,q⟩; have B6:=Lib.hid (B5.out.trans (q.mono B5.out.size)); clear q)
   | (go_at_call 60; (with_reducible refine (CM.out _).mono ?_); rintro e w7 ⟨rfl,rfl⟩)
   | fail "arm")
   go_ret
   exact ⟨rfl,B6.out⟩
  | true =>
   rw [hs2] at qb
   simp only [if_true] at qb
   have QB:=Lib.hid qb
   obtain ⟨u1,u2⟩:=ab1 hs1
   obtain ⟨v1,v2⟩:=ab2 hs2
   have g1:=mul_in (x:=an) (y:=bd') u1 (by omega)
   have g2:=mul_in (x:=bn) (y:=ad') v1 (by omega)
   obtain ⟨g1a,g1b⟩:=g1
   obtain ⟨g2a,g2b⟩:=g2
   clear qa qb ab1 ab2 hs1 hs2 u1 u2 v1 v2 PA PB M1 M2 CM
   rcases Int.lt_trichotomy (an * bd') (bn * ad') with h | h | h
   ·have hr:=l1 h
    subst hr
    have d1:decide (an * bd' < bn * ad')=true:=decide_eq_true h
    clear l1 l2 l3
    go_enter Tryz.func22, Tryz.ntmps22
    go_wp2_with (first
   | (go_at_call_of 55 (Value.string TA); (with_reducible refine (QA.out _).mono ?_); rintro e w1 ⟨rfl,rfl⟩)
   | (go_at_call_of 55 (Value.string TB); (with_reducible refine (QB.out _).mono ?_); rintro e w2 ⟨rfl,rfl⟩)
   | fail "arm")
    go_ret
    exact ⟨rfl,Below.refl _ _⟩
   ·have hr:=l3 h
    subst hr
    have d1:decide (an * bd' < bn * ad')=false:=decide_eq_false (by omega)
    have d2:decide (bn * ad' < an * bd')=false:=decide_eq_false (by omega)
    clear l1 l2 l3 h
    go_enter Tryz.func22, Tryz.ntmps22
    go_wp2_with (first
   | (go_at_call_of 55 (Value.string TA); (with_reducible refine (QA.out _).mono ?_); rintro e w1 ⟨rfl,rfl⟩)
   | (go_at_call_of 55 (Value.string TB); (with_reducible refine (QB.out _).mono ?_); rintro e w2 ⟨rfl,rfl⟩)
   | fail "arm")
    go_ret
    exact ⟨rfl,Below.refl _ _⟩
   ·have hr:=l2 h
    subst hr
    have d1:decide (an * bd' < bn * ad')=false:=decide_eq_false (by omega)
    have d2:decide (bn * ad' < an * bd')=true:=decide_eq_true h
    clear l1 l2 l3 h
    go_enter Tryz.func22, Tryz.ntmps22
    go_wp2_with (first
   | (go_at_call_of 55 (Value.string TA); (with_reducible refine (QA.out _).mono ?_); rintro e w1 ⟨rfl,rfl⟩)
   | (go_at_call_of 55 (Value.string TB); (with_reducible refine (QB.out _).mono ?_); rintro e w2 ⟨rfl,rfl⟩)
   | fail "arm")
    go_ret
    exact ⟨rfl,Below.refl _ _⟩

theorem inv_parts (b:Rat) (hb:b ≠ 0):b⁻¹.num=(if b.num < 0 then -(b.den:Int) else (b.den:Int))∧b⁻¹.den=b.num.natAbs:=by
 have h0:b.num ≠ 0:=fun h=>hb (Rat.num_eq_zero.1 h)
 by_cases hn:b.num < 0
 ·rw [if_pos hn]
  have e:b⁻¹=Rat.inv b:=rfl
  rw [e]
  unfold Rat.inv
  rw [dif_pos hn]
  exact ⟨rfl,rfl⟩
 ·rw [if_neg hn]
  have e:b⁻¹=Rat.inv b:=rfl
  rw [e]
  unfold Rat.inv
  rw [dif_neg hn,dif_pos (by omega)]
  exact ⟨rfl,rfl⟩

theorem Sz.inv {b:Rat} {N:Nat} (h:Sz b N) (hb:b ≠ 0):Sz b⁻¹ N:=by
 obtain ⟨h1,h2⟩:=inv_parts b hb
 unfold Sz
 rw [h1,h2]
 refine ⟨?_,h.1⟩
 have:=h.2
 split
 ·rw [Int.natAbs_neg,Int.natAbs_natCast]; exact this
 ·rw [Int.natAbs_natCast]; exact this

end Go.Proofs.YthhkmihjnnfpgaaGreatDoor
