/- Rational numbers as texts: plain definitions. -/
import Derived.Test.YthhkmihjnnfpgaaGreatDoorGText
import Derived.Test.YthhkmihjnnfpgaaGreatDoorGInt
import Derived.Lib.IndexMore
import Derived.WalkSmall
import Derived.BigQuiet
/- Rational numbers as texts: numerator, a slash and the denominator, if this is not 1. No program in sight. -/
namespace Go.Proofs.YthhkmihjnnfpgaaGreatDoor
set_option linter.all false
def ratL (n:Int) (d:Nat):List UInt8:=if d=1 then Lib.itoa n else Lib.itoa n ++ (47 :: Lib.decDigits d)
def ratT (n:Int) (d:Nat):ByteArray:=⟨(ratL n d).toArray⟩
def canonR (q:Rat):ByteArray:=ratT q.num q.den

theorem itoa_no_slash (n:Int):∀ c ∈ Lib.itoa n,c ≠ 47:=by
 intro c hc e
 subst e
 rcases itoa_cases n with ⟨_,h⟩ | ⟨_,h⟩
 ·rw [h] at hc
  have:=mdig_all n 47 hc
  simp at this
 ·rw [h] at hc
  rcases List.mem_cons.1 hc with h1 | h1
  ·simp at h1
  ·have:=mdig_all n 47 h1
   simp at this

theorem index_none47:∀ l:List UInt8,(∀ c ∈ l,c ≠ 47)→Lib.index l [47] = -1:=by
 intro l
 induction l with
 | nil=>intro _; rfl
 | cons c l ih =>
  intro h
  have hc:c ≠ 47:=h c (List.mem_cons_self ..)
  have ih':=ih (fun z hz=>h z (List.mem_cons_of_mem _ hz))
  unfold Lib.index
  have hp:List.isPrefixOf [47] (c :: l)=false:=by
   simp [List.isPrefixOf,Ne.symm hc]
  rw [hp,ih']
  rfl

theorem index_at47:∀ (a b:List UInt8),(∀ c ∈ a,c ≠ 47)→Lib.index (a ++ 47 :: b) [47]=a.length:=by
 intro a b
 induction a with
 | nil =>
  intro _
  unfold Lib.index
  simp [List.isPrefixOf]
 | cons c a ih =>
  intro h
  have hc:c ≠ 47:=h c (List.mem_cons_self ..)
  have ih':=ih (fun z hz=>h z (List.mem_cons_of_mem _ hz))
  rw [List.cons_append]
  unfold Lib.index
  have hp:List.isPrefixOf [47] (c :: (a ++ 47 :: b))=false:=by
   simp [List.isPrefixOf,Ne.symm hc]
  have hn:(((a.length:Nat):Int) == -1)=false:=by rw [beq_eq_false_iff_ne]; omega
  rw [hp,ih',hn]
  simp

theorem cut_ratL (n:Int) (d:Nat):Lib.cut (ratL n d) [47]=if d=1 then (Lib.itoa n,[],false) else (Lib.itoa n,Lib.decDigits d,true):=by
 unfold ratL Lib.cut
 by_cases h:d=1
 ·rw [if_pos h,if_pos h,index_none47 _ (itoa_no_slash n)]
  rfl
 ·rw [if_neg h,if_neg h,index_at47 _ _ (itoa_no_slash n),if_pos (by omega)]
  simp

theorem dec_inj {a b:Nat} (h:Lib.decDigits a=Lib.decDigits b):a=b:=by
 have h1:=decDigits_val a
 rw [h,decDigits_val] at h1
 exact h1.symm

theorem ratT_inj {n m:Int} {d e:Nat} (h:ratT n d=ratT m e):n=m∧d=e:=by
 have hl:ratL n d=ratL m e:=by
  have h1:=congrArg (fun s:ByteArray=>s.data.toList) h
  exact h1
 have h1:=cut_ratL n d
 rw [hl,cut_ratL m e] at h1
 by_cases hd:d=1 <;> by_cases he:e=1
 ·rw [if_pos hd,if_pos he] at h1
  have h2:Lib.itoa m=Lib.itoa n:=congrArg Prod.fst h1
  exact ⟨canon_inj (by unfold canon; rw [h2]),by rw [hd,he]⟩
 ·rw [if_pos hd,if_neg he] at h1
  have h2:true=false:=congrArg (fun p=>p.2.2) h1
  cases h2
 ·rw [if_neg hd,if_pos he] at h1
  have h2:false=true:=congrArg (fun p=>p.2.2) h1
  cases h2
 ·rw [if_neg hd,if_neg he] at h1
  have h2:Lib.itoa m=Lib.itoa n:=congrArg Prod.fst h1
  have h3:Lib.decDigits e=Lib.decDigits d:=congrArg (fun p=>p.2.1) h1
  exact ⟨canon_inj (by unfold canon; rw [h2]),(dec_inj h3).symm⟩

theorem canonR_inj {a b:Rat} (h:canonR a=canonR b):a=b:=by
 obtain ⟨h1,h2⟩:=ratT_inj h
 exact Rat.ext h1 h2

theorem ba_beq (a b:ByteArray):(a.toList == b.toList)=decide (a=b):=by
 rw [ByteArray.toList_eq,ByteArray.toList_eq]
 by_cases h:a=b
 ·subst h; simp
 ·rw [decide_eq_false h,beq_eq_false_iff_ne]
  intro h2
  exact h (by
   obtain ⟨⟨l⟩⟩:=a
   obtain ⟨⟨m⟩⟩:=b
   simp at h2
   rw [h2])

theorem canonR_beq (a b:Rat):((canonR a).toList == (canonR b).toList)=decide (a=b):=by
 rw [ba_beq]
 by_cases h:a=b
 ·subst h; simp
 ·rw [decide_eq_false h,decide_eq_false (fun e=>h (canonR_inj e))]

theorem canonR_int (n:Int):canonR (n:Rat)=canon n:=by
 unfold canonR ratT ratL
 rw [show ((n:Rat)).den=1 from rfl,if_pos rfl]
 rfl

theorem canonR_zero:canonR 0=canon 0:=canonR_int 0
theorem canonR_one:canonR 1=canon 1:=canonR_int 1

theorem canonR_beq0 (q:Rat):((canonR q).toList == [48])=decide (q=0):=by
 have h:=canonR_beq q 0
 rw [canonR_zero,canon_zero_list] at h
 exact h

theorem canon_one_list:(canon 1).toList=[49]:=by rw [k_1,ByteArray.toList_eq]
theorem canonR_beq1 (q:Rat):((canonR q).toList == [49])=decide (q=1):=by
 have h:=canonR_beq q 1
 rw [canonR_one,canon_one_list] at h
 exact h

theorem ratT_one (n:Int):ratT n 1=canon n:=rfl
theorem ratT_frac (n:Int) (d:Nat) (h:d ≠ 1):ratT n d=canon n ++ (⟨#[47]⟩:ByteArray) ++ canon (d:Int):=by
 have e:ratL n d=Lib.itoa n ++ (47 :: Lib.decDigits d):=by unfold ratL; rw [if_neg h]
 unfold ratT canon
 rw [e,itoa_of_nat]
 apply ByteArray.ext
 simp [ByteArray.data_append]

theorem canonR_normalize (n:Int) (d:Nat) (h:d ≠ 0):canonR (Rat.normalize n d h)=ratT (n / ((n.natAbs.gcd d:Nat):Int)) (d / n.natAbs.gcd d):=by
 rw [Rat.normalize_eq]
 rfl

theorem canonR_mk (n:Int) (d:Nat) (h:d ≠ 0):canonR (mkRat n d)=ratT (n / ((n.natAbs.gcd d:Nat):Int)) (d / n.natAbs.gcd d):=by
 rw [Rat.mkRat_def,dif_neg h]
 exact canonR_normalize n d h

end Go.Proofs.YthhkmihjnnfpgaaGreatDoor

/- The walk of rational.quick: a short number as two ints. -/
namespace Go.Proofs.YthhkmihjnnfpgaaGreatDoor
set_option linter.all false
open Go.RowKit

theorem dval_snoc_take (L:List UInt8) (j:Nat) (hj:j < L.length):dval (L.take (j + 1))=10 * dval (L.take j) + (L[j].toNat - 48):=by
 rw [List.take_succ_eq_append_getElem hj,dval_snoc]; omega

structure QText (T:ByteArray) (s0 k:Nat) (L1 L2:List UInt8):Prop where
 hs:s0≤1
 hk:s0 + L1.length=k
 hkT:k≤T.size
 d1:AllDig L1
 d2:AllDig L2
 g1:∀ j (h:j < L1.length) (h2:s0 + j < T.size),T[s0 + j]=L1[j]
 gs:∀ h:k < T.size,T[k].toNat=47∧k + 1 + L2.length=T.size∧∀ j (h1:j < L2.length) (h2:k + 1 + j < T.size),T[k + 1 + j]=L2[j]
 gm:∀ h:0 < T.size,(s0=1 ↔ T[0].toNat=45)

theorem ba_get {T:ByteArray} {l:List UInt8} (h:T.data.toList=l) (i:Nat) (hi:i < T.size):T[i]=l[i]'(by rw [← h,← Lib.size_eq]; exact hi):=by
 have h1:T[i]=T.data.toList[i]'(by rw [← Lib.size_eq]; exact hi):=rfl
 rw [h1]
 simp [h]

theorem qtext_of (n:Int) (d:Nat):QText (ratT n d) (if n < 0 then 1 else 0) ((Lib.itoa n).length) (mdig n) (Lib.decDigits d):=by
 have hd:(ratT n d).data.toList=ratL n d:=rfl
 have hsz:(ratT n d).size=(ratL n d).length:=rfl
 have hp:0 < (mdig n).length:=by
  obtain ⟨_,_,c,l,h3,_⟩:=decDigits_facts n.natAbs
  show 0 < (Lib.decDigits n.natAbs).length
  rw [h3]; simp
 have hil:(if n < 0 then 1 else 0) + (mdig n).length=(Lib.itoa n).length:=by
  rcases itoa_cases n with ⟨h,e⟩ | ⟨h,e⟩
  ·rw [e,if_neg (by omega)]; omega
  ·rw [e,if_pos h,List.length_cons]; omega
 have hrl:(ratL n d).length=(Lib.itoa n).length + if d=1 then 0 else 1 + (Lib.decDigits d).length:=by
  unfold ratL
  by_cases h:d=1
  ·rw [if_pos h,if_pos h]; rfl
  ·rw [if_neg h,if_neg h,List.length_append,List.length_cons]; omega
 have hget:∀ i (h:i < (Lib.itoa n).length) (h2:i < (ratL n d).length),(ratL n d)[i]=(Lib.itoa n)[i]:=fun i h h2=>by
  unfold ratL
  by_cases h3:d=1
  ·simp [h3]
  ·simp only [if_neg h3]
   rw [List.getElem_append_left h]
 refine ⟨by split <;> omega,hil,by rw [hsz,hrl]; omega,mdig_all n,decDigits_all d,fun j h h2=>?_,fun h=>?_,fun h=>?_⟩
 ·rw [ba_get hd _ h2,hget _ (by omega)]
  rcases itoa_cases n with ⟨h3,e⟩ | ⟨h3,e⟩
  ·simp [if_neg (show ¬ n < 0 by omega),e]
  ·simp only [if_pos h3,e]
   simp [Nat.add_comm 1 j]
 ·have hd1:d ≠ 1:=fun e=>by
   rw [hsz,hrl,if_pos e] at h
   omega
  have hs2:(ratT n d).size=(Lib.itoa n).length + (1 + (Lib.decDigits d).length):=by rw [hsz,hrl,if_neg hd1]
  refine ⟨?_,by omega,fun j h1 h2=>?_⟩
  ·rw [ba_get hd _ h]
   simp only [ratL,if_neg hd1]
   rw [List.getElem_append_right (Nat.le_refl _)]
   simp
  ·rw [ba_get hd _ h2]
   simp only [ratL,if_neg hd1]
   rw [List.getElem_append_right (by omega)]
   simp [show (Lib.itoa n).length + 1 + j - (Lib.itoa n).length=j + 1 by omega]
 ·rw [ba_get hd _ h,hget 0 (by omega)]
  rcases itoa_cases n with ⟨h3,e⟩ | ⟨h3,e⟩
  ·simp only [if_neg (show ¬ n < 0 by omega),e]
   have:=mdig_all n (mdig n)[0] (List.getElem_mem hp)
   constructor
   ·intro h4; omega
   ·intro h4; omega
  ·simp only [if_pos h3,e]
   simp

def QPost (s0 k:Nat) (T:ByteArray) (L1 L2:List UInt8) (x y:Int) (b:Bool):Prop :=
 (b=true→x=(if s0=1 then -((dval L1:Nat):Int) else ((dval L1:Nat):Int))∧y=(if k < T.size then ((dval L2:Nat):Int) else 1)∧dval L1 < 1000000000∧(k < T.size→dval L2 < 1000000000)) ∧
 (b=false→x=0∧y=0)∧(b=true ↔ (L1.length≤9∧(k < T.size→L2.length≤9)))

theorem i64_q {a b:Int} (h:a=b):Value.int .i64 a=.int .i64 b:=by rw [h]

def QRes (s0 k:Nat) (T:ByteArray) (L1 L2:List UInt8) (e:Ending):Prop:=∃ x y b,e=.returned (.tuple #[.int .i64 x,.int .i64 y,.bool b])∧QPost s0 k T L1 L2 x y b

set_option maxRecDepth 100000 in
set_option maxHeartbeats 8000000 in
theorem quick_of (T:ByteArray) (s0 k:Nat) (L1 L2:List UInt8) (w:World) (hq:QText T s0 k L1 L2) (hT:T.size≤1000000) (h0:0 < T.size) :
  Calls Tryz.prog 55 #[.string T] w fun e w'=>QRes s0 k T L1 L2 e∧w=w':=by
 obtain ⟨hs,hk,hkT,hd1,hd2,g1,gs,gm0⟩:=hq
 have gm:=gm0 h0
 have D1:=Lib.hid hd1
 have D2:=Lib.hid hd2
 have G1:=Lib.hid g1
 have GS:=Lib.hid gs
 have GM:=Lib.hid gm
 clear hd1 hd2 g1 gs gm gm0
 have hc:s0=0 ∨ s0=1:=by omega
 rcases hc with rfl | rfl
 ·have hm : ((T[0].toNat : Int) == 45) = false := beq_eq_false_iff_ne.2 (fun e => by have := GM.out.2 (by omega); omega)
  clear GM
  go_enter Tryz.func55, Tryz.ntmps55
  go_wp2
  go_loop [2,3,5] (fun nv ev iv=>∃ (j u:Nat),j≤L1.length∧j≤9∧ev=.int .i64 0∧iv=.int .i64 j∧nv=.int .i64 u∧u < 1000000000∧Hid (u=dval (L1.take j))) (fun _ _ iv=>k + 1 - (intOf iv).toNat)
  case atStart=>exact ⟨0,0,Nat.zero_le _,by omega,rfl,rfl,rfl,by omega,rfl⟩
  case round =>
   obtain ⟨j,u,hj,hj9,rfl,rfl,rfl,hu,HU⟩:=hrel
   by_cases hlt:j < L1.length
   ·have hjT:j < T.size:=by omega
    have hdj:=D1.out L1[j] (List.getElem_mem hlt)
    have hg:=G1.out j hlt (by omega)
    simp only [Nat.zero_add] at hg
    rw [← hg] at hdj
    have HG:=Lib.hid hg
    have b1:=hdj.1
    have b2:=hdj.2
    clear hg hdj
    have hne:((T[j].toNat:Int) != 47)=true:=by rw [bne_iff_ne]; omega
    by_cases h9:j=9
    ·subst h9

     go_wp2
     go_ret3
     exact ⟨⟨0,0,false,rfl,(fun h=>by cases h),fun _=>⟨rfl,rfl⟩,⟨(fun h=>by cases h),fun h=>by have:=h.1; omega⟩⟩,rfl⟩
    ·have t9:((j:Int) == 9)=false:=beq_eq_false_iff_ne.2 (by omega)
     have HN:Hid (10 * u + (T[j].toNat - 48)=dval (L1.take (j + 1))∧10 * u + (T[j].toNat - 48) < 1000000000):=by
      have h1:=dval_snoc_take L1 j hlt
      have h2:=HU.out
      have h3:L1[j].toNat=T[j].toNat:=by rw [HG.out]
      rw [h3,← h2] at h1
      refine ⟨h1.symm,?_⟩
      have h4:=dval_lt (D1.out.take (j + 1))
      have h5:(10:Nat) ^ (L1.take (j + 1)).length≤10 ^ 9:=Nat.pow_le_pow_right (by omega) (by rw [List.length_take]; omega)
      rw [h1] at h4
      omega
     go_wp2
     go_round
     case rel =>
      exact ⟨j + 1,10 * u + (T[j].toNat - 48),by omega,by omega,rfl,by go_num,i64_q (by omega),HN.out.2,HN.out.1⟩
     case measure=>simp [intOf]; omega
   ·obtain rfl:j=k:=by omega
    have hu1:u=dval L1:=by rw [HU.out,List.take_of_length_le (by omega)]
    have HU1:=Lib.hid hu1
    have HJ9:=Lib.hid (show L1.length≤9 by omega)
    clear hu1 HU hlt hj9
    by_cases hend:j < T.size
    ·obtain ⟨h47, hsz, g2⟩ := GS.out hend
     have G2:=Lib.hid g2
     clear g2
     have hne:((T[j].toNat:Int) != 47)=false:=by rw [h47]; rfl
     have hie:((j:Int) == (T.size:Int))=false:=beq_eq_false_iff_ne.2 (by omega)
     go_wp2
     go_loop [2,3,5] (fun nv ev iv=>∃ (i v:Nat),i≤L2.length∧i≤9∧nv=.int .i64 u∧ev=.int .i64 v∧iv=.int .i64 ((j + 1 + i:Nat):Int)∧v < 1000000000∧Hid (v=dval (L2.take i))) (fun _ _ iv=>T.size + 1 - (intOf iv).toNat)
     case atStart=>exact ⟨0,0,Nat.zero_le _,by omega,rfl,rfl,by go_num,by omega,rfl⟩
     case round =>
      obtain ⟨i,v,hi,hi9,rfl,rfl,rfl,hv,HV⟩:=hrel
      by_cases hlt:i < L2.length
      ·have hjT : j + 1 + i < T.size := by omega
       have hdj:=D2.out L2[i] (List.getElem_mem hlt)
       have hg:=G2.out i hlt hjT
       rw [← hg] at hdj
       have HG:=Lib.hid hg
       have b1:=hdj.1
       have b2:=hdj.2
       clear hg hdj
       by_cases h9:i=9
       ·subst h9
        go_wp2
        go_ret3
        exact ⟨⟨0,0,false,rfl,(fun h=>by cases h),fun _=>⟨rfl,rfl⟩,⟨(fun h=>by cases h),fun h=>by have:=h.2 hend; omega⟩⟩,rfl⟩
       ·have t9:((i:Int) == 9)=false:=beq_eq_false_iff_ne.2 (by omega)
        have HN:Hid (10 * v + (T[j + 1 + i].toNat - 48)=dval (L2.take (i + 1))∧10 * v + (T[j + 1 + i].toNat - 48) < 1000000000):=by
         have h1:=dval_snoc_take L2 i hlt
         have h2:=HV.out
         have h3:L2[i].toNat=T[j + 1 + i].toNat:=by rw [HG.out]
         rw [h3,← h2] at h1
         refine ⟨h1.symm,?_⟩
         have h4:=dval_lt (D2.out.take (i + 1))
         have h5:(10:Nat) ^ (L2.take (i + 1)).length≤10 ^ 9:=Nat.pow_le_pow_right (by omega) (by rw [List.length_take]; omega)
         rw [h1] at h4
         omega
        go_wp2
        go_round
        case rel =>
            exact ⟨i + 1,10 * v + (T[j + 1 + i].toNat - 48),by omega,by omega,rfl,i64_q (by omega),by go_num,HN.out.2,HN.out.1⟩
        case measure=>simp [intOf]; omega
      ·obtain rfl:i=L2.length:=by omega
       have HV2:=Lib.hid (show v=dval L2 by rw [HV.out,List.take_length])
       clear HV
       have hdn:decide (((j + 1 + L2.length:Nat):Int) < (T.size:Int))=false:=decide_eq_false (by omega)
       go_wp2
       go_ret3
       exact ⟨⟨_,_,true,rfl,fun _=>⟨by rw [if_neg (by omega),← HU1.out],by rw [if_pos hend,← HV2.out],by rw [← HU1.out]; exact hu,fun _=>by rw [← HV2.out]; exact hv⟩,(fun h=>by cases h),⟨fun _=>⟨HJ9.out,fun _=>hi9⟩,fun _=>rfl⟩⟩,rfl⟩
    ·have hie:((j:Int) == (T.size:Int))=true:=by rw [show j=T.size by omega]; simp
     go_wp2
     go_ret3
     exact ⟨⟨_,_,true,rfl,fun _=>⟨by rw [if_neg (by omega),← HU1.out],by rw [if_neg hend],by rw [← HU1.out]; exact hu,fun h=>absurd h hend⟩,(fun h=>by cases h),⟨fun _=>⟨HJ9.out,fun h=>absurd h hend⟩,fun _=>rfl⟩⟩,rfl⟩
 ·have hm:((T[0].toNat:Int) == 45)=true:=by rw [GM.out.1 rfl]; rfl
  clear GM
  go_enter Tryz.func55, Tryz.ntmps55
  go_wp2
  go_loop [2,3,5] (fun nv ev iv=>∃ (j u:Nat),j≤L1.length∧j≤9∧ev=.int .i64 0∧iv=.int .i64 ((j:Int) + 1)∧nv=.int .i64 u∧u < 1000000000∧Hid (u=dval (L1.take j))) (fun _ _ iv=>k + 2 - (intOf iv).toNat)
  case atStart=>exact ⟨0,0,Nat.zero_le _,by omega,rfl,rfl,rfl,by omega,rfl⟩
  case round =>
   obtain ⟨j,u,hj,hj9,rfl,rfl,rfl,hu,HU⟩:=hrel
   by_cases hlt:j < L1.length
   ·have hjT:j + 1 < T.size:=by omega
    have hdj:=D1.out L1[j] (List.getElem_mem hlt)
    have hg:T[j + 1]=L1[j]:=by
     have h3:=G1.out j hlt (by omega)
     simpa [Nat.add_comm] using h3
    rw [← hg] at hdj
    have HG:=Lib.hid hg
    have b1:=hdj.1
    have b2:=hdj.2
    clear hg hdj
    have hne:((T[j + 1].toNat:Int) != 47)=true:=by rw [bne_iff_ne]; omega
    by_cases h9:j=9
    ·subst h9

     go_wp2
     go_ret3
     exact ⟨⟨0,0,false,rfl,(fun h=>by cases h),fun _=>⟨rfl,rfl⟩,⟨(fun h=>by cases h),fun h=>by have:=h.1; omega⟩⟩,rfl⟩
    ·have t9:((j:Int) == 9)=false:=beq_eq_false_iff_ne.2 (by omega)
     have HN:Hid (10 * u + (T[j + 1].toNat - 48)=dval (L1.take (j + 1))∧10 * u + (T[j + 1].toNat - 48) < 1000000000):=by
      have h1:=dval_snoc_take L1 j hlt
      have h2:=HU.out
      have h3:L1[j].toNat=T[j + 1].toNat:=by rw [HG.out]
      rw [h3,← h2] at h1
      refine ⟨h1.symm,?_⟩
      have h4:=dval_lt (D1.out.take (j + 1))
      have h5:(10:Nat) ^ (L1.take (j + 1)).length≤10 ^ 9:=Nat.pow_le_pow_right (by omega) (by rw [List.length_take]; omega)
      rw [h1] at h4
      omega
     go_wp2
     go_round
     case rel =>
      exact ⟨j + 1,10 * u + (T[j + 1].toNat - 48),by omega,by omega,rfl,by go_num,i64_q (by omega),HN.out.2,HN.out.1⟩
     case measure=>simp [intOf]; omega
   ·have hkj : k = j + 1 := by omega
    subst hkj
    have hjl:j=L1.length:=by omega
    have hu1:u=dval L1:=by rw [HU.out,hjl,List.take_length]
    have HU1:=Lib.hid hu1
    have HJ9:=Lib.hid (show L1.length≤9 by omega)
    clear hu1 HU hlt hj9 hjl
    by_cases hend:j + 1 < T.size
    ·obtain ⟨h47, hsz, g2⟩ := GS.out hend
     have G2:=Lib.hid g2
     clear g2
     have hne:((T[j + 1].toNat:Int) != 47)=false:=by rw [h47]; rfl
     have hie:((j:Int) + 1 == (T.size:Int))=false:=beq_eq_false_iff_ne.2 (by omega)
     go_wp2
     go_loop [2,3,5] (fun nv ev iv=>∃ (i v:Nat),i≤L2.length∧i≤9∧nv=.int .i64 (-(u:Int))∧ev=.int .i64 v∧iv=.int .i64 ((j + 1 + 1 + i:Nat):Int)∧v < 1000000000∧Hid (v=dval (L2.take i))) (fun _ _ iv=>T.size + 1 - (intOf iv).toNat)
     case atStart=>exact ⟨0,0,Nat.zero_le _,by omega,rfl,rfl,by go_num,by omega,rfl⟩
     case round =>
      obtain ⟨i,v,hi,hi9,rfl,rfl,rfl,hv,HV⟩:=hrel
      by_cases hlt:i < L2.length
      ·have hjT : j + 1 + 1 + i < T.size := by omega
       have hdj:=D2.out L2[i] (List.getElem_mem hlt)
       have hg:=G2.out i hlt hjT
       rw [← hg] at hdj
       have HG:=Lib.hid hg
       have b1:=hdj.1
       have b2:=hdj.2
       clear hg hdj
       by_cases h9:i=9
       ·subst h9
        go_wp2
        go_ret3
        exact ⟨⟨0,0,false,rfl,(fun h=>by cases h),fun _=>⟨rfl,rfl⟩,⟨(fun h=>by cases h),fun h=>by have:=h.2 hend; omega⟩⟩,rfl⟩
       ·have t9:((i:Int) == 9)=false:=beq_eq_false_iff_ne.2 (by omega)
        have HN:Hid (10 * v + (T[j + 1 + 1 + i].toNat - 48)=dval (L2.take (i + 1))∧10 * v + (T[j + 1 + 1 + i].toNat - 48) < 1000000000):=by
         have h1:=dval_snoc_take L2 i hlt
         have h2:=HV.out
         have h3:L2[i].toNat=T[j + 1 + 1 + i].toNat:=by rw [HG.out]
         rw [h3,← h2] at h1
         refine ⟨h1.symm,?_⟩
         have h4:=dval_lt (D2.out.take (i + 1))
         have h5:(10:Nat) ^ (L2.take (i + 1)).length≤10 ^ 9:=Nat.pow_le_pow_right (by omega) (by rw [List.length_take]; omega)
         rw [h1] at h4
         omega
        go_wp2
        go_round
        case rel =>
            exact ⟨i + 1,10 * v + (T[j + 1 + 1 + i].toNat - 48),by omega,by omega,rfl,i64_q (by omega),by go_num,HN.out.2,HN.out.1⟩
        case measure=>simp [intOf]; omega
      ·obtain rfl:i=L2.length:=by omega
       have HV2:=Lib.hid (show v=dval L2 by rw [HV.out,List.take_length])
       clear HV
       have hdn:decide (((j + 1 + 1 + L2.length:Nat):Int) < (T.size:Int))=false:=decide_eq_false (by omega)
       go_wp2
       go_ret3
       exact ⟨⟨_,_,true,rfl,fun _=>⟨by rw [if_pos rfl,← HU1.out],by rw [if_pos hend,← HV2.out],by rw [← HU1.out]; exact hu,fun _=>by rw [← HV2.out]; exact hv⟩,(fun h=>by cases h),⟨fun _=>⟨HJ9.out,fun _=>hi9⟩,fun _=>rfl⟩⟩,rfl⟩
    ·have hie:((j:Int) + 1 == (T.size:Int))=true:=by rw [show (j:Int) + 1=(T.size:Int) by omega]; simp
     go_wp2
     go_ret3
     exact ⟨⟨_,_,true,rfl,fun _=>⟨by rw [if_pos rfl,← HU1.out],by rw [if_neg hend],by rw [← HU1.out]; exact hu,fun h=>absurd h hend⟩,(fun h=>by cases h),⟨fun _=>⟨HJ9.out,fun h=>absurd h hend⟩,fun _=>rfl⟩⟩,rfl⟩

theorem canonR_pos (q:Rat):0 < (canonR q).size:=by
 show 0 < (ratL q.num q.den).length
 have hp:0 < (Lib.itoa q.num).length:=by
  rcases itoa_cases q.num with ⟨h,e⟩ | ⟨h,e⟩
  ·rw [e]
   obtain ⟨_,_,c,l,h3,_⟩:=decDigits_facts q.num.natAbs
   show 0 < (Lib.decDigits q.num.natAbs).length
   rw [h3]; simp
  ·rw [e]; simp
 unfold ratL
 split
 ·exact hp
 ·simp; omega

def short (q:Rat):Bool:=decide ((mdig q.num).length≤9∧(q.den ≠ 1→(Lib.decDigits q.den).length≤9))

theorem dec_lt (n:Nat) (h:(Lib.decDigits n).length≤9):n < 1000000000:=by
 have h1:=dval_lt (decDigits_all n)
 rw [decDigits_val] at h1
 have h2:(10:Nat) ^ (Lib.decDigits n).length≤10 ^ 9:=Nat.pow_le_pow_right (by omega) h
 omega

theorem short_lt (q:Rat) (h:short q=true):q.num.natAbs < 1000000000∧q.den < 1000000000:=by
 obtain ⟨h1,h2⟩:=of_decide_eq_true h
 refine ⟨dec_lt _ h1,?_⟩
 by_cases hd:q.den=1
 ·omega
 ·exact dec_lt _ (h2 hd)

theorem rquick_any (q:Rat) (w:World) (hs:(canonR q).size≤1000000) :
  Calls Tryz.prog 55 #[.string (canonR q)] w fun e w'=>e=.returned (.tuple #[.int .i64 (if short q=true then q.num else 0),.int .i64 (if short q=true then (q.den:Int) else 0),.bool (short q)])∧w=w':=by
 have h:=quick_of (canonR q) _ _ _ _ w (qtext_of q.num q.den) hs (canonR_pos q)
 refine h.mono fun e w' ⟨⟨x,y,b,h1,h2,h4,h5⟩,h3⟩=>⟨?_,h3⟩
 have hsz:(canonR q).size=(ratL q.num q.den).length:=rfl
 have hk:(Lib.itoa q.num).length < (canonR q).size ↔ q.den ≠ 1:=by
  rw [hsz]
  unfold ratL
  by_cases hd:q.den=1
  ·rw [if_pos hd]; simp [hd]
  ·rw [if_neg hd]; simp [hd]
 rw [hk] at h5
 have hb:b=short q:=by
  by_cases hc:(mdig q.num).length≤9∧(q.den ≠ 1→(Lib.decDigits q.den).length≤9)
  ·rw [h5.2 hc]; exact (decide_eq_true hc).symm
  ·have:b=false:=by
    cases b with
    | false=>rfl
    | true=>exact absurd (h5.1 rfl) hc
   rw [this]; exact (decide_eq_false hc).symm
 subst hb
 rw [h1]
 cases hc:short q with
 | false =>
  obtain ⟨e1,e2⟩:=h4 hc
  rw [e1,e2]; simp
 | true =>
  obtain ⟨e1,e2,_,_⟩:=h2 hc
  rw [mdig_val] at e1
  rw [decDigits_val] at e2
  have h6:y=(q.den:Int):=by
   by_cases hd:q.den=1
   ·rw [if_neg (fun h=>hk.1 h hd)] at e2
    rw [e2,hd]; rfl
   ·rw [if_pos (hk.2 hd)] at e2
    exact e2
  have h7:x=q.num:=by
   rw [e1]
   by_cases hn:q.num < 0
   ·rw [if_pos hn,if_pos rfl]; omega
   ·rw [if_neg hn,if_neg (by omega)]; omega
  rw [h6,h7]; simp

end Go.Proofs.YthhkmihjnnfpgaaGreatDoor

/- The walk of rational.small: the number of two ints. -/
namespace Go.Proofs.YthhkmihjnnfpgaaGreatDoor
set_option linter.all false
open Go.RowKit

theorem tdiv_gcd (n:Int) (g:Nat) (hg:(g:Int) ∣ n) (h0:0 < g):n.tdiv (g:Int)=n / (g:Int):=by
 obtain ⟨c,rfl⟩:=hg
 rw [Int.mul_tdiv_cancel_left _ (by omega),Int.mul_ediv_cancel_left _ (by omega)]

set_option maxRecDepth 100000 in
set_option maxHeartbeats 4000000 in
theorem small_of (n:Int) (d:Nat) (w:World) (ht:Pow10 w) (hd:0 < d) (hn0:-4000000000000000000≤n) (hn1:n≤4000000000000000000) (hd1:d≤4000000000000000000) :
  Calls Tryz.prog 56 #[.int .i64 n,.int .i64 d] w fun e w'=>e=.returned (.string (canonR (mkRat n d)))∧Below w.heap.size w w':=by
 have hmk:=canonR_mk n d (by omega)
 have hgp:0 < n.natAbs.gcd d:=Nat.gcd_pos_of_pos_right _ hd
 have hgn:((n.natAbs.gcd d:Nat):Int) ∣ n:=Int.ofNat_dvd_left.2 (Nat.gcd_dvd_left _ _)
 have hgd:n.natAbs.gcd d ∣ d:=Nat.gcd_dvd_right _ _
 have hgl:n.natAbs.gcd d≤d:=Nat.gcd_le_right _ hd
 have hq:=tdiv_gcd n _ hgn hgp
 have hqb:(n / ((n.natAbs.gcd d:Nat):Int)).natAbs≤n.natAbs:=Int.natAbs_ediv_le_natAbs _ _
 have hqd:d / n.natAbs.gcd d≤d:=Nat.div_le_self _ _
 have hqd0:0 < d / n.natAbs.gcd d:=Nat.div_pos hgl hgp
 have hgg:Int.gcd n (d:Int)=n.natAbs.gcd d:=rfl
 obtain ⟨g,hg⟩:∃ g,n.natAbs.gcd d=g:=⟨_,rfl⟩
 rw [hg] at hmk hgp hgl hq hqb hqd hqd0 hgg
 obtain ⟨q,hqq⟩:∃ q,n / (g:Int)=q:=⟨_,rfl⟩
 obtain ⟨e,he⟩:∃ e,d / g=e:=⟨_,rfl⟩
 have hde:(d:Int) / (g:Int)=(e:Int):=by rw [← he]; simp
 have hde2:(d:Int).tdiv (g:Int)=(e:Int):=by rw [Int.tdiv_eq_ediv_of_nonneg (by omega)]; exact hde
 rw [hqq] at hmk hq hqb
 rw [he] at hmk hqd hqd0
 rw [hmk]
 have hr1:e=1→ratT q e=canon q:=fun h=>by rw [h]; rfl
 have hr2:e ≠ 1→ratT q e=canon q ++ (⟨#[47]⟩:ByteArray) ++ canon (e:Int):=fun h=>ratT_frac q e h
 obtain ⟨R,hR⟩:∃ R,ratT q e=R:=⟨_,rfl⟩
 rw [hR] at hr1 hr2 ⊢
 have HR1:=Lib.hid hr1
 have HR2:=Lib.hid hr2
 clear hr1 hr2 hR
 have hq0:-4000000000000000000≤q:=by omega
 have hq1:q≤4000000000000000000:=by omega
 have he4:(e:Int)≤4000000000000000000:=by omega
 have i1:=fun W (hW:Below w.heap.size w W)=>itoa_any q (by omega) (by omega) W (ht.below hW)
 have i2:=fun W (hW:Below w.heap.size w W)=>itoa_any (e:Int) (by omega) (by omega) W (ht.below hW)
 have hsq:(canon q).size≤20:=canon_size_lt q 19 (by omega) (by omega)
 have hse:(canon (e:Int)).size≤20:=canon_size_lt (e:Int) 19 (by omega) (by omega)
 have I1:=Lib.hid i1
 have I2:=Lib.hid i2
 have HGG:=Lib.hid hgg
 have HQ:=Lib.hid hq
 have HD2:=Lib.hid hde2
 have HD3:=Lib.hid hde
 clear i1 i2 ht hmk hgn hgd hqb hgg hqq he hg hq hde2 hde hqd
 go_enter Tryz.func56, Tryz.ntmps56
 go_wp2
 go_loopw [5,6] (fun xv yv wr=>∃ (x y:Int),xv=.int .i64 x∧yv=.int .i64 y∧(-4000000000000000000≤x∧x≤4000000000000000000)∧(-4000000000000000000≤y∧y≤4000000000000000000)∧Below w.heap.size w wr∧Hid (Int.gcd x y=g)) (fun _ yv _=>(intOf yv).natAbs)
 case atStart=>exact ⟨n,d,rfl,rfl,⟨hn0,hn1⟩,⟨by omega,by omega⟩,Below.refl _ _,HGG.out⟩
 case round =>
  obtain ⟨x,y,rfl,rfl,⟨c1,c2⟩,⟨c3,c4⟩,hb,HG⟩:=hrel
  have HB:=Lib.hid hb
  clear hb
  by_cases hy:y=0
  ·subst hy
   have hgx:x.natAbs=g:=by rw [← HG.out]; simp
   have t0:((g:Int) == 0)=false:=beq_eq_false_iff_ne.2 (by omega)
   have hq:=HQ.out
   have hd2:=HD2.out
   have hd3:=HD3.out
   have hgb:(g:Int)≤4000000000000000000:=by omega
   by_cases he1:e=1
   ·have HR:=Lib.hid (HR1.out he1)
    have te:((e:Int) == 1)=true:=by rw [he1]; rfl
    clear I2 HG HGG HQ HD2 HD3
    by_cases hx:x < 0
    ·obtain rfl:x = -(g:Int):=by omega
     go_wp2
     go_quiet (fail)
     go_wp2_with (go_at_call 54; (with_reducible refine (I1.out _ ?_).mono ?_); exact HB.out.trans ((Drew.of _ _).below _); rintro e w3 ⟨rfl,q⟩; have B3:=Lib.hid ((HB.out.trans ((Drew.of _ _).below _)).trans (q.mono HB.out.size)); clear q)
     go_ret
     rw [HR.out]
     exact ⟨rfl,B3.out⟩
    ·obtain rfl:x=(g:Int):=by omega
     have dx:decide ((g:Int) < 0)=false:=decide_eq_false (by omega)
     go_wp2
     go_quiet (fail)
     go_wp2_with (go_at_call 54; (with_reducible refine (I1.out _ ?_).mono ?_); exact HB.out.trans ((Drew.of _ _).below _); rintro e w3 ⟨rfl,q⟩; have B3:=Lib.hid ((HB.out.trans ((Drew.of _ _).below _)).trans (q.mono HB.out.size)); clear q)
     go_ret
     rw [HR.out]
     exact ⟨rfl,B3.out⟩
   ·have te:((e:Int) == 1)=false:=beq_eq_false_iff_ne.2 (by omega)
    have HR:=Lib.hid (HR2.out he1)
    clear HG HGG HQ HD2 HD3
    by_cases hx:x < 0
    ·obtain rfl:x = -(g:Int):=by omega
     go_wp2
     go_quiet (fail)
     go_wp2_with (first
      | (go_at_call_of 54 (Value.int .i64 q); (with_reducible refine (I1.out _ ?_).mono ?_); exact HB.out.trans ((Drew.of _ _).below _); rintro e w3 ⟨rfl,q⟩; have B3:=Lib.hid ((HB.out.trans ((Drew.of _ _).below _)).trans (q.mono HB.out.size)); clear q)
      | (go_at_call 54; (with_reducible refine (I2.out _ B3.out).mono ?_); rintro e w4 ⟨rfl,q⟩; have B4:=Lib.hid (B3.out.trans (q.mono B3.out.size)); clear q)
      | fail "arm")
     go_ret
     rw [HR.out]
     exact ⟨rfl,B4.out⟩
    ·obtain rfl:x=(g:Int):=by omega
     have dx:decide ((g:Int) < 0)=false:=decide_eq_false (by omega)
     go_wp2
     go_quiet (fail)
     go_wp2_with (first
      | (go_at_call_of 54 (Value.int .i64 q); (with_reducible refine (I1.out _ ?_).mono ?_); exact HB.out.trans ((Drew.of _ _).below _); rintro e w3 ⟨rfl,q⟩; have B3:=Lib.hid ((HB.out.trans ((Drew.of _ _).below _)).trans (q.mono HB.out.size)); clear q)
      | (go_at_call 54; (with_reducible refine (I2.out _ B3.out).mono ?_); rintro e w4 ⟨rfl,q⟩; have B4:=Lib.hid (B3.out.trans (q.mono B3.out.size)); clear q)
      | fail "arm")
     go_ret
     rw [HR.out]
     exact ⟨rfl,B4.out⟩
  ·have t1:(y != 0)=true:=by rw [bne_iff_ne]; exact hy
   have t2:(y == 0)=false:=beq_eq_false_iff_ne.2 hy
   have HN:=Lib.hid ((gcd_tmod x y).trans HG.out)
   have m1:(x.tmod y).natAbs < y.natAbs:=by rw [Int.natAbs_tmod]; exact Nat.mod_lt _ (by omega)
   obtain ⟨m,hm⟩:∃ m,x.tmod y=m:=⟨_,rfl⟩
   rw [hm] at m1 HN
   have c5:-4000000000000000000≤m:=by omega
   have c6:m≤4000000000000000000:=by omega
   clear HG
   go_wp2
   go_quiet (fail)
   go_wp2
   go_roundw
   case rel=>exact ⟨y,m,rfl,rfl,⟨c3,c4⟩,⟨c5,c6⟩,HB.out.trans ((Drew.of _ _).below _),HN.out⟩
   case measure=>simpa [intOf] using m1

end Go.Proofs.YthhkmihjnnfpgaaGreatDoor
