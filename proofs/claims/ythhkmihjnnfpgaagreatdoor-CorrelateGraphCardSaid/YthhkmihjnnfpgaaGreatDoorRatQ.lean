/- The walk of rational.quick: a short number as two ints. -/
import Derived.Test.YthhkmihjnnfpgaaGreatDoorRat
import Derived.WalkSmall
namespace Go.Proofs.YthhkmihjnnfpgaaGreatDoor
set_option linter.all false
open Go.RowKit

theorem dval_snoc_take (L:List UInt8) (j:Nat) (hj:j < L.length):dval (L.take (j + 1))=10 * dval (L.take j) + (L[j].toNat - 48):=by
 rw [List.take_succ_eq_append_getElem hj,dval_snoc]; omega

structure QText (T:ByteArray) (s0 k:Nat) (L1 L2:List UInt8):Prop where
 hs:s0≤1
 hk:s0 + L1.length=k
 hkT:k≤T.size
 d1:AllDig L1
 d2:AllDig L2
 g1:∀ j (h:j < L1.length) (h2:s0 + j < T.size),T[s0 + j]=L1[j]
 gs:∀ h:k < T.size,T[k].toNat=47∧k + 1 + L2.length=T.size∧∀ j (h1:j < L2.length) (h2:k + 1 + j < T.size),T[k + 1 + j]=L2[j]
 gm:∀ h:0 < T.size,(s0=1 ↔ T[0].toNat=45)

theorem ba_get {T:ByteArray} {l:List UInt8} (h:T.data.toList=l) (i:Nat) (hi:i < T.size):T[i]=l[i]'(by rw [← h,← Lib.size_eq]; exact hi):=by
 have h1:T[i]=T.data.toList[i]'(by rw [← Lib.size_eq]; exact hi):=rfl
 rw [h1]
 simp [h]

theorem qtext_of (n:Int) (d:Nat):QText (ratT n d) (if n < 0 then 1 else 0) ((Lib.itoa n).length) (mdig n) (Lib.decDigits d):=by
 have hd:(ratT n d).data.toList=ratL n d:=rfl
 have hsz:(ratT n d).size=(ratL n d).length:=rfl
 have hp:0 < (mdig n).length:=by
  obtain ⟨_,_,c,l,h3,_⟩:=decDigits_facts n.natAbs
  show 0 < (Lib.decDigits n.natAbs).length
  rw [h3]; simp
 have hil:(if n < 0 then 1 else 0) + (mdig n).length=(Lib.itoa n).length:=by
  rcases itoa_cases n with ⟨h,e⟩ | ⟨h,e⟩
  ·rw [e,if_neg (by omega)]; omega
  ·rw [e,if_pos h,List.length_cons]; omega
 have hrl:(ratL n d).length=(Lib.itoa n).length + if d=1 then 0 else 1 + (Lib.decDigits d).length:=by
  unfold ratL
  by_cases h:d=1
  ·rw [if_pos h,if_pos h]; rfl
  ·rw [if_neg h,if_neg h,List.length_append,List.length_cons]; omega
 have hget:∀ i (h:i < (Lib.itoa n).length) (h2:i < (ratL n d).length),(ratL n d)[i]=(Lib.itoa n)[i]:=fun i h h2=>by
  unfold ratL
  by_cases h3:d=1
  ·simp [h3]
  ·simp only [if_neg h3]
   rw [List.getElem_append_left h]
 refine ⟨by split <;> omega,hil,by rw [hsz,hrl]; omega,mdig_all n,decDigits_all d,fun j h h2=>?_,fun h=>?_,fun h=>?_⟩
 ·rw [ba_get hd _ h2,hget _ (by omega)]
  rcases itoa_cases n with ⟨h3,e⟩ | ⟨h3,e⟩
  ·simp [if_neg (show ¬ n < 0 by omega),e]
  ·simp only [if_pos h3,e]
   simp [Nat.add_comm 1 j]
 ·have hd1:d ≠ 1:=fun e=>by
   rw [hsz,hrl,if_pos e] at h
   omega
  have hs2:(ratT n d).size=(Lib.itoa n).length + (1 + (Lib.decDigits d).length):=by rw [hsz,hrl,if_neg hd1]
  refine ⟨?_,by omega,fun j h1 h2=>?_⟩
  ·rw [ba_get hd _ h]
   simp only [ratL,if_neg hd1]
   rw [List.getElem_append_right (Nat.le_refl _)]
   simp
  ·rw [ba_get hd _ h2]
   simp only [ratL,if_neg hd1]
   rw [List.getElem_append_right (by omega)]
   simp [show (Lib.itoa n).length + 1 + j - (Lib.itoa n).length=j + 1 by omega]
 ·rw [ba_get hd _ h,hget 0 (by omega)]
  rcases itoa_cases n with ⟨h3,e⟩ | ⟨h3,e⟩
  ·simp only [if_neg (show ¬ n < 0 by omega),e]
   have:=mdig_all n (mdig n)[0] (List.getElem_mem hp)
   constructor
   ·intro h4; omega
   ·intro h4; omega
  ·simp only [if_pos h3,e]
   simp

def QPost (s0 k:Nat) (T:ByteArray) (L1 L2:List UInt8) (x y:Int) (b:Bool):Prop :=
 (b=true→x=(if s0=1 then -((dval L1:Nat):Int) else ((dval L1:Nat):Int))∧y=(if k < T.size then ((dval L2:Nat):Int) else 1)∧dval L1 < 1000000000∧(k < T.size→dval L2 < 1000000000)) ∧
 (b=false→x=0∧y=0)∧(b=true ↔ (L1.length≤9∧(k < T.size→L2.length≤9)))

theorem i64_q {a b:Int} (h:a=b):Value.int .i64 a=.int .i64 b:=by rw [h]

def QRes (s0 k:Nat) (T:ByteArray) (L1 L2:List UInt8) (e:Ending):Prop:=∃ x y b,e=.returned (.tuple #[.int .i64 x,.int .i64 y,.bool b])∧QPost s0 k T L1 L2 x y b

set_option maxRecDepth 100000 in
set_option maxHeartbeats 8000000 in
theorem quick_of (T:ByteArray) (s0 k:Nat) (L1 L2:List UInt8) (w:World) (hq:QText T s0 k L1 L2) (hT:T.size≤1000000) (h0:0 < T.size) :
  Calls Tryz.prog 55 #[.string T] w fun e w'=>QRes s0 k T L1 L2 e∧w=w':=by
 obtain ⟨hs,hk,hkT,hd1,hd2,g1,gs,gm0⟩:=hq
 have gm:=gm0 h0
 have D1:=Lib.hid hd1
 have D2:=Lib.hid hd2
 have G1:=Lib.hid g1
 have GS:=Lib.hid gs
 have GM:=Lib.hid gm
 clear hd1 hd2 g1 gs gm gm0
 have hc:s0=0 ∨ s0=1:=by omega
 rcases hc with rfl | rfl
 ·have hm : ((T[0].toNat : Int) == 45) = false := beq_eq_false_iff_ne.2 (fun e => by have := GM.out.2 (by omega); omega)
  clear GM
  go_enter Tryz.func55,Tryz.ntmps55
  go_wp2
  go_loop [2,3,5] (fun nv ev iv=>∃ (j u:Nat),j≤L1.length∧j≤9∧ev=.int .i64 0∧iv=.int .i64 j∧nv=.int .i64 u∧u < 1000000000∧Hid (u=dval (L1.take j))) (fun _ _ iv=>k + 1 - (intOf iv).toNat)
  case atStart=>exact ⟨0,0,Nat.zero_le _,by omega,rfl,rfl,rfl,by omega,rfl⟩
  case round =>
   obtain ⟨j,u,hj,hj9,rfl,rfl,rfl,hu,HU⟩:=hrel
   by_cases hlt:j < L1.length
   ·have hjT:j < T.size:=by omega
    have hdj:=D1.out L1[j] (List.getElem_mem hlt)
    have hg:=G1.out j hlt (by omega)
    simp only [Nat.zero_add] at hg
    rw [← hg] at hdj
    have HG:=Lib.hid hg
    have b1:=hdj.1
    have b2:=hdj.2
    clear hg hdj
    have hne:((T[j].toNat:Int) != 47)=true:=by rw [bne_iff_ne]; omega
    by_cases h9:j=9
    ·subst h9

     go_wp2
     go_ret3
     exact ⟨⟨0,0,false,rfl,(fun h=>by cases h),fun _=>⟨rfl,rfl⟩,⟨(fun h=>by cases h),fun h=>by have:=h.1; omega⟩⟩,rfl⟩
    ·have t9:((j:Int) == 9)=false:=beq_eq_false_iff_ne.2 (by omega)
     have HN:Hid (10 * u + (T[j].toNat - 48)=dval (L1.take (j + 1))∧10 * u + (T[j].toNat - 48) < 1000000000):=by
      have h1:=dval_snoc_take L1 j hlt
      have h2:=HU.out
      have h3:L1[j].toNat=T[j].toNat:=by rw [HG.out]
      rw [h3,← h2] at h1
      refine ⟨h1.symm,?_⟩
      have h4:=dval_lt (D1.out.take (j + 1))
      have h5:(10:Nat) ^ (L1.take (j + 1)).length≤10 ^ 9:=Nat.pow_le_pow_right (by omega) (by rw [List.length_take]; omega)
      rw [h1] at h4
      omega
     go_wp2
     go_round
     case rel =>
      exact ⟨j + 1,10 * u + (T[j].toNat - 48),by omega,by omega,rfl,by go_num,i64_q (by omega),HN.out.2,HN.out.1⟩
     case measure=>simp [intOf]; omega
   ·obtain rfl:j=k:=by omega
    have hu1:u=dval L1:=by rw [HU.out,List.take_of_length_le (by omega)]
    have HU1:=Lib.hid hu1
    have HJ9:=Lib.hid (show L1.length≤9 by omega)
    clear hu1 HU hlt hj9
    by_cases hend:j < T.size
    ·obtain ⟨h47, hsz, g2⟩ := GS.out hend
     have G2:=Lib.hid g2
     clear g2
     have hne:((T[j].toNat:Int) != 47)=false:=by rw [h47]; rfl
     have hie:((j:Int) == (T.size:Int))=false:=beq_eq_false_iff_ne.2 (by omega)
     go_wp2
     go_loop [2,3,5] (fun nv ev iv=>∃ (i v:Nat),i≤L2.length∧i≤9∧nv=.int .i64 u∧ev=.int .i64 v∧iv=.int .i64 ((j + 1 + i:Nat):Int)∧v < 1000000000∧Hid (v=dval (L2.take i))) (fun _ _ iv=>T.size + 1 - (intOf iv).toNat)
     case atStart=>exact ⟨0,0,Nat.zero_le _,by omega,rfl,rfl,by go_num,by omega,rfl⟩
     case round =>
      obtain ⟨i,v,hi,hi9,rfl,rfl,rfl,hv,HV⟩:=hrel
      by_cases hlt:i < L2.length
      ·have hjT : j + 1 + i < T.size := by omega
       have hdj:=D2.out L2[i] (List.getElem_mem hlt)
       have hg:=G2.out i hlt hjT
       rw [← hg] at hdj
       have HG:=Lib.hid hg
       have b1:=hdj.1
       have b2:=hdj.2
       clear hg hdj
       by_cases h9:i=9
       ·subst h9
        go_wp2
        go_ret3
        exact ⟨⟨0,0,false,rfl,(fun h=>by cases h),fun _=>⟨rfl,rfl⟩,⟨(fun h=>by cases h),fun h=>by have:=h.2 hend; omega⟩⟩,rfl⟩
       ·have t9:((i:Int) == 9)=false:=beq_eq_false_iff_ne.2 (by omega)
        have HN:Hid (10 * v + (T[j + 1 + i].toNat - 48)=dval (L2.take (i + 1))∧10 * v + (T[j + 1 + i].toNat - 48) < 1000000000):=by
         have h1:=dval_snoc_take L2 i hlt
         have h2:=HV.out
         have h3:L2[i].toNat=T[j + 1 + i].toNat:=by rw [HG.out]
         rw [h3,← h2] at h1
         refine ⟨h1.symm,?_⟩
         have h4:=dval_lt (D2.out.take (i + 1))
         have h5:(10:Nat) ^ (L2.take (i + 1)).length≤10 ^ 9:=Nat.pow_le_pow_right (by omega) (by rw [List.length_take]; omega)
         rw [h1] at h4
         omega
        go_wp2
        go_round
        case rel =>
            exact ⟨i + 1,10 * v + (T[j + 1 + i].toNat - 48),by omega,by omega,rfl,i64_q (by omega),by go_num,HN.out.2,HN.out.1⟩
        case measure=>simp [intOf]; omega
      ·obtain rfl:i=L2.length:=by omega
       have HV2:=Lib.hid (show v=dval L2 by rw [HV.out,List.take_length])
       clear HV
       have hdn:decide (((j + 1 + L2.length:Nat):Int) < (T.size:Int))=false:=decide_eq_false (by omega)
       go_wp2
       go_ret3
       exact ⟨⟨_,_,true,rfl,fun _=>⟨by rw [if_neg (by omega),← HU1.out],by rw [if_pos hend,← HV2.out],by rw [← HU1.out]; exact hu,fun _=>by rw [← HV2.out]; exact hv⟩,(fun h=>by cases h),⟨fun _=>⟨HJ9.out,fun _=>hi9⟩,fun _=>rfl⟩⟩,rfl⟩
    ·have hie:((j:Int) == (T.size:Int))=true:=by rw [show j=T.size by omega]; simp
     go_wp2
     go_ret3
     exact ⟨⟨_,_,true,rfl,fun _=>⟨by rw [if_neg (by omega),← HU1.out],by rw [if_neg hend],by rw [← HU1.out]; exact hu,fun h=>absurd h hend⟩,(fun h=>by cases h),⟨fun _=>⟨HJ9.out,fun h=>absurd h hend⟩,fun _=>rfl⟩⟩,rfl⟩
 ·have hm:((T[0].toNat:Int) == 45)=true:=by rw [GM.out.1 rfl]; rfl
  clear GM
  go_enter Tryz.func55,Tryz.ntmps55
  go_wp2
  go_loop [2,3,5] (fun nv ev iv=>∃ (j u:Nat),j≤L1.length∧j≤9∧ev=.int .i64 0∧iv=.int .i64 ((j:Int) + 1)∧nv=.int .i64 u∧u < 1000000000∧Hid (u=dval (L1.take j))) (fun _ _ iv=>k + 2 - (intOf iv).toNat)
  case atStart=>exact ⟨0,0,Nat.zero_le _,by omega,rfl,rfl,rfl,by omega,rfl⟩
  case round =>
   obtain ⟨j,u,hj,hj9,rfl,rfl,rfl,hu,HU⟩:=hrel
   by_cases hlt:j < L1.length
   ·have hjT:j + 1 < T.size:=by omega
    have hdj:=D1.out L1[j] (List.getElem_mem hlt)
    have hg:T[j + 1]=L1[j]:=by
     have h3:=G1.out j hlt (by omega)
     simpa [Nat.add_comm] using h3
    rw [← hg] at hdj
    have HG:=Lib.hid hg
    have b1:=hdj.1
    have b2:=hdj.2
    clear hg hdj
    have hne:((T[j + 1].toNat:Int) != 47)=true:=by rw [bne_iff_ne]; omega
    by_cases h9:j=9
    ·subst h9

     go_wp2
     go_ret3
     exact ⟨⟨0,0,false,rfl,(fun h=>by cases h),fun _=>⟨rfl,rfl⟩,⟨(fun h=>by cases h),fun h=>by have:=h.1; omega⟩⟩,rfl⟩
    ·have t9:((j:Int) == 9)=false:=beq_eq_false_iff_ne.2 (by omega)
     have HN:Hid (10 * u + (T[j + 1].toNat - 48)=dval (L1.take (j + 1))∧10 * u + (T[j + 1].toNat - 48) < 1000000000):=by
      have h1:=dval_snoc_take L1 j hlt
      have h2:=HU.out
      have h3:L1[j].toNat=T[j + 1].toNat:=by rw [HG.out]
      rw [h3,← h2] at h1
      refine ⟨h1.symm,?_⟩
      have h4:=dval_lt (D1.out.take (j + 1))
      have h5:(10:Nat) ^ (L1.take (j + 1)).length≤10 ^ 9:=Nat.pow_le_pow_right (by omega) (by rw [List.length_take]; omega)
      rw [h1] at h4
      omega
     go_wp2
     go_round
     case rel =>
      exact ⟨j + 1,10 * u + (T[j + 1].toNat - 48),by omega,by omega,rfl,by go_num,i64_q (by omega),HN.out.2,HN.out.1⟩
     case measure=>simp [intOf]; omega
   ·have hkj : k = j + 1 := by omega
    subst hkj
    have hjl:j=L1.length:=by omega
    have hu1:u=dval L1:=by rw [HU.out,hjl,List.take_length]
    have HU1:=Lib.hid hu1
    have HJ9:=Lib.hid (show L1.length≤9 by omega)
    clear hu1 HU hlt hj9 hjl
    by_cases hend:j + 1 < T.size
    ·obtain ⟨h47, hsz, g2⟩ := GS.out hend
     have G2:=Lib.hid g2
     clear g2
     have hne:((T[j + 1].toNat:Int) != 47)=false:=by rw [h47]; rfl
     have hie:((j:Int) + 1 == (T.size:Int))=false:=beq_eq_false_iff_ne.2 (by omega)
     go_wp2
     go_loop [2,3,5] (fun nv ev iv=>∃ (i v:Nat),i≤L2.length∧i≤9∧nv=.int .i64 (-(u:Int))∧ev=.int .i64 v∧iv=.int .i64 ((j + 1 + 1 + i:Nat):Int)∧v < 1000000000∧Hid (v=dval (L2.take i))) (fun _ _ iv=>T.size + 1 - (intOf iv).toNat)
     case atStart=>exact ⟨0,0,Nat.zero_le _,by omega,rfl,rfl,by go_num,by omega,rfl⟩
     case round =>
      obtain ⟨i,v,hi,hi9,rfl,rfl,rfl,hv,HV⟩:=hrel
      by_cases hlt:i < L2.length
      ·have hjT : j + 1 + 1 + i < T.size := by omega
       have hdj:=D2.out L2[i] (List.getElem_mem hlt)
       have hg:=G2.out i hlt hjT
       rw [← hg] at hdj
       have HG:=Lib.hid hg
       have b1:=hdj.1
       have b2:=hdj.2
       clear hg hdj
       by_cases h9:i=9
       ·subst h9
        go_wp2
        go_ret3
        exact ⟨⟨0,0,false,rfl,(fun h=>by cases h),fun _=>⟨rfl,rfl⟩,⟨(fun h=>by cases h),fun h=>by have:=h.2 hend; omega⟩⟩,rfl⟩
       ·have t9:((i:Int) == 9)=false:=beq_eq_false_iff_ne.2 (by omega)
        have HN:Hid (10 * v + (T[j + 1 + 1 + i].toNat - 48)=dval (L2.take (i + 1))∧10 * v + (T[j + 1 + 1 + i].toNat - 48) < 1000000000):=by
         have h1:=dval_snoc_take L2 i hlt
         have h2:=HV.out
         have h3:L2[i].toNat=T[j + 1 + 1 + i].toNat:=by rw [HG.out]
         rw [h3,← h2] at h1
         refine ⟨h1.symm,?_⟩
         have h4:=dval_lt (D2.out.take (i + 1))
         have h5:(10:Nat) ^ (L2.take (i + 1)).length≤10 ^ 9:=Nat.pow_le_pow_right (by omega) (by rw [List.length_take]; omega)
         rw [h1] at h4
         omega
        go_wp2
        go_round
        case rel =>
            exact ⟨i + 1,10 * v + (T[j + 1 + 1 + i].toNat - 48),by omega,by omega,rfl,i64_q (by omega),by go_num,HN.out.2,HN.out.1⟩
        case measure=>simp [intOf]; omega
      ·obtain rfl:i=L2.length:=by omega
       have HV2:=Lib.hid (show v=dval L2 by rw [HV.out,List.take_length])
       clear HV
       have hdn:decide (((j + 1 + 1 + L2.length:Nat):Int) < (T.size:Int))=false:=decide_eq_false (by omega)
       go_wp2
       go_ret3
       exact ⟨⟨_,_,true,rfl,fun _=>⟨by rw [if_pos rfl,← HU1.out],by rw [if_pos hend,← HV2.out],by rw [← HU1.out]; exact hu,fun _=>by rw [← HV2.out]; exact hv⟩,(fun h=>by cases h),⟨fun _=>⟨HJ9.out,fun _=>hi9⟩,fun _=>rfl⟩⟩,rfl⟩
    ·have hie:((j:Int) + 1 == (T.size:Int))=true:=by rw [show (j:Int) + 1=(T.size:Int) by omega]; simp
     go_wp2
     go_ret3
     exact ⟨⟨_,_,true,rfl,fun _=>⟨by rw [if_pos rfl,← HU1.out],by rw [if_neg hend],by rw [← HU1.out]; exact hu,fun h=>absurd h hend⟩,(fun h=>by cases h),⟨fun _=>⟨HJ9.out,fun h=>absurd h hend⟩,fun _=>rfl⟩⟩,rfl⟩

theorem canonR_pos (q:Rat):0 < (canonR q).size:=by
 show 0 < (ratL q.num q.den).length
 have hp:0 < (Lib.itoa q.num).length:=by
  rcases itoa_cases q.num with ⟨h,e⟩ | ⟨h,e⟩
  ·rw [e]
   obtain ⟨_,_,c,l,h3,_⟩:=decDigits_facts q.num.natAbs
   show 0 < (Lib.decDigits q.num.natAbs).length
   rw [h3]; simp
  ·rw [e]; simp
 unfold ratL
 split
 ·exact hp
 ·simp; omega

def short (q:Rat):Bool:=decide ((mdig q.num).length≤9∧(q.den ≠ 1→(Lib.decDigits q.den).length≤9))

theorem dec_lt (n:Nat) (h:(Lib.decDigits n).length≤9):n < 1000000000:=by
 have h1:=dval_lt (decDigits_all n)
 rw [decDigits_val] at h1
 have h2:(10:Nat) ^ (Lib.decDigits n).length≤10 ^ 9:=Nat.pow_le_pow_right (by omega) h
 omega

theorem short_lt (q:Rat) (h:short q=true):q.num.natAbs < 1000000000∧q.den < 1000000000:=by
 obtain ⟨h1,h2⟩:=of_decide_eq_true h
 refine ⟨dec_lt _ h1,?_⟩
 by_cases hd:q.den=1
 ·omega
 ·exact dec_lt _ (h2 hd)

theorem rquick_any (q:Rat) (w:World) (hs:(canonR q).size≤1000000) :
  Calls Tryz.prog 55 #[.string (canonR q)] w fun e w'=>e=.returned (.tuple #[.int .i64 (if short q=true then q.num else 0),.int .i64 (if short q=true then (q.den:Int) else 0),.bool (short q)])∧w=w':=by
 have h:=quick_of (canonR q) _ _ _ _ w (qtext_of q.num q.den) hs (canonR_pos q)
 refine h.mono fun e w' ⟨⟨x,y,b,h1,h2,h4,h5⟩,h3⟩=>⟨?_,h3⟩
 have hsz:(canonR q).size=(ratL q.num q.den).length:=rfl
 have hk:(Lib.itoa q.num).length < (canonR q).size ↔ q.den ≠ 1:=by
  rw [hsz]
  unfold ratL
  by_cases hd:q.den=1
  ·rw [if_pos hd]; simp [hd]
  ·rw [if_neg hd]; simp [hd]
 rw [hk] at h5
 have hb:b=short q:=by
  by_cases hc:(mdig q.num).length≤9∧(q.den ≠ 1→(Lib.decDigits q.den).length≤9)
  ·rw [h5.2 hc]; exact (decide_eq_true hc).symm
  ·have:b=false:=by
    cases b with
    | false=>rfl
    | true=>exact absurd (h5.1 rfl) hc
   rw [this]; exact (decide_eq_false hc).symm
 subst hb
 rw [h1]
 cases hc:short q with
 | false =>
  obtain ⟨e1,e2⟩:=h4 hc
  rw [e1,e2]; simp
 | true =>
  obtain ⟨e1,e2,_,_⟩:=h2 hc
  rw [mdig_val] at e1
  rw [decDigits_val] at e2
  have h6:y=(q.den:Int):=by
   by_cases hd:q.den=1
   ·rw [if_neg (fun h=>hk.1 h hd)] at e2
    rw [e2,hd]; rfl
   ·rw [if_pos (hk.2 hd)] at e2
    exact e2
  have h7:x=q.num:=by
   rw [e1]
   by_cases hn:q.num < 0
   ·rw [if_pos hn,if_pos rfl]; omega
   ·rw [if_neg hn,if_neg (by omega)]; omega
  rw [h6,h7]; simp

end Go.Proofs.YthhkmihjnnfpgaaGreatDoor
