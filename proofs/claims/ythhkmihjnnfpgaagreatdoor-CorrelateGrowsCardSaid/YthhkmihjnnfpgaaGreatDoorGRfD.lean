/- Package rational over rational numbers. -/
import Derived.Test.YthhkmihjnnfpgaaGreatDoorRfC
import Derived.Test.YthhkmihjnnfpgaaGreatDoorGRatC
import Derived.Test.YthhkmihjnnfpgaaGreatDoorRatD
import Derived.Test.YthhkmihjnnfpgaaGreatDoorGRefB
import Derived.Test.YthhkmihjnnfpgaaGreatDoorProg
import Derived.Test.YthhkmihjnnfpgaaGreatDoorGPlain
import Derived.Test.YthhkmihjnnfpgaaGreatDoorGMag
import Derived.Test.YthhkmihjnnfpgaaGreatDoorGRefA
import Derived.Deep.QuietTactic
import Derived.BigQuiet
/- The walks of klipperef02.Neg, Sign, Sub, Compare, Abs, Floor, Nearest, Div and Round, and of rational.Abs, Min, Max, Whole and Round. -/
namespace Go.Proofs.YthhkmihjnnfpgaaGreatDoor
set_option linter.all false
open Go.RowKit

def absQ (q:Rat):Rat:=if q.num < 0 then -q else q

theorem rabs_any (q:Rat) (w:World) :
  Calls Tryz.prog 63 #[.string (canonR q)] w fun e w'=>e=.returned (.string (canonR (absQ q)))∧Below w.heap.size w w':=by
 have h0:=canonR_pos q
 have hm:=first_minus q h0
 have h1:1≤(canonR q).size:=h0
 by_cases hn:q.num < 0
 ·have hR:canonR (absQ q)=(canonR q).extract 1 (canonR q).size:=by unfold absQ; rw [if_pos hn]; exact canonR_neg_neg q hn
  have HR:=Lib.hid hR
  have h45:=hm.1 hn
  generalize canonR (absQ q)=R at *
  generalize canonR q=T at *
  have hc:((T[0].toNat:Int) == 45)=true:=by rw [h45]; rfl
  clear hm hn h45 hR
  go_enter Tryz.func63, Tryz.ntmps63
  go_wp2
  go_ret
  rw [HR.out]
  exact ⟨rfl,Below.refl _ _⟩
 ·have hR:canonR (absQ q)=canonR q:=by unfold absQ; rw [if_neg hn]
  rw [hR]
  have h45:¬ (canonR q)[0].toNat=45:=fun h=>hn (hm.2 h)
  generalize canonR q=T at *
  have hc:((T[0].toNat:Int) == 45)=false:=beq_eq_false_iff_ne.2 (by omega)
  clear hm hn h45 hR
  go_enter Tryz.func63, Tryz.ntmps63
  go_wp2
  go_ret
  exact ⟨rfl,Below.refl _ _⟩

end Go.Proofs.YthhkmihjnnfpgaaGreatDoor

/- Which texts are right numbers; the walks of klipperef02.Right and klippelaw02.fits. -/
namespace Go.Proofs.YthhkmihjnnfpgaaGreatDoor
set_option linter.all false
open Go.RowKit

theorem u8_48 {c:UInt8} (h:c.toNat=48):c=48:=UInt8.toNat_inj.1 (by rw [h]; rfl)

theorem dec_zero:Lib.decDigits 0=[48]:=by
 have h:(canon 0).toList=[48]:=eq_of_beq (canon_beq0 0)
 have h2:(canon 0).data.toList=Lib.decDigits 0:=by show Lib.itoa ((0:Nat):Int)=_; rw [itoa_of_nat]
 rw [← h2,← ByteArray.toList_eq,h]

theorem rightL_facts {neg:Bool} {t:List UInt8} (h:rightL neg t=true):∃ c m,t=c :: m∧t.length≤200∧AllDig t∧(c.toNat=48→neg=false∧m=[]):=by
 unfold rightL headB at h
 simp only [Bool.and_eq_true] at h
 obtain ⟨⟨⟨h1,h2⟩,h3⟩,h4⟩:=h
 have h4:=(allDigB_iff t).1 h4
 have h2:=of_decide_eq_true h2
 cases t with
 | nil=>simp at h1
 | cons c m =>
  refine ⟨c,m,rfl,h2,h4,fun hc=>?_⟩
  have:=u8_48 hc
  subst this
  simp at h3
  exact ⟨h3.1,h3.2⟩

theorem rightS_iff (l:List UInt8):rightS l=true ↔ ∃ z:Int,l=Lib.itoa z∧(mdig z).length≤200:=by
 constructor
 ·intro h
  cases l with
  | nil=>simp [rightS] at h
  | cons c m =>
   by_cases h45:c=45
   ·subst h45
    have h:rightL true m=true:=by simpa [rightS] using h
    obtain ⟨d,m',rfl,h2,h3,h4⟩:=rightL_facts h
    have hd:d.toNat ≠ 48:=fun e=>by have:=(h4 e).1; cases this
    have he:=eq_dec h3 hd
    have hp:0 < dval (d :: m'):=(eq_decDigits _ d m' rfl h3 hd).1
    refine ⟨-((dval (d :: m'):Nat):Int),?_,?_⟩
    ·rw [itoa_of_neg _ hp,← he]
    ·show (Lib.decDigits (-((dval (d :: m'):Nat):Int)).natAbs).length≤200
     rw [Int.natAbs_neg,Int.natAbs_natCast,← he]
     exact h2
   ·have h:rightL false (c :: m)=true:=by simpa [rightS,h45] using h
    obtain ⟨d,m',h1,h2,h3,h4⟩:=rightL_facts h
    cases h1
    by_cases hd:c.toNat=48
    ·have:=u8_48 hd
     subst this
     rw [(h4 rfl).2]
     have h0:Lib.decDigits 0=[48]:=dec_zero
     refine ⟨0,?_,?_⟩
     ·show [48]=Lib.itoa ((0:Nat):Int)
      rw [itoa_of_nat,h0]
     ·show (Lib.decDigits 0).length≤200
      rw [h0]; decide
    ·have he:=eq_dec h3 hd
     refine ⟨((dval (c :: m):Nat):Int),?_,?_⟩
     ·rw [itoa_of_nat,← he]
     ·show (Lib.decDigits ((dval (c :: m):Nat):Int).natAbs).length≤200
      rw [Int.natAbs_natCast,← he]
      exact h2
 ·rintro ⟨z,rfl,hz⟩
  obtain ⟨f1,f2,c,m,f3,f4,f5⟩:=decDigits_facts z.natAbs
  have hm:mdig z=c :: m:=f3
  have hc:=f1 c (by rw [f3]; exact List.mem_cons_self ..)
  have hb:allDigB (c :: m)=true:=(allDigB_iff _).2 (by rw [← f3]; exact f1)
  rw [hm] at hz
  rcases itoa_cases z with ⟨h1,h2⟩ | ⟨h1,h2⟩
  ·rw [h2,hm]
   have h45:c ≠ 45:=fun e=>by rw [e] at hc; simp at hc
   show (if c=45 then rightL true m else rightL false (c :: m))=true
   rw [if_neg h45]
   unfold rightL headB
   rw [hb]
   by_cases h0:z.natAbs=0
   ·have:=f5 h0
    subst this
    simp
   ·have hn:c ≠ 48:=fun e=>f4 (by omega) (by rw [e]; rfl)
    simp [hn]
    simpa using hz
  ·rw [h2,hm]
   show (if (45:UInt8)=45 then rightL true (c :: m) else rightL false (45 :: c :: m))=true
   rw [if_pos rfl]
   unfold rightL headB
   rw [hb]
   have hn:c ≠ 48:=fun e=>f4 (by omega) (by rw [e]; rfl)
   simp [hn]
   simpa using hz

def RightQ (T:ByteArray):Prop:=∃ q:Rat,T=canonR q∧(mdig q.num).length≤200∧(Lib.decDigits q.den).length≤200
noncomputable def rightQ (T:ByteArray):Bool:=@decide (RightQ T) (Classical.propDecidable _)

theorem rightQ_true {T:ByteArray} (h:RightQ T):rightQ T=true:=by unfold rightQ; exact @decide_eq_true _ (Classical.propDecidable _) h
theorem rightQ_false {T:ByteArray} (h:¬ RightQ T):rightQ T=false:=by unfold rightQ; exact @decide_eq_false _ (Classical.propDecidable _) h
theorem rightQ_of {T:ByteArray} (h:rightQ T=true):RightQ T:=@of_decide_eq_true _ (Classical.propDecidable _) h

theorem canonR_list (q:Rat):(canonR q).data.toList=ratL q.num q.den:=rfl

theorem rightQ_whole (T:ByteArray) (h:∀ c ∈ T.data.toList,c ≠ 47):RightQ T ↔ rightS T.data.toList=true:=by
 rw [rightS_iff]
 constructor
 ·rintro ⟨q,rfl,h1,h2⟩
  rw [canonR_list] at h ⊢
  by_cases hd:q.den=1
  ·exact ⟨q.num,by unfold ratL; rw [if_pos hd],h1⟩
  ·exfalso
   unfold ratL at h
   rw [if_neg hd] at h
   exact h 47 (by simp) rfl
 ·rintro ⟨z,h1,h2⟩
  refine ⟨(z:Rat),?_,h2,by show (Lib.decDigits 1).length≤200; have:=decDigits_len_le 1 1 (by omega) (by omega); omega⟩
  refine (ba_of_list _ _ ?_)
  rw [h1]
  rfl

theorem split_uniq {a b a' b':List UInt8} (h:a ++ 47 :: b=a' ++ 47 :: b') (ha:∀ c ∈ a,c ≠ 47) (ha':∀ c ∈ a',c ≠ 47):a=a'∧b=b':=by
 induction a generalizing a' with
 | nil =>
  cases a' with
  | nil=>simp at h; exact ⟨rfl,h⟩
  | cons c l =>
   simp at h
   exact absurd h.1.symm (ha' c (List.mem_cons_self ..))
 | cons c l ih =>
  cases a' with
  | nil =>
   simp at h
   exact absurd h.1 (ha c (List.mem_cons_self ..))
  | cons d l' =>
   simp at h
   obtain ⟨h1,h2⟩:=ih h.2 (fun z hz=>ha z (List.mem_cons_of_mem _ hz)) (fun z hz=>ha' z (List.mem_cons_of_mem _ hz))
   rw [h.1,h1]
   exact ⟨rfl,h2⟩

theorem rightQ_parts (T:ByteArray) (a b:List UInt8) (hT:T.data.toList=a ++ 47 :: b) (ha:∀ c ∈ a,c ≠ 47) :
  RightQ T ↔ ∃ z m:Int,a=Lib.itoa z∧(mdig z).length≤200∧b=Lib.itoa m∧(mdig m).length≤200∧1 < m∧z ≠ 0∧Int.gcd z m=1:=by
 constructor
 ·rintro ⟨q,rfl,h1,h2⟩
  rw [canonR_list] at hT
  by_cases hd:q.den=1
  ·exfalso
   unfold ratL at hT
   rw [if_pos hd] at hT
   exact itoa_no_slash q.num 47 (by rw [hT]; simp) rfl
  ·unfold ratL at hT
   rw [if_neg hd] at hT
   obtain ⟨e1,e2⟩:=split_uniq hT (itoa_no_slash q.num) ha
   have hr:=q.reduced
   have hnz:=q.den_nz
   refine ⟨q.num,(q.den:Int),e1.symm,h1,by rw [itoa_of_nat]; exact e2.symm,by show (Lib.decDigits ((q.den:Nat):Int).natAbs).length≤200; rw [Int.natAbs_natCast]; exact h2,by omega,fun h0=>?_,?_⟩
   ·rw [h0] at hr
    simp [Nat.Coprime] at hr
    exact hd hr
   ·unfold Int.gcd
    rw [Int.natAbs_natCast]
    exact hr
 ·rintro ⟨z,m,h1,h2,h3,h4,h5,h6,h7⟩
  have hm:((m.natAbs:Nat):Int)=m:=by omega
  refine ⟨⟨z,m.natAbs,by omega,h7⟩,?_,h2,h4⟩
  refine ba_of_list _ _ ?_
  rw [hT]
  show a ++ 47 :: b=ratL z m.natAbs
  unfold ratL
  rw [if_neg (by omega),h1,h3,← itoa_of_nat,hm]

theorem itoa_size {z:Int} (h:(mdig z).length≤200):(canon z).size≤201:=by
 show (Lib.itoa z).length≤201
 rcases itoa_cases z with ⟨_,e⟩ | ⟨_,e⟩
 ·rw [e]; omega
 ·rw [e,List.length_cons]; omega

end Go.Proofs.YthhkmihjnnfpgaaGreatDoor
