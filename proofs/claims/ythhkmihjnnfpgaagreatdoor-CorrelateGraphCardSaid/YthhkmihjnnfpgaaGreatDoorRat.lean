/- Rational numbers as texts: numerator, a slash and the denominator, if this is not 1. No program in sight. -/
import Derived.Test.YthhkmihjnnfpgaaGreatDoorGText
import Derived.Lib.IndexMore
namespace Go.Proofs.YthhkmihjnnfpgaaGreatDoor
set_option linter.all false
def ratL (n:Int) (d:Nat):List UInt8:=if d=1 then Lib.itoa n else Lib.itoa n ++ (47 :: Lib.decDigits d)
def ratT (n:Int) (d:Nat):ByteArray:=⟨(ratL n d).toArray⟩
def canonR (q:Rat):ByteArray:=ratT q.num q.den

theorem itoa_no_slash (n:Int):∀ c ∈ Lib.itoa n,c ≠ 47:=by
 intro c hc e
 subst e
 rcases itoa_cases n with ⟨_,h⟩ | ⟨_,h⟩
 ·rw [h] at hc
  have:=mdig_all n 47 hc
  simp at this
 ·rw [h] at hc
  rcases List.mem_cons.1 hc with h1 | h1
  ·simp at h1
  ·have:=mdig_all n 47 h1
   simp at this

theorem index_none47:∀ l:List UInt8,(∀ c ∈ l,c ≠ 47)→Lib.index l [47] = -1:=by
 intro l
 induction l with
 | nil=>intro _; rfl
 | cons c l ih =>
  intro h
  have hc:c ≠ 47:=h c (List.mem_cons_self ..)
  have ih':=ih (fun z hz=>h z (List.mem_cons_of_mem _ hz))
  unfold Lib.index
  have hp:List.isPrefixOf [47] (c :: l)=false:=by
   simp [List.isPrefixOf,Ne.symm hc]
  rw [hp,ih']
  rfl

theorem index_at47:∀ (a b:List UInt8),(∀ c ∈ a,c ≠ 47)→Lib.index (a ++ 47 :: b) [47]=a.length:=by
 intro a b
 induction a with
 | nil =>
  intro _
  unfold Lib.index
  simp [List.isPrefixOf]
 | cons c a ih =>
  intro h
  have hc:c ≠ 47:=h c (List.mem_cons_self ..)
  have ih':=ih (fun z hz=>h z (List.mem_cons_of_mem _ hz))
  rw [List.cons_append]
  unfold Lib.index
  have hp:List.isPrefixOf [47] (c :: (a ++ 47 :: b))=false:=by
   simp [List.isPrefixOf,Ne.symm hc]
  have hn:(((a.length:Nat):Int) == -1)=false:=by rw [beq_eq_false_iff_ne]; omega
  rw [hp,ih',hn]
  simp

theorem cut_ratL (n:Int) (d:Nat):Lib.cut (ratL n d) [47]=if d=1 then (Lib.itoa n,[],false) else (Lib.itoa n,Lib.decDigits d,true):=by
 unfold ratL Lib.cut
 by_cases h:d=1
 ·rw [if_pos h,if_pos h,index_none47 _ (itoa_no_slash n)]
  rfl
 ·rw [if_neg h,if_neg h,index_at47 _ _ (itoa_no_slash n),if_pos (by omega)]
  simp

theorem dec_inj {a b:Nat} (h:Lib.decDigits a=Lib.decDigits b):a=b:=by
 have h1:=decDigits_val a
 rw [h,decDigits_val] at h1
 exact h1.symm

theorem ratT_inj {n m:Int} {d e:Nat} (h:ratT n d=ratT m e):n=m∧d=e:=by
 have hl:ratL n d=ratL m e:=by
  have h1:=congrArg (fun s:ByteArray=>s.data.toList) h
  exact h1
 have h1:=cut_ratL n d
 rw [hl,cut_ratL m e] at h1
 by_cases hd:d=1 <;> by_cases he:e=1
 ·rw [if_pos hd,if_pos he] at h1
  have h2:Lib.itoa m=Lib.itoa n:=congrArg Prod.fst h1
  exact ⟨canon_inj (by unfold canon; rw [h2]),by rw [hd,he]⟩
 ·rw [if_pos hd,if_neg he] at h1
  have h2:true=false:=congrArg (fun p=>p.2.2) h1
  cases h2
 ·rw [if_neg hd,if_pos he] at h1
  have h2:false=true:=congrArg (fun p=>p.2.2) h1
  cases h2
 ·rw [if_neg hd,if_neg he] at h1
  have h2:Lib.itoa m=Lib.itoa n:=congrArg Prod.fst h1
  have h3:Lib.decDigits e=Lib.decDigits d:=congrArg (fun p=>p.2.1) h1
  exact ⟨canon_inj (by unfold canon; rw [h2]),(dec_inj h3).symm⟩

theorem canonR_inj {a b:Rat} (h:canonR a=canonR b):a=b:=by
 obtain ⟨h1,h2⟩:=ratT_inj h
 exact Rat.ext h1 h2

theorem ba_beq (a b:ByteArray):(a.toList == b.toList)=decide (a=b):=by
 rw [ByteArray.toList_eq,ByteArray.toList_eq]
 by_cases h:a=b
 ·subst h; simp
 ·rw [decide_eq_false h,beq_eq_false_iff_ne]
  intro h2
  exact h (by
   obtain ⟨⟨l⟩⟩:=a
   obtain ⟨⟨m⟩⟩:=b
   simp at h2
   rw [h2])

theorem canonR_beq (a b:Rat):((canonR a).toList == (canonR b).toList)=decide (a=b):=by
 rw [ba_beq]
 by_cases h:a=b
 ·subst h; simp
 ·rw [decide_eq_false h,decide_eq_false (fun e=>h (canonR_inj e))]

theorem canonR_int (n:Int):canonR (n:Rat)=canon n:=by
 unfold canonR ratT ratL
 rw [show ((n:Rat)).den=1 from rfl,if_pos rfl]
 rfl

theorem canonR_zero:canonR 0=canon 0:=canonR_int 0
theorem canonR_one:canonR 1=canon 1:=canonR_int 1

theorem canonR_beq0 (q:Rat):((canonR q).toList == [48])=decide (q=0):=by
 have h:=canonR_beq q 0
 rw [canonR_zero,canon_zero_list] at h
 exact h

theorem canon_one_list:(canon 1).toList=[49]:=by rw [k_1,ByteArray.toList_eq]
theorem canonR_beq1 (q:Rat):((canonR q).toList == [49])=decide (q=1):=by
 have h:=canonR_beq q 1
 rw [canonR_one,canon_one_list] at h
 exact h

theorem ratT_one (n:Int):ratT n 1=canon n:=rfl
theorem ratT_frac (n:Int) (d:Nat) (h:d ≠ 1):ratT n d=canon n ++ (⟨#[47]⟩:ByteArray) ++ canon (d:Int):=by
 have e:ratL n d=Lib.itoa n ++ (47 :: Lib.decDigits d):=by unfold ratL; rw [if_neg h]
 unfold ratT canon
 rw [e,itoa_of_nat]
 apply ByteArray.ext
 simp [ByteArray.data_append]

theorem canonR_normalize (n:Int) (d:Nat) (h:d ≠ 0):canonR (Rat.normalize n d h)=ratT (n / ((n.natAbs.gcd d:Nat):Int)) (d / n.natAbs.gcd d):=by
 rw [Rat.normalize_eq]
 rfl

theorem canonR_mk (n:Int) (d:Nat) (h:d ≠ 0):canonR (mkRat n d)=ratT (n / ((n.natAbs.gcd d:Nat):Int)) (d / n.natAbs.gcd d):=by
 rw [Rat.mkRat_def,dif_neg h]
 exact canonR_normalize n d h

end Go.Proofs.YthhkmihjnnfpgaaGreatDoor
