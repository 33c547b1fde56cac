/- The walks of the reference on integers; Sub, Compare, Power. -/
import Derived.Test.YthhkmihjnnfpgaaGreatDoorGText
import Derived.Test.YthhkmihjnnfpgaaGreatDoorGInt
import Derived.Test.YthhkmihjnnfpgaaGreatDoorGRefA
/- The walks of integer.Neg and Abs. -/
namespace Go.Proofs.YthhkmihjnnfpgaaGreatDoor
set_option linter.all false
open Go.RowKit

set_option maxHeartbeats 1000000 in
theorem neg_any (z:Int) (w:World) (hs:(canon z).size≤100000) :
  Calls Tryz.prog 90 #[.string (canon z)] w fun e w'=>e=.returned (.string (canon (-z)))∧Below w.heap.size w w':=by
 have h:=fun W=>sign_any z W
 rcases Int.lt_trichotomy z 0 with hz | hz | hz
 ·rw [Int.sign_eq_neg_one_of_neg hz] at h
  have H:=Lib.hid h
  have hd:(canon z).data.toList=45 :: mdig z:=by rw [canon_neg_eq z hz]
  have h0:1≤(canon z).size:=by rw [Lib.size_eq,hd]; simp
  have HE:Hid (canon (-z)=(canon z).extract 1 (canon z).size):=ba_ext (by
   rw [Lib.extract_to_end,hd,canon_nn_eq (-z) (by omega)]
   show mdig (-z)=_
   unfold mdig
   rw [Int.natAbs_neg]; rfl)
  clear h hd hz
  go_enter Tryz.func90, Tryz.ntmps90
  go_wp2_with (go_at_call 89; refine (H.out _).mono ?_; rintro e w' ⟨rfl,rfl⟩)
  go_ret
  rw [HE.out]
  exact ⟨rfl,Below.refl _ _⟩
 ·subst hz
  rw [show (0:Int).sign=0 from rfl] at h
  have H:=Lib.hid h
  clear h
  go_enter Tryz.func90, Tryz.ntmps90
  go_wp2_with (go_at_call 89; refine (H.out _).mono ?_; rintro e w' ⟨rfl,rfl⟩)
  go_ret
  exact ⟨rfl,Below.refl _ _⟩
 ·rw [Int.sign_eq_one_of_pos hz] at h
  have H:=Lib.hid h
  have HE:Hid (canon (-z)=(⟨#[45]⟩:ByteArray) ++ canon z):=by
   rw [canon_neg_eq (-z) (by omega),minus_app]
   show (⟨(45 :: mdig (-z)).toArray⟩:ByteArray)=_
   rw [canon_nn_eq z (by omega)]
   unfold mdig mag mdig
   rw [Int.natAbs_neg]
  clear h hz
  go_enter Tryz.func90, Tryz.ntmps90
  go_wp2_with (go_at_call 89; refine (H.out _).mono ?_; rintro e w' ⟨rfl,rfl⟩)
  go_ret
  rw [HE.out]
  exact ⟨rfl,Below.refl _ _⟩

theorem canon_neg_size (z:Int) (n:Nat) (h:(canon z).size≤n):(canon (-z)).size≤n + 1:=by
 have h1:=mag_le z n h
 have h2:(mag (-z)).size=(mag z).size:=by
  show (mdig (-z)).length=(mdig z).length
  unfold mdig
  rw [Int.natAbs_neg]
 show (Lib.itoa (-z)).length≤n + 1
 have h3:(mdig (-z)).length≤n:=by
  have:(mag (-z)).size=(mdig (-z)).length:=rfl
  omega
 rcases itoa_cases (-z) with ⟨_,e⟩ | ⟨_,e⟩
 ·rw [e]; omega
 ·rw [e,List.length_cons]; omega

end Go.Proofs.YthhkmihjnnfpgaaGreatDoor

/- The walk of integer.Compare. -/
namespace Go.Proofs.YthhkmihjnnfpgaaGreatDoor
open Go.RowKit

def cmpD (a b:Int):Int:=if (mdig a).length < (mdig b).length then -1 else if (mdig b).length < (mdig a).length then 1 else Lib.compareBytes (mdig a) (mdig b)

theorem cmpD_abs (a b:Int):cmpD a b=if a.natAbs < b.natAbs then -1 else if b.natAbs < a.natAbs then 1 else 0:=by
 have key:∀ x y:Nat,(Lib.decDigits x).length < (Lib.decDigits y).length→x < y:=fun x y h=>by
  rcases Nat.lt_or_ge x y with h1 | h1
  ·exact h1
  ·have:=decDigits_len_mono h1; omega
 unfold cmpD
 by_cases h1:(mdig a).length < (mdig b).length
 ·rw [if_pos h1,if_pos (key _ _ h1)]
 ·rw [if_neg h1]
  by_cases h2:(mdig b).length < (mdig a).length
  ·have h3:=key _ _ h2
   rw [if_pos h2,if_neg (by omega),if_pos h3]
  ·rw [if_neg h2,compare_digits _ _ (by omega) (mdig_all a) (mdig_all b),mdig_val,mdig_val]

theorem cmp_same (a b s:Int) (ha:a.sign=s) (hb:b.sign=s):(a - b).sign=s * cmpD a b:=by
 rw [cmpD_abs]
 rcases Int.lt_trichotomy a 0 with h | h | h
 ·have h1:=Int.sign_eq_neg_one_of_neg h
  have h2:b < 0:=Int.neg_of_sign_eq_neg_one (by omega)
  have e:s = -1:=by omega
  subst e
  by_cases h3:a.natAbs < b.natAbs
  ·rw [if_pos h3,Int.sign_eq_one_of_pos (by omega)]; rfl
  ·rw [if_neg h3]
   by_cases h4:b.natAbs < a.natAbs
   ·rw [if_pos h4,Int.sign_eq_neg_one_of_neg (by omega)]; rfl
   ·rw [if_neg h4,show a - b=0 by omega]; rfl
 ·subst h
  have e:s=0:=by rw [← ha]; rfl
  subst e
  have h2:b=0:=Int.eq_zero_of_sign_eq_zero hb
  subst h2
  simp
 ·have h1:=Int.sign_eq_one_of_pos h
  have h2:0 < b:=Int.pos_of_sign_eq_one (by omega)
  have e:s=1:=by omega
  subst e
  by_cases h3:a.natAbs < b.natAbs
  ·rw [if_pos h3,Int.sign_eq_neg_one_of_neg (by omega)]; rfl
  ·rw [if_neg h3]
   by_cases h4:b.natAbs < a.natAbs
   ·rw [if_pos h4,Int.sign_eq_one_of_pos (by omega)]; rfl
   ·rw [if_neg h4,show a - b=0 by omega]; rfl

theorem cmp_lt (a b:Int) (h:a.sign < b.sign):(a - b).sign = -1:=by
 have key:a < b:=by
  rcases Int.lt_trichotomy a 0 with h1 | h1 | h1 <;> rcases Int.lt_trichotomy b 0 with h2 | h2 | h2
  ·rw [Int.sign_eq_neg_one_of_neg h1,Int.sign_eq_neg_one_of_neg h2] at h; omega
  ·omega
  ·omega
  ·rw [h1,Int.sign_eq_neg_one_of_neg h2] at h; simp at h
  ·rw [h1,h2] at h; omega
  ·omega
  ·rw [Int.sign_eq_one_of_pos h1,Int.sign_eq_neg_one_of_neg h2] at h; omega
  ·rw [Int.sign_eq_one_of_pos h1,h2] at h; simp at h
  ·rw [Int.sign_eq_one_of_pos h1,Int.sign_eq_one_of_pos h2] at h; omega
 exact Int.sign_eq_neg_one_of_neg (by omega)

theorem cmp_gt (a b:Int) (h:b.sign < a.sign):(a - b).sign=1:=by
 have h1:=cmp_lt b a h
 have h2:a - b = -(b - a):=by omega
 rw [h2,Int.sign_neg,h1]; rfl

theorem sign_range (z:Int):z.sign = -1 ∨ z.sign=0 ∨ z.sign=1:=by
 rcases Int.lt_trichotomy z 0 with h | h | h
 ·exact .inl (Int.sign_eq_neg_one_of_neg h)
 ·exact .inr (.inl (by rw [h]; rfl))
 ·exact .inr (.inr (Int.sign_eq_one_of_pos h))

theorem cmpD_range (a b:Int):cmpD a b = -1 ∨ cmpD a b=0 ∨ cmpD a b=1:=by
 rw [cmpD_abs]
 split
 ·exact .inl rfl
 ·split
  ·exact .inr (.inr rfl)
  ·exact .inr (.inl rfl)

set_option maxHeartbeats 2000000 in
theorem compare_any (a b:Int) (w:World) :
  Calls Tryz.prog 60 #[.string (canon a),.string (canon b)] w fun e w'=>e=.returned (.int .i64 (a - b).sign)∧w=w':=by
 have h1:=fun W=>sign_any a W
 have h2:=fun W=>sign_any b W
 have h3:=fun W=>trimMinus a W
 have h4:=fun W=>trimMinus b W
 obtain ⟨s,hs⟩:∃ s,a.sign=s:=⟨_,rfl⟩
 obtain ⟨t,ht⟩:∃ t,b.sign=t:=⟨_,rfl⟩
 obtain ⟨r,hr⟩:∃ r,(a - b).sign=r:=⟨_,rfl⟩
 have rs:s = -1 ∨ s=0 ∨ s=1:=hs ▸ sign_range a
 have rt:t = -1 ∨ t=0 ∨ t=1:=ht ▸ sign_range b
 rw [hs] at h1
 rw [ht] at h2
 rw [hr]
 have H1:=Lib.hid h1
 have H2:=Lib.hid h2
 have H3:=Lib.hid h3
 have H4:=Lib.hid h4
 clear h1 h2 h3 h4
 by_cases he:s=t
 ·subst he
  have hc:=cmp_same a b s hs ht
  rw [hr] at hc
  have rd:=cmpD_range a b
  have hl:∀ W,Calls Tryz.prog 96 #[.string (mag a),.string (mag b)] W fun e w'=>e=.returned (.int .i64 (Lib.compareBytes (mdig a) (mdig b)))∧W=w':=fun W=>(Tryz.strings_Compare (mag a) (mag b) W).mono fun e w' h=>⟨h.1,h.2.symm⟩
  by_cases l1:(mdig a).length < (mdig b).length
  ·have e1:cmpD a b = -1:=by unfold cmpD; rw [if_pos l1]
   have n1:(mag a).size < (mag b).size:=l1
   rw [e1] at hc
   have e2:r = -s:=by omega
   subst e2
   clear hc hl rd e1 l1 hs ht hr rt
   go_enter Tryz.func60, Tryz.ntmps60
   go_wp2_with (first
    | (go_at_call_of 89 (Value.string (canon a)); refine (H1.out _).mono ?_; rintro e w' ⟨rfl,rfl⟩)
    | (go_at_call_of 89 (Value.string (canon b)); refine (H2.out _).mono ?_; rintro e w' ⟨rfl,rfl⟩)
    | (go_at_call_of 95 (Value.string (canon a)); refine (H3.out _).mono ?_; rintro e w' ⟨rfl,rfl⟩)
    | (go_at_call_of 95 (Value.string (canon b)); refine (H4.out _).mono ?_; rintro e w' ⟨rfl,rfl⟩))
   go_ret
   exact ⟨rfl,rfl⟩
  ·by_cases l2:(mdig b).length < (mdig a).length
   ·have e1:cmpD a b=1:=by unfold cmpD; rw [if_neg l1,if_pos l2]
    have n1:decide (((mag a).size:Int) < ((mag b).size:Int))=false:=decide_eq_false (by
     have:(mag a).size=(mdig a).length:=rfl
     have:(mag b).size=(mdig b).length:=rfl
     omega)
    have n3:decide ((mag a).size < (mag b).size)=false:=decide_eq_false l1
    have n2:(mag a).size ≠ (mag b).size:=fun h=>by
     have:(mag a).size=(mdig a).length:=rfl
     have:(mag b).size=(mdig b).length:=rfl
     omega
    rw [e1] at hc
    have e2:r=s:=by omega
    subst e2
    clear hc hl rd e1 l1 l2 hs ht hr rt
    go_enter Tryz.func60, Tryz.ntmps60
    go_wp2_with (first
     | (go_at_call_of 89 (Value.string (canon a)); refine (H1.out _).mono ?_; rintro e w' ⟨rfl,rfl⟩)
     | (go_at_call_of 89 (Value.string (canon b)); refine (H2.out _).mono ?_; rintro e w' ⟨rfl,rfl⟩)
     | (go_at_call_of 95 (Value.string (canon a)); refine (H3.out _).mono ?_; rintro e w' ⟨rfl,rfl⟩)
     | (go_at_call_of 95 (Value.string (canon b)); refine (H4.out _).mono ?_; rintro e w' ⟨rfl,rfl⟩))
    go_ret
    exact ⟨rfl,rfl⟩
   ·have e1:cmpD a b=Lib.compareBytes (mdig a) (mdig b):=by unfold cmpD; rw [if_neg l1,if_neg l2]
    have n1:(mag a).size=(mag b).size:=by
     have:(mag a).size=(mdig a).length:=rfl
     have:(mag b).size=(mdig b).length:=rfl
     omega
    rw [← e1] at hl
    generalize cmpD a b=d at hl hc rd
    have HL:=Lib.hid hl
    have HE:=Lib.hid hc
    clear hl hc e1 l1 l2 hs ht hr rt
    go_enter Tryz.func60, Tryz.ntmps60
    go_wp2_with (first
     | (go_at_call_of 89 (Value.string (canon a)); refine (H1.out _).mono ?_; rintro e w' ⟨rfl,rfl⟩)
     | (go_at_call_of 89 (Value.string (canon b)); refine (H2.out _).mono ?_; rintro e w' ⟨rfl,rfl⟩)
     | (go_at_call_of 95 (Value.string (canon a)); refine (H3.out _).mono ?_; rintro e w' ⟨rfl,rfl⟩)
     | (go_at_call_of 95 (Value.string (canon b)); refine (H4.out _).mono ?_; rintro e w' ⟨rfl,rfl⟩)
     | (go_at_call 96; refine (HL.out _).mono ?_; rintro e w' ⟨rfl,rfl⟩))
    go_ret
    refine ⟨?_,rfl⟩
    show Ending.returned (.int .i64 (wrap64 (s * d)))=_
    rw [HE.out]
    rcases rs with rfl | rfl | rfl <;> rcases rd with rfl | rfl | rfl <;> kernel_rfl
 ·have hne:s ≠ t:=he
  by_cases hlt:s < t
  ·have e2:r = -1:=by rw [← hr]; exact cmp_lt a b (by rw [hs,ht]; exact hlt)
   subst e2
   clear hs ht hr he
   go_enter Tryz.func60, Tryz.ntmps60
   go_wp2_with (first
    | (go_at_call_of 89 (Value.string (canon a)); refine (H1.out _).mono ?_; rintro e w' ⟨rfl,rfl⟩)
    | (go_at_call_of 89 (Value.string (canon b)); refine (H2.out _).mono ?_; rintro e w' ⟨rfl,rfl⟩))
   go_ret
   exact ⟨rfl,rfl⟩
  ·have e2:r=1:=by rw [← hr]; exact cmp_gt a b (by rw [hs,ht]; omega)
   subst e2
   clear hs ht hr he
   go_enter Tryz.func60, Tryz.ntmps60
   go_wp2_with (first
    | (go_at_call_of 89 (Value.string (canon a)); refine (H1.out _).mono ?_; rintro e w' ⟨rfl,rfl⟩)
    | (go_at_call_of 89 (Value.string (canon b)); refine (H2.out _).mono ?_; rintro e w' ⟨rfl,rfl⟩))
   go_ret
   exact ⟨rfl,rfl⟩

end Go.Proofs.YthhkmihjnnfpgaaGreatDoor

/- The walk of integer.Check: the right texts of an integer. -/
namespace Go.Proofs.YthhkmihjnnfpgaaGreatDoor
open Go.RowKit

def headB (neg:Bool) (t:List UInt8):Bool:=!t.isEmpty && decide (t.length≤200) && !(t.head? == some 48 && (neg || decide (1 < t.length)))
def rightL (neg:Bool) (t:List UInt8):Bool:=headB neg t && allDigB t

theorem allDig_succ (T:ByteArray) (k:Nat) (h:k < T.size) (ha:AllDig (T.data.toList.take k)) (hd:48≤T[k].toNat∧T[k].toNat≤57):AllDig (T.data.toList.take (k + 1)):=by
 have hl:k < T.data.toList.length:=by rw [← Lib.size_eq]; exact h
 rw [List.take_succ_eq_append_getElem hl]
 intro c hc
 rcases List.mem_append.1 hc with h1 | h1
 ·exact ha c h1
 ·have e:c=T[k]:=by
   have h2:c=T.data.toList[k]:=by simpa using h1
   exact h2
  rw [e]
  exact hd

theorem allDig_whole (T:ByteArray) (ha:AllDig (T.data.toList.take T.size)):allDigB T.data.toList=true:=by
 rw [Lib.size_eq,List.take_length] at ha
 exact (allDigB_iff _).2 ha

theorem ret_int {a b:Int} (h:a=b):Ending.returned (.int .i64 a)=.returned (.int .i64 b):=by rw [h]

theorem head_of (T:ByteArray) (h:0 < T.size):T.data.toList.head?=some T[0]:=by rw [head_get T h]; rfl

set_option maxHeartbeats 2000000 in
theorem check_of (s T:ByteArray) (neg:Bool) (w:World) (hT:T.size≤1000000)
  (hcut:∀ W,Calls Tryz.prog 86 #[.string s,.string ⟨#[45]⟩] W fun e w'=>e=.returned (.tuple #[.string T,.bool neg])∧W=w') :
  Calls Tryz.prog 53 #[.string s] w fun e w'=>e=.returned (.int .i64 (if rightL neg T.data.toList=true then 0 else 2))∧w=w':=by
 have HC:=Lib.hid hcut
 clear hcut
 have hl:T.data.toList.length=T.size:=(Lib.size_eq T).symm
 have hbad:headB neg T.data.toList=false→(if rightL neg T.data.toList=true then (0:Int) else 2)=2:=fun h=>by rw [if_neg]; unfold rightL; rw [h]; simp
 have hgood:headB neg T.data.toList=true→allDigB T.data.toList=true→(if rightL neg T.data.toList=true then (0:Int) else 2)=0:=fun h k=>by rw [if_pos]; unfold rightL; rw [h,k]; rfl
 have hdig:allDigB T.data.toList=false→(if rightL neg T.data.toList=true then (0:Int) else 2)=2:=fun h=>by rw [if_neg]; unfold rightL; rw [h]; simp
 obtain ⟨Z,hZ⟩:∃ Z,(if rightL neg T.data.toList=true then (0:Int) else 2)=Z:=⟨_,rfl⟩
 rw [hZ] at hbad hgood hdig ⊢
 have HB:=Lib.hid hdig
 clear hdig hZ
 by_cases hne:T.size=0
 ·have hn:T.data.toList=[]:=List.length_eq_zero_iff.1 (by omega)
  have HV:=Lib.hid (hbad (by rw [hn]; rfl))
  have hTn:T.toList=[]:=by rw [ByteArray.toList_eq,hn]
  have hTe:T.toList.isEmpty=true:=by rw [hTn]; rfl
  clear hbad hgood HB hn hl hne
  go_enter Tryz.func53, Tryz.ntmps53
  go_wp2_with (go_at_call 86; refine (HC.out _).mono ?_; rintro e w' ⟨rfl,rfl⟩)
  go_ret
  exact ⟨ret_int HV.out.symm,rfl⟩
 have hTe:T.toList.isEmpty=false:=by
  rw [ByteArray.toList_eq]
  cases h:T.data.toList with
  | nil=>rw [h] at hl; exact absurd hl.symm hne
  | cons c l=>rfl
 have hTb:(T.toList == [])=false:=by rw [List.isEmpty_eq_false_iff] at hTe; exact beq_eq_false_iff_ne.2 hTe
 have hne1:T.data.toList.isEmpty=false:=by rw [← ByteArray.toList_eq]; exact hTe
 have h0:0 < T.size:=by omega
 by_cases hlong:200 < T.size
 ·have HV:=Lib.hid (hbad (by unfold headB; rw [hl,decide_eq_false (by omega)]; simp))
  have hli:(200:Int) < (T.size:Int):=by omega
  clear hbad hgood HB hne1
  go_enter Tryz.func53, Tryz.ntmps53
  go_wp2_with (go_at_call 86; refine (HC.out _).mono ?_; rintro e w' ⟨rfl,rfl⟩)
  go_ret
  exact ⟨ret_int HV.out.symm,rfl⟩
 have hl1:decide ((200:Int) < (T.size:Int))=false:=decide_eq_false (by omega)
 have hl2:decide (200 < T.size)=false:=decide_eq_false hlong
 have hh:=head_of T h0
 have hle:decide (T.data.toList.length≤200)=true:=decide_eq_true (by omega)
 by_cases h48:T[0].toNat=48
 ·have hc : ((T[0].toNat : Int) == 48) = true := by rw [h48]; rfl
  have h8:T[0]=48:=UInt8.toNat_inj.1 h48
  by_cases hone:1 < T.size
  ·have HV:=Lib.hid (hbad (by unfold headB; rw [hh,h8,hl,decide_eq_true hone]; simp))
   have hoi:(1:Int) < (T.size:Int):=by omega
   clear hbad hgood HB hne1 hh hle hlong hne h8
   go_enter Tryz.func53, Tryz.ntmps53
   go_wp2_with (go_at_call 86; refine (HC.out _).mono ?_; rintro e w' ⟨rfl,rfl⟩)
   go_ret
   exact ⟨ret_int HV.out.symm,rfl⟩
  have ho1:decide ((1:Int) < (T.size:Int))=false:=decide_eq_false (by omega)
  have ho2:decide (1 < T.size)=false:=decide_eq_false hone
  cases neg with
  | true =>
   have HV:=Lib.hid (hbad (by unfold headB; rw [hh,h8]; simp))
   clear hbad hgood HB hne1 hh hle hlong hne h8
   go_enter Tryz.func53, Tryz.ntmps53
   go_wp2_with (go_at_call 86; refine (HC.out _).mono ?_; rintro e w' ⟨rfl,rfl⟩)
   go_ret
   exact ⟨ret_int HV.out.symm,rfl⟩
  | false =>
   have HG:=Lib.hid (hgood (by unfold headB; rw [hh,h8,hle,hne1,hl,ho2]; simp))
   clear hbad hgood hne1 hh hle hlong hne h8
   go_enter Tryz.func53, Tryz.ntmps53
   go_wp2_with (go_at_call 86; refine (HC.out _).mono ?_; rintro e w' ⟨rfl,rfl⟩)
   go_loop [5,33] (fun _ iv=>∃ k:Nat,k≤T.size∧iv=.int .i64 k∧Hid (AllDig (T.data.toList.take k))) (fun _ iv=>T.size - (intOf iv).toNat)
   case atStart=>exact ⟨0,Nat.zero_le _,rfl,Lib.hid (by intro c hc; simp at hc)⟩
   case round =>
    obtain ⟨k,hk,rfl,HK⟩:=hrel
    by_cases hlt:k < T.size
    ·by_cases hlo:T[k].toNat < 48
     ·have HV:=Lib.hid (HB.out (notDig_of_get T k hlt (by omega)))
      go_wp2
      go_ret
      exact ⟨ret_int HV.out.symm,rfl⟩
     ·have hlo':decide ((T[k].toNat:Int) < 48)=false:=decide_eq_false (by omega)
      by_cases hhi:57 < T[k].toNat
      ·have HV:=Lib.hid (HB.out (notDig_of_get T k hlt (by omega)))
       go_wp2
       go_ret
       exact ⟨ret_int HV.out.symm,rfl⟩
      ·have hhi':decide ((57:Int) < (T[k].toNat:Int))=false:=decide_eq_false (by omega)
       have HN:Hid (AllDig (T.data.toList.take (k + 1))):=Lib.hid (allDig_succ T k hlt HK.out ⟨by omega,by omega⟩)
       clear hlo hhi
       go_wp2
       go_round
       case rel=>exact ⟨k + 1,by omega,by go_num,HN⟩
       case measure=>simp [intOf]; omega
    ·obtain rfl:k=T.size:=by omega
     have HV:=Lib.hid (HG.out (allDig_whole T HK.out))
     go_wp2
     go_ret
     exact ⟨ret_int HV.out.symm,rfl⟩
 ·have hc:((T[0].toNat:Int) == 48)=false:=beq_eq_false_iff_ne.2 (by omega)
  have hc2:(T[0] == 48)=false:=beq_eq_false_iff_ne.2 (fun e=>h48 (by rw [e]; rfl))
  have HG:=Lib.hid (hgood (by
   unfold headB
   rw [hh,hle,hne1]
   have:(some T[0] == some (48:UInt8))=false:=by simpa using hc2
   rw [this]; rfl))
  clear hbad hgood hne1 hh hle hlong hne hc2
  go_enter Tryz.func53, Tryz.ntmps53
  go_wp2_with (go_at_call 86; refine (HC.out _).mono ?_; rintro e w' ⟨rfl,rfl⟩)
  go_loop [5,33] (fun _ iv=>∃ k:Nat,k≤T.size∧iv=.int .i64 k∧Hid (AllDig (T.data.toList.take k))) (fun _ iv=>T.size - (intOf iv).toNat)
  case atStart=>exact ⟨0,Nat.zero_le _,rfl,Lib.hid (by intro c hc; simp at hc)⟩
  case round =>
   obtain ⟨k,hk,rfl,HK⟩:=hrel
   by_cases hlt:k < T.size
   ·by_cases hlo:T[k].toNat < 48
    ·have HV:=Lib.hid (HB.out (notDig_of_get T k hlt (by omega)))
     go_wp2
     go_ret
     exact ⟨ret_int HV.out.symm,rfl⟩
    ·have hlo':decide ((T[k].toNat:Int) < 48)=false:=decide_eq_false (by omega)
     by_cases hhi:57 < T[k].toNat
     ·have HV:=Lib.hid (HB.out (notDig_of_get T k hlt (by omega)))
      go_wp2
      go_ret
      exact ⟨ret_int HV.out.symm,rfl⟩
     ·have hhi':decide ((57:Int) < (T[k].toNat:Int))=false:=decide_eq_false (by omega)
      have HN:Hid (AllDig (T.data.toList.take (k + 1))):=Lib.hid (allDig_succ T k hlt HK.out ⟨by omega,by omega⟩)
      clear hlo hhi
      go_wp2
      go_round
      case rel=>exact ⟨k + 1,by omega,by go_num,HN⟩
      case measure=>simp [intOf]; omega
   ·obtain rfl:k=T.size:=by omega
    have HV:=Lib.hid (HG.out (allDig_whole T HK.out))
    go_wp2
    go_ret
    exact ⟨ret_int HV.out.symm,rfl⟩

def rightS:List UInt8→Bool
 | []=>false
 | c :: m=>if c=45 then rightL true m else rightL false (c :: m)

theorem check_any (s:ByteArray) (w:World) (hs:s.size≤1000000) :
  Calls Tryz.prog 53 #[.string s] w fun e w'=>e=.returned (.int .i64 (if rightS s.data.toList=true then 0 else 2))∧w=w':=by
 have hl:s.data.toList.length=s.size:=(Lib.size_eq s).symm
 have e45:(⟨#[45]⟩:ByteArray).data.toList=[45]:=rfl
 cases hsl:s.data.toList with
 | nil =>
  have hcut:∀ W,Calls Tryz.prog 86 #[.string s,.string ⟨#[45]⟩] W fun e w'=>e=.returned (.tuple #[.string s,.bool false])∧W=w':=fun W=>by
   refine (Tryz.strings_CutPrefix s ⟨#[45]⟩ W).mono ?_
   rintro e w' ⟨rfl,rfl⟩
   have es:(⟨([]:List UInt8).toArray⟩:ByteArray)=s:=by rw [← hsl]
   rw [hsl,e45,show Lib.trimPrefix ([]:List UInt8) [45]=[] from rfl,show Lib.hasPrefix ([]:List UInt8) [45]=false from rfl,es]
   exact ⟨rfl,rfl⟩
  have h:=check_of s s false w hs hcut
  rw [hsl] at h
  exact h
 | cons c m =>
  have hm:m.length≤1000000:=by rw [hsl] at hl; simp at hl; omega
  have es:(⟨(c :: m).toArray⟩:ByteArray)=s:=by rw [← hsl]
  by_cases h45:c=45
  ·subst h45
   have h:=check_of s ⟨m.toArray⟩ true w hm (fun W=>by
    refine (Tryz.strings_CutPrefix s ⟨#[45]⟩ W).mono ?_
    rintro e w' ⟨rfl,rfl⟩
    rw [hsl,e45,(pre_cons 45 45 m).1,(pre_cons 45 45 m).2,if_pos rfl]
    exact ⟨rfl,rfl⟩)
   exact h
  ·have h:=check_of s s false w hs (fun W=>by
    refine (Tryz.strings_CutPrefix s ⟨#[45]⟩ W).mono ?_
    rintro e w' ⟨rfl,rfl⟩
    have hb:((45:UInt8) == c)=false:=beq_eq_false_iff_ne.2 (fun e=>h45 e.symm)
    rw [hsl,e45,(pre_cons c 45 m).1,(pre_cons c 45 m).2,if_neg (fun e=>h45 e.symm),es,hb]
    exact ⟨rfl,rfl⟩)
   rw [hsl] at h
   have e:rightS (c :: m)=rightL false (c :: m):=by simp only [rightS,if_neg h45]
   rw [e]
   exact h

end Go.Proofs.YthhkmihjnnfpgaaGreatDoor
