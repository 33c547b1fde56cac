/- Correlate: names, Log and Check of whatever short texts; the queries that Check refuses. -/
import Derived.Test.YthhkmihjnnfpgaaGreatDoorGCorA
import Derived.Test.YthhkmihjnnfpgaaGreatDoorGCorV
/- relation.IsName at any text. -/
namespace Go.Proofs.YthhkmihjnnfpgaaGreatDoor
set_option linter.all false
open Go.RowKit

def ltrB (b:UInt8):Bool:=decide (97≤b.toNat∧b.toNat≤122) || decide (65≤b.toNat∧b.toNat≤90)
def tailB (b:UInt8):Bool:=decide (48≤b.toNat∧b.toNat≤57) || decide (b.toNat=95)
def nameL:Nat→List UInt8→Bool
 | _,[]=>true
 | k,b :: l=>(ltrB b || (decide (0 < k) && tailB b)) && nameL (k + 1) l
def nameB (s:ByteArray):Bool:=decide (0 < s.size∧s.size≤32) && nameL 0 s.data.toList
theorem nameL_cons (k:Nat) (b:UInt8) (l:List UInt8):nameL k (b :: l)=((ltrB b || (decide (0 < k) && tailB b)) && nameL (k + 1) l):=rfl
theorem ba_emp {s:ByteArray} (h:s.size=0):s=⟨#[]⟩:=by
 cases s with
 | mk d =>
  congr 1
  exact Array.eq_empty_of_size_eq_zero h

set_option maxRecDepth 100000 in
set_option maxHeartbeats 8000000 in
theorem isname_any (s:ByteArray) (w:World) :
  Calls Tryz.prog 75 #[.string s] w fun e w'=>e=.returned (.bool (nameB s))∧Below w.heap.size w w':=by
 by_cases h0:s.size=0
 ·have e:=ba_emp h0
  subst e
  have hn:nameB ⟨#[]⟩=false:=rfl
  rw [hn]
  clear h0 hn
  go_enter Tryz.func75,Tryz.ntmps75
  go_wp2
  go_ret
  exact ⟨rfl,Below.refl _ _⟩
 have h0:0 < s.size:=Nat.pos_of_ne_zero h0
 have hne2:(s.toList == ([]:List UInt8))=false:=by
  rw [beq_eq_false_iff_ne]
  intro e
  rw [ByteArray.toList_eq] at e
  have:s.data.toList.length=0:=by rw [e]; rfl
  have h3:s.size=s.data.toList.length:=rfl
  omega
 by_cases h1:s.size≤32
 case neg =>
  have hn:nameB s=false:=by
   unfold nameB
   rw [decide_eq_false (by omega)]; rfl
  rw [hn]
  have hgt:decide ((s.size:Int) > 32)=true:=decide_eq_true (by omega)
  clear hn h0 h1
  go_enter Tryz.func75,Tryz.ntmps75
  go_wp2
  go_ret
  exact ⟨rfl,Below.refl _ _⟩
 have hgt:decide ((s.size:Int) > 32)=false:=decide_eq_false (by omega)
 have HN:Hid (nameB s=nameL 0 s.data.toList):=Lib.hid (by
  unfold nameB
  rw [decide_eq_true (show 0 < s.size∧s.size≤32 from ⟨h0,h1⟩)]; rfl)
 obtain ⟨NB,hNB⟩:∃ z,nameB s=z:=⟨_,rfl⟩
 rw [hNB] at HN ⊢
 clear hNB
 have hcv:=Lib.run_convert_string_bytes (P:=Tryz.prog) w 9 160 5 s Tryz.underlying9 Tryz.underlying160 Tryz.underlying5
 have HC:=Lib.hid (Lib.bytesWorld_cell w 5 s)
 have HB:=Lib.hid (below_bytes w 5 s)
 have hsz:=Lib.bytesWorld_size w 5 s
 generalize grownCap w s.size 0 5=cap at *
 generalize Lib.bytesWorld w 5 s=W1 at *
 go_enter Tryz.func75,Tryz.ntmps75
 go_wp2
 go_loopw [17] (fun iv wr=>∃ k:Nat,k≤s.size∧iv=.int .i64 k∧wr=W1∧NB=nameL k (s.data.toList.drop k)) (fun iv _=>s.size - (intOf iv).toNat)
 case atStart=>exact ⟨0,Nat.zero_le _,rfl,rfl,HN.out⟩
 case round =>
  obtain ⟨k,hk,rfl,rfl,hN⟩:=hrel
  clear HN
  by_cases hlt:k < s.size
  ·have hi:(k:Int) < (s.size:Int):=by omega
   have hl:k < s.data.toList.length:=hlt
   have hc:=HC.out k hlt
   rw [List.getD_eq_getElem?_getD,List.getElem?_eq_getElem hl] at hc
   simp only [Option.getD_some] at hc
   rw [List.drop_eq_getElem_cons hl,nameL_cons] at hN
   have HN:=Lib.hid hN
   clear hN
   generalize s.data.toList[k]=b at *
   rcases (show (b.toNat < 48) ∨ (48≤b.toNat∧b.toNat≤57) ∨ (58≤b.toNat∧b.toNat≤64) ∨ (65≤b.toNat∧b.toNat≤90) ∨ (91≤b.toNat∧b.toNat≤94) ∨ (b.toNat=95) ∨ (b.toNat=96) ∨ (97≤b.toNat∧b.toNat≤122) ∨ (122 < b.toNat) by omega) with hb | hb | hb | hb | hb | hb | hb | hb | hb
   ·have g1:decide ((97:Int)≤(b.toNat:Int))=false:=decide_eq_false (by omega)
    have g2:decide ((b.toNat:Int)≤122)=true:=decide_eq_true (by omega)
    have g3:decide ((65:Int)≤(b.toNat:Int))=false:=decide_eq_false (by omega)
    have g4:decide ((b.toNat:Int)≤90)=true:=decide_eq_true (by omega)
    have g5:decide ((48:Int)≤(b.toNat:Int))=false:=decide_eq_false (by omega)
    have g6:decide ((b.toNat:Int)≤57)=true:=decide_eq_true (by omega)
    have g7:(b.toNat == 95)=false:=by rw [beq_eq_false_iff_ne]; omega
    have g8:((b.toNat:Int) == 95)=false:=by rw [beq_eq_false_iff_ne]; omega
    have hL:ltrB b=false:=by unfold ltrB; rw [decide_eq_false (p:=97≤b.toNat∧b.toNat≤122) (by omega),decide_eq_false (p:=65≤b.toNat∧b.toNat≤90) (by omega)]; rfl
    have hT:tailB b=false:=by unfold tailB; rw [decide_eq_false (p:=48≤b.toNat∧b.toNat≤57) (by omega),decide_eq_false (p:=b.toNat=95) (by omega)]; rfl
    by_cases hk0:k=0
    ·subst hk0
     have HN:Hid (NB=false):=Lib.hid (by have:=HN.out; rw [hL,show decide (0 < 0)=false from rfl,Bool.false_and,Bool.false_or,Bool.false_and] at this; exact this)
     have e:=HN.out
     subst e
     clear hL hT hb HN
     go_wp2
     go_ret
     exact ⟨rfl,HB.out⟩
    ·have HN:Hid (NB=false):=Lib.hid (by have:=HN.out; rw [hL,hT,Bool.and_false,Bool.false_or,Bool.false_and] at this; exact this)
     have gk:((k:Int) == 0)=false:=by rw [beq_eq_false_iff_ne]; omega
     have e:=HN.out
     subst e
     clear hL hT hb HN
     go_wp2
     go_ret
     exact ⟨rfl,HB.out⟩
   ·have g1:decide ((97:Int)≤(b.toNat:Int))=false:=decide_eq_false (by omega)
    have g2:decide ((b.toNat:Int)≤122)=true:=decide_eq_true (by omega)
    have g3:decide ((65:Int)≤(b.toNat:Int))=false:=decide_eq_false (by omega)
    have g4:decide ((b.toNat:Int)≤90)=true:=decide_eq_true (by omega)
    have g5:decide ((48:Int)≤(b.toNat:Int))=true:=decide_eq_true (by omega)
    have g6:decide ((b.toNat:Int)≤57)=true:=decide_eq_true (by omega)
    have g7:(b.toNat == 95)=false:=by rw [beq_eq_false_iff_ne]; omega
    have g8:((b.toNat:Int) == 95)=false:=by rw [beq_eq_false_iff_ne]; omega
    have hL:ltrB b=false:=by unfold ltrB; rw [decide_eq_false (p:=97≤b.toNat∧b.toNat≤122) (by omega),decide_eq_false (p:=65≤b.toNat∧b.toNat≤90) (by omega)]; rfl
    have hT:tailB b=true:=by unfold tailB; rw [decide_eq_true (p:=48≤b.toNat∧b.toNat≤57) (by omega)]; rfl
    by_cases hk0:k=0
    ·subst hk0
     have HN:Hid (NB=false):=Lib.hid (by have:=HN.out; rw [hL,show decide (0 < 0)=false from rfl,Bool.false_and,Bool.false_or,Bool.false_and] at this; exact this)
     have e:=HN.out
     subst e
     clear hL hT hb HN
     go_wp2
     go_ret
     exact ⟨rfl,HB.out⟩
    ·have hkp:0 < k:=by omega
     have HN:Hid (NB=nameL (k + 1) (s.data.toList.drop (k + 1))):=Lib.hid (by have:=HN.out; rw [hL,hT,decide_eq_true hkp,Bool.true_and,Bool.false_or,Bool.true_and] at this; exact this)
     have gk:((k:Int) == 0)=false:=by rw [beq_eq_false_iff_ne]; omega
     clear hL hT hb
     go_wp2
     exact ⟨⟨k + 1,by omega,by go_num,trivial,HN.out⟩,by simp [intOf]; omega⟩
   ·have g1:decide ((97:Int)≤(b.toNat:Int))=false:=decide_eq_false (by omega)
    have g2:decide ((b.toNat:Int)≤122)=true:=decide_eq_true (by omega)
    have g3:decide ((65:Int)≤(b.toNat:Int))=false:=decide_eq_false (by omega)
    have g4:decide ((b.toNat:Int)≤90)=true:=decide_eq_true (by omega)
    have g5:decide ((48:Int)≤(b.toNat:Int))=true:=decide_eq_true (by omega)
    have g6:decide ((b.toNat:Int)≤57)=false:=decide_eq_false (by omega)
    have g7:(b.toNat == 95)=false:=by rw [beq_eq_false_iff_ne]; omega
    have g8:((b.toNat:Int) == 95)=false:=by rw [beq_eq_false_iff_ne]; omega
    have hL:ltrB b=false:=by unfold ltrB; rw [decide_eq_false (p:=97≤b.toNat∧b.toNat≤122) (by omega),decide_eq_false (p:=65≤b.toNat∧b.toNat≤90) (by omega)]; rfl
    have hT:tailB b=false:=by unfold tailB; rw [decide_eq_false (p:=48≤b.toNat∧b.toNat≤57) (by omega),decide_eq_false (p:=b.toNat=95) (by omega)]; rfl
    by_cases hk0:k=0
    ·subst hk0
     have HN:Hid (NB=false):=Lib.hid (by have:=HN.out; rw [hL,show decide (0 < 0)=false from rfl,Bool.false_and,Bool.false_or,Bool.false_and] at this; exact this)
     have e:=HN.out
     subst e
     clear hL hT hb HN
     go_wp2
     go_ret
     exact ⟨rfl,HB.out⟩
    ·have HN:Hid (NB=false):=Lib.hid (by have:=HN.out; rw [hL,hT,Bool.and_false,Bool.false_or,Bool.false_and] at this; exact this)
     have gk:((k:Int) == 0)=false:=by rw [beq_eq_false_iff_ne]; omega
     have e:=HN.out
     subst e
     clear hL hT hb HN
     go_wp2
     go_ret
     exact ⟨rfl,HB.out⟩
   ·have g1:decide ((97:Int)≤(b.toNat:Int))=false:=decide_eq_false (by omega)
    have g2:decide ((b.toNat:Int)≤122)=true:=decide_eq_true (by omega)
    have g3:decide ((65:Int)≤(b.toNat:Int))=true:=decide_eq_true (by omega)
    have g4:decide ((b.toNat:Int)≤90)=true:=decide_eq_true (by omega)
    have g5:decide ((48:Int)≤(b.toNat:Int))=true:=decide_eq_true (by omega)
    have g6:decide ((b.toNat:Int)≤57)=false:=decide_eq_false (by omega)
    have g7:(b.toNat == 95)=false:=by rw [beq_eq_false_iff_ne]; omega
    have g8:((b.toNat:Int) == 95)=false:=by rw [beq_eq_false_iff_ne]; omega
    have hL:ltrB b=true:=by unfold ltrB; rw [decide_eq_true (p:=65≤b.toNat∧b.toNat≤90) (by omega),Bool.or_true]
    have HN:Hid (NB=nameL (k + 1) (s.data.toList.drop (k + 1))):=Lib.hid (by have:=HN.out; rw [hL,Bool.true_or,Bool.true_and] at this; exact this)
    clear hL hb
    go_wp2
    exact ⟨⟨k + 1,by omega,by go_num,trivial,HN.out⟩,by simp [intOf]; omega⟩
   ·have g1:decide ((97:Int)≤(b.toNat:Int))=false:=decide_eq_false (by omega)
    have g2:decide ((b.toNat:Int)≤122)=true:=decide_eq_true (by omega)
    have g3:decide ((65:Int)≤(b.toNat:Int))=true:=decide_eq_true (by omega)
    have g4:decide ((b.toNat:Int)≤90)=false:=decide_eq_false (by omega)
    have g5:decide ((48:Int)≤(b.toNat:Int))=true:=decide_eq_true (by omega)
    have g6:decide ((b.toNat:Int)≤57)=false:=decide_eq_false (by omega)
    have g7:(b.toNat == 95)=false:=by rw [beq_eq_false_iff_ne]; omega
    have g8:((b.toNat:Int) == 95)=false:=by rw [beq_eq_false_iff_ne]; omega
    have hL:ltrB b=false:=by unfold ltrB; rw [decide_eq_false (p:=97≤b.toNat∧b.toNat≤122) (by omega),decide_eq_false (p:=65≤b.toNat∧b.toNat≤90) (by omega)]; rfl
    have hT:tailB b=false:=by unfold tailB; rw [decide_eq_false (p:=48≤b.toNat∧b.toNat≤57) (by omega),decide_eq_false (p:=b.toNat=95) (by omega)]; rfl
    by_cases hk0:k=0
    ·subst hk0
     have HN:Hid (NB=false):=Lib.hid (by have:=HN.out; rw [hL,show decide (0 < 0)=false from rfl,Bool.false_and,Bool.false_or,Bool.false_and] at this; exact this)
     have e:=HN.out
     subst e
     clear hL hT hb HN
     go_wp2
     go_ret
     exact ⟨rfl,HB.out⟩
    ·have HN:Hid (NB=false):=Lib.hid (by have:=HN.out; rw [hL,hT,Bool.and_false,Bool.false_or,Bool.false_and] at this; exact this)
     have gk:((k:Int) == 0)=false:=by rw [beq_eq_false_iff_ne]; omega
     have e:=HN.out
     subst e
     clear hL hT hb HN
     go_wp2
     go_ret
     exact ⟨rfl,HB.out⟩
   ·have g1:decide ((97:Int)≤(b.toNat:Int))=false:=decide_eq_false (by omega)
    have g2:decide ((b.toNat:Int)≤122)=true:=decide_eq_true (by omega)
    have g3:decide ((65:Int)≤(b.toNat:Int))=true:=decide_eq_true (by omega)
    have g4:decide ((b.toNat:Int)≤90)=false:=decide_eq_false (by omega)
    have g5:decide ((48:Int)≤(b.toNat:Int))=true:=decide_eq_true (by omega)
    have g6:decide ((b.toNat:Int)≤57)=false:=decide_eq_false (by omega)
    have g7:(b.toNat == 95)=true:=by rw [beq_iff_eq]; omega
    have g8:((b.toNat:Int) == 95)=true:=by rw [beq_iff_eq]; omega
    have hL:ltrB b=false:=by unfold ltrB; rw [decide_eq_false (p:=97≤b.toNat∧b.toNat≤122) (by omega),decide_eq_false (p:=65≤b.toNat∧b.toNat≤90) (by omega)]; rfl
    have hT:tailB b=true:=by unfold tailB; rw [decide_eq_true (p:=b.toNat=95) (by omega),Bool.or_true]
    by_cases hk0:k=0
    ·subst hk0
     have HN:Hid (NB=false):=Lib.hid (by have:=HN.out; rw [hL,show decide (0 < 0)=false from rfl,Bool.false_and,Bool.false_or,Bool.false_and] at this; exact this)
     have e:=HN.out
     subst e
     clear hL hT hb HN
     go_wp2
     go_ret
     exact ⟨rfl,HB.out⟩
    ·have hkp:0 < k:=by omega
     have HN:Hid (NB=nameL (k + 1) (s.data.toList.drop (k + 1))):=Lib.hid (by have:=HN.out; rw [hL,hT,decide_eq_true hkp,Bool.true_and,Bool.false_or,Bool.true_and] at this; exact this)
     have gk:((k:Int) == 0)=false:=by rw [beq_eq_false_iff_ne]; omega
     clear hL hT hb
     go_wp2
     exact ⟨⟨k + 1,by omega,by go_num,trivial,HN.out⟩,by simp [intOf]; omega⟩
   ·have g1:decide ((97:Int)≤(b.toNat:Int))=false:=decide_eq_false (by omega)
    have g2:decide ((b.toNat:Int)≤122)=true:=decide_eq_true (by omega)
    have g3:decide ((65:Int)≤(b.toNat:Int))=true:=decide_eq_true (by omega)
    have g4:decide ((b.toNat:Int)≤90)=false:=decide_eq_false (by omega)
    have g5:decide ((48:Int)≤(b.toNat:Int))=true:=decide_eq_true (by omega)
    have g6:decide ((b.toNat:Int)≤57)=false:=decide_eq_false (by omega)
    have g7:(b.toNat == 95)=false:=by rw [beq_eq_false_iff_ne]; omega
    have g8:((b.toNat:Int) == 95)=false:=by rw [beq_eq_false_iff_ne]; omega
    have hL:ltrB b=false:=by unfold ltrB; rw [decide_eq_false (p:=97≤b.toNat∧b.toNat≤122) (by omega),decide_eq_false (p:=65≤b.toNat∧b.toNat≤90) (by omega)]; rfl
    have hT:tailB b=false:=by unfold tailB; rw [decide_eq_false (p:=48≤b.toNat∧b.toNat≤57) (by omega),decide_eq_false (p:=b.toNat=95) (by omega)]; rfl
    by_cases hk0:k=0
    ·subst hk0
     have HN:Hid (NB=false):=Lib.hid (by have:=HN.out; rw [hL,show decide (0 < 0)=false from rfl,Bool.false_and,Bool.false_or,Bool.false_and] at this; exact this)
     have e:=HN.out
     subst e
     clear hL hT hb HN
     go_wp2
     go_ret
     exact ⟨rfl,HB.out⟩
    ·have HN:Hid (NB=false):=Lib.hid (by have:=HN.out; rw [hL,hT,Bool.and_false,Bool.false_or,Bool.false_and] at this; exact this)
     have gk:((k:Int) == 0)=false:=by rw [beq_eq_false_iff_ne]; omega
     have e:=HN.out
     subst e
     clear hL hT hb HN
     go_wp2
     go_ret
     exact ⟨rfl,HB.out⟩
   ·have g1:decide ((97:Int)≤(b.toNat:Int))=true:=decide_eq_true (by omega)
    have g2:decide ((b.toNat:Int)≤122)=true:=decide_eq_true (by omega)
    have g3:decide ((65:Int)≤(b.toNat:Int))=true:=decide_eq_true (by omega)
    have g4:decide ((b.toNat:Int)≤90)=false:=decide_eq_false (by omega)
    have g5:decide ((48:Int)≤(b.toNat:Int))=true:=decide_eq_true (by omega)
    have g6:decide ((b.toNat:Int)≤57)=false:=decide_eq_false (by omega)
    have g7:(b.toNat == 95)=false:=by rw [beq_eq_false_iff_ne]; omega
    have g8:((b.toNat:Int) == 95)=false:=by rw [beq_eq_false_iff_ne]; omega
    have hL:ltrB b=true:=by unfold ltrB; rw [decide_eq_true (p:=97≤b.toNat∧b.toNat≤122) (by omega)]; rfl
    have HN:Hid (NB=nameL (k + 1) (s.data.toList.drop (k + 1))):=Lib.hid (by have:=HN.out; rw [hL,Bool.true_or,Bool.true_and] at this; exact this)
    clear hL hb
    go_wp2
    exact ⟨⟨k + 1,by omega,by go_num,trivial,HN.out⟩,by simp [intOf]; omega⟩
   ·have g1:decide ((97:Int)≤(b.toNat:Int))=true:=decide_eq_true (by omega)
    have g2:decide ((b.toNat:Int)≤122)=false:=decide_eq_false (by omega)
    have g3:decide ((65:Int)≤(b.toNat:Int))=true:=decide_eq_true (by omega)
    have g4:decide ((b.toNat:Int)≤90)=false:=decide_eq_false (by omega)
    have g5:decide ((48:Int)≤(b.toNat:Int))=true:=decide_eq_true (by omega)
    have g6:decide ((b.toNat:Int)≤57)=false:=decide_eq_false (by omega)
    have g7:(b.toNat == 95)=false:=by rw [beq_eq_false_iff_ne]; omega
    have g8:((b.toNat:Int) == 95)=false:=by rw [beq_eq_false_iff_ne]; omega
    have hL:ltrB b=false:=by unfold ltrB; rw [decide_eq_false (p:=97≤b.toNat∧b.toNat≤122) (by omega),decide_eq_false (p:=65≤b.toNat∧b.toNat≤90) (by omega)]; rfl
    have hT:tailB b=false:=by unfold tailB; rw [decide_eq_false (p:=48≤b.toNat∧b.toNat≤57) (by omega),decide_eq_false (p:=b.toNat=95) (by omega)]; rfl
    by_cases hk0:k=0
    ·subst hk0
     have HN:Hid (NB=false):=Lib.hid (by have:=HN.out; rw [hL,show decide (0 < 0)=false from rfl,Bool.false_and,Bool.false_or,Bool.false_and] at this; exact this)
     have e:=HN.out
     subst e
     clear hL hT hb HN
     go_wp2
     go_ret
     exact ⟨rfl,HB.out⟩
    ·have HN:Hid (NB=false):=Lib.hid (by have:=HN.out; rw [hL,hT,Bool.and_false,Bool.false_or,Bool.false_and] at this; exact this)
     have gk:((k:Int) == 0)=false:=by rw [beq_eq_false_iff_ne]; omega
     have e:=HN.out
     subst e
     clear hL hT hb HN
     go_wp2
     go_ret
     exact ⟨rfl,HB.out⟩
  ·have hkl:k=s.size:=by omega
   subst hkl
   have hi:¬ (s.size:Int) < (s.size:Int):=by omega
   have hN2:NB=true:=by
    rw [List.drop_eq_nil_of_le (show s.data.toList.length≤s.size from Nat.le_refl _)] at hN
    exact hN
   clear hN
   subst hN2
   go_wp2
   go_ret
   exact ⟨rfl,HB.out⟩

end Go.Proofs.YthhkmihjnnfpgaaGreatDoor

/- welllog.Log at any log of short texts. -/
namespace Go.Proofs.YthhkmihjnnfpgaaGreatDoor
set_option linter.all false
open Go.RowKit

structure TX where
 u:ByteArray
 f:ByteArray
 t:ByteArray
def TX.cells (x:TX):List Value:=[.string x.u,.string x.f,.string x.t]
def ShT (l:List TX):Prop:=∀ x ∈ l,x.u.size≤20∧x.f.size≤20∧x.t.size≤20
noncomputable def logG:Bool→ByteArray→List TX→Int
 | _,_,[]=>0
 | b,pv,x :: r =>
  if x.u.size ≠ 0∧nameB x.u=false then 8
  else if rightQ x.f=true∧rightQ x.t=true then
   if (numT x.f).num.sign < 0 then 3
   else if cmpR (numT x.t) (numT x.f)≤0 then 6
   else if b=false∧cmpR (numT x.f) (numT pv) < 0 then 6
   else logG false x.t r
  else 2
noncomputable def logZ (l:List TX):Int:=if 200 < l.length then 4 else logG true ⟨#[48]⟩ l
theorem logG_8 {b:Bool} {pv:ByteArray} {x:TX} {r:List TX} (h1:x.u.size ≠ 0) (h2:nameB x.u=false):logG b pv (x :: r)=8:=by
 show (if x.u.size ≠ 0∧nameB x.u=false then (8:Int) else _)=8
 rw [if_pos ⟨h1,h2⟩]
theorem logG_r {b:Bool} {pv:ByteArray} {x:TX} {r:List TX} (h:x.u.size=0 ∨ nameB x.u=true):logG b pv (x :: r)=if rightQ x.f=true∧rightQ x.t=true then
   if (numT x.f).num.sign < 0 then 3
   else if cmpR (numT x.t) (numT x.f)≤0 then 6
   else if b=false∧cmpR (numT x.f) (numT pv) < 0 then 6
   else logG false x.t r
  else 2:=by
 show (if x.u.size ≠ 0∧nameB x.u=false then (8:Int) else _)=_
 rw [if_neg (fun e=>by
  rcases h with h | h
  ·exact e.1 h
  ·rw [h] at e; cases e.2)]
theorem signT_any {s:ByteArray} (hs:rightQ s=true) (hn:s.size≤20) (w:World):Ret Tryz.prog w 43 #[.string s] (.int .i64 (numT s).num.sign):=fun W hW=>by
 have h:=rsign_any (numT s) W (by rw [← numT_eq hs]; omega)
 rw [← numT_eq hs] at h
 exact h.mono (fun e w' h=>⟨h.1,h.2 ▸ Below.refl _ _⟩)
theorem cmpTT_any {s t:ByteArray} (hs:rightQ s=true) (ht:rightQ t=true) (hn:s.size≤20) (hm:t.size≤20) (w:World) (he:Env w):Ret Tryz.prog w 22 #[.string s,.string t] (.int .i64 (cmpR (numT s) (numT t))):=fun W hW=>by
 have h:=rcompare_any (numT s) (numT t) 20 (by omega) (by omega) (numT_sz hs hn) (numT_sz ht hm) W (he.below hW)
 rw [← numT_eq hs,← numT_eq ht] at h
 exact h
theorem ckT_ok {s:ByteArray} (hs:rightQ s=true) (hn:s.size≤20) (w:World) (he:Env w):Ret Tryz.prog w 72 #[.string s] (.int .i64 0):=fun W hW=>by
 have h:=rcheck_any s W (he.below hW) (by omega)
 rw [if_pos hs] at h
 exact h
theorem ckT_bad {s:ByteArray} (hs:¬ rightQ s=true) (hn:s.size≤20) (w:World) (he:Env w):Ret Tryz.prog w 72 #[.string s] (.int .i64 2):=fun W hW=>by
 have h:=rcheck_any s W (he.below hW) (by omega)
 rw [if_neg hs] at h
 exact h
theorem right_zero:rightQ ⟨#[48]⟩=true:=by rw [← qT_zero]; exact qT_right 0 (by decide)

set_option maxRecDepth 100000 in
set_option maxHeartbeats 16000000 in
theorem log_any (l:List TX) (sh:ShT l) (v:Value) (w:World) (he:Env w) (hv:SAt TX.cells 3 w v l) :
  Calls Tryz.prog 41 #[v] w fun e w'=>e=.returned (.int .i64 (logZ l))∧Below w.heap.size w w':=by
 have HE:=Lib.hid (fun W (hW:Below w.heap.size w W)=>he.below hW)
 have B:=Lib.hid (Below.refl w.heap.size w)
 have SH:=Lib.hid sh
 have HV:=Lib.hid hv
 obtain ⟨A,c,rfl,_⟩:=hv
 clear sh he
 by_cases hl:200 < l.length
 ·have hg:decide ((l.length:Int) > 200)=true:=decide_eq_true (by omega)
  have e:logZ l=4:=by unfold logZ; rw [if_pos hl]
  rw [e]
  clear e hl
  go_enter Tryz.func41,Tryz.ntmps41
  go_wp2
  go_ret
  exact ⟨rfl,B.out⟩
 have hg:decide ((l.length:Int) > 200)=false:=decide_eq_false (by omega)
 have HZ:Hid (logZ l=logG true ⟨#[48]⟩ l):=Lib.hid (by unfold logZ; rw [if_neg hl])
 obtain ⟨Z,hZ⟩:∃ z,logZ l=z:=⟨_,rfl⟩
 rw [hZ] at HZ ⊢
 clear hZ
 have hl:l.length≤200:=by omega
 go_enter Tryz.func41,Tryz.ntmps41
 go_wp2
 go_loopw [3,11] (fun ev iv wr=>∃ (k:Nat) (pv:ByteArray),k≤l.length∧ev=.string pv∧iv=.int .i64 k∧rightQ pv=true∧pv.size≤20∧Z=logG (decide (k=0)) pv (l.drop k)∧Below w.heap.size w wr) (fun _ iv _=>l.length - (intOf iv).toNat)
 case atStart=>exact ⟨0,_,Nat.zero_le _,rfl,rfl,right_zero,by decide,HZ.out,B.out⟩
 case round =>
  obtain ⟨k,pv,hk,rfl,rfl,hpr,hps,hZ,hB⟩:=hrel
  clear B HZ
  have B:=Lib.hid hB
  clear hB
  by_cases hlt:k < l.length
  ·obtain ⟨s0,s1,s2⟩:=SH.out l[k] (List.getElem_mem hlt)
   obtain ⟨dd,oo,c1,e1,_,q1⟩:=(HV.out.below B.out).cell k hlt
   injection e1 with e1 _ e1c
   subst e1 e1c
   rw [List.drop_eq_getElem_cons hlt] at hZ
   have HZ:=Lib.hid hZ
   clear hZ
   generalize l[k]=x at *
   have x0:wr.cell? ⟨dd,oo + k * 3,none⟩=_:=q1 0 _ rfl
   have x1:=q1 1 _ rfl
   have x2:=q1 2 _ rfl
   clear q1
   have hi:(k:Int) < (l.length:Int):=by omega
   go_upto_region 7 with (fail)
   have K5:=Lib.hid (Blk.fresh wr #[.string x.u,.string x.f,.string x.t] 86)
   have qq:=below_new wr (.cells #[.string x.u,.string x.f,.string x.t] 86)
   replace B:=Lib.hid (B.out.trans (qq.mono B.out.size))
   clear x0 x1 x2 qq
   generalize (wr.alloc (.cells #[.string x.u,.string x.f,.string x.t] 86))=W1 at *
   generalize wr.heap.size=b5 at *
   have HW:=HE.out w (Below.refl _ _)
   have HWW:=Lib.hid HW
   clear HW
   by_cases hu:x.u.size=0
   ·have hok:x.u.size=0 ∨ nameB x.u=true:=.inl hu
    have hue:(x.u.toList == ([]:List UInt8))=true:=by rw [ba_emp hu,ByteArray.toList_eq]; rfl
    clear hu
    replace HZ:Hid _:=Lib.hid (HZ.out.trans (logG_r hok))
    clear hok
    by_cases r1:rightQ x.f=true
    case neg =>
     have HK1:=Lib.hid (ckT_bad r1 s1 w HWW.out)
     have e:Z=2:=by rw [HZ.out,if_neg (fun e=>r1 e.1)]
     subst e
     clear HZ r1
     have z0:=K5.out.at_ 0 _ rfl
     have z1:=K5.out.at_ 1 _ rfl
     have z2:=K5.out.at_ 2 _ rfl
     go_wp2_with (first
      | (go_at_call 72; with_reducible refine (HK1.out _ B.out).mono ?_; rintro e wx ⟨rfl,q⟩; replace K5:=Lib.hid (K5.out.below q); replace B:=Lib.hid (B.out.trans (q.mono B.out.size)); clear q; have z0:=K5.out.at_ 0 _ rfl; have z1:=K5.out.at_ 1 _ rfl; have z2:=K5.out.at_ 2 _ rfl)
      | fail "arm")
     go_ret
     exact ⟨rfl,B.out⟩
    have HK1:=Lib.hid (ckT_ok r1 s1 w HWW.out)
    by_cases r2:rightQ x.t=true
    case neg =>
     have HK2:=Lib.hid (ckT_bad r2 s2 w HWW.out)
     have e:Z=2:=by rw [HZ.out,if_neg (fun e=>r2 e.2)]
     subst e
     clear HZ r1 r2
     have z0:=K5.out.at_ 0 _ rfl
     have z1:=K5.out.at_ 1 _ rfl
     have z2:=K5.out.at_ 2 _ rfl
     go_wp2_with (first
      | (go_at_call 72; with_reducible refine (HK1.out _ B.out).mono ?_; rintro e wx ⟨rfl,q⟩; replace K5:=Lib.hid (K5.out.below q); replace B:=Lib.hid (B.out.trans (q.mono B.out.size)); clear q; have z0:=K5.out.at_ 0 _ rfl; have z1:=K5.out.at_ 1 _ rfl; have z2:=K5.out.at_ 2 _ rfl)
      | (go_at_call 72; with_reducible refine (HK2.out _ B.out).mono ?_; rintro e wx ⟨rfl,q⟩; replace K5:=Lib.hid (K5.out.below q); replace B:=Lib.hid (B.out.trans (q.mono B.out.size)); clear q; have z0:=K5.out.at_ 0 _ rfl; have z1:=K5.out.at_ 1 _ rfl; have z2:=K5.out.at_ 2 _ rfl)
      | fail "arm")
     go_ret
     exact ⟨rfl,B.out⟩
    have HK2:=Lib.hid (ckT_ok r2 s2 w HWW.out)
    have HSG:=Lib.hid (signT_any r1 s1 w)
    have HCT:=Lib.hid (cmpTT_any r2 r1 s2 s1 w HWW.out)
    have HCE:=Lib.hid (cmpTT_any r1 hpr s1 hps w HWW.out)
    replace HZ:Hid _:=Lib.hid (HZ.out.trans (if_pos ⟨r1,r2⟩))
    have R2:=Lib.hid r2
    clear r1 r2 hpr
    generalize (numT x.f).num.sign=c1 at *
    generalize cmpR (numT x.t) (numT x.f)=c2 at *
    generalize cmpR (numT x.f) (numT pv)=c3 at *
    by_cases n1:c1 < 0
    case pos =>
     have g1:decide (c1 < 0)=true:=decide_eq_true n1
     have e:Z=3:=by rw [HZ.out,if_pos n1]
     subst e
     clear HZ n1
     have z0:=K5.out.at_ 0 _ rfl
     have z1:=K5.out.at_ 1 _ rfl
     have z2:=K5.out.at_ 2 _ rfl
     go_wp2_with (first
      | (go_at_call 72; with_reducible refine (HK1.out _ B.out).mono ?_; rintro e wx ⟨rfl,q⟩; replace K5:=Lib.hid (K5.out.below q); replace B:=Lib.hid (B.out.trans (q.mono B.out.size)); clear q; have z0:=K5.out.at_ 0 _ rfl; have z1:=K5.out.at_ 1 _ rfl; have z2:=K5.out.at_ 2 _ rfl)
      | (go_at_call 72; with_reducible refine (HK2.out _ B.out).mono ?_; rintro e wx ⟨rfl,q⟩; replace K5:=Lib.hid (K5.out.below q); replace B:=Lib.hid (B.out.trans (q.mono B.out.size)); clear q; have z0:=K5.out.at_ 0 _ rfl; have z1:=K5.out.at_ 1 _ rfl; have z2:=K5.out.at_ 2 _ rfl)
      | (go_at_call 43; with_reducible refine (HSG.out _ B.out).mono ?_; rintro e wx ⟨rfl,q⟩; replace K5:=Lib.hid (K5.out.below q); replace B:=Lib.hid (B.out.trans (q.mono B.out.size)); clear q; have z0:=K5.out.at_ 0 _ rfl; have z1:=K5.out.at_ 1 _ rfl; have z2:=K5.out.at_ 2 _ rfl)
      | fail "arm")
     go_ret
     exact ⟨rfl,B.out⟩
    have g1:decide (c1 < 0)=false:=decide_eq_false n1
    replace HZ:Hid _:=Lib.hid (HZ.out.trans (if_neg n1))
    clear n1
    by_cases n2:c2≤0
    case pos =>
     have g2:decide (c2≤0)=true:=decide_eq_true n2
     have e:Z=6:=by rw [HZ.out,if_pos n2]
     subst e
     clear HZ n2
     have z0:=K5.out.at_ 0 _ rfl
     have z1:=K5.out.at_ 1 _ rfl
     have z2:=K5.out.at_ 2 _ rfl
     go_wp2_with (first
      | (go_at_call 72; with_reducible refine (HK1.out _ B.out).mono ?_; rintro e wx ⟨rfl,q⟩; replace K5:=Lib.hid (K5.out.below q); replace B:=Lib.hid (B.out.trans (q.mono B.out.size)); clear q; have z0:=K5.out.at_ 0 _ rfl; have z1:=K5.out.at_ 1 _ rfl; have z2:=K5.out.at_ 2 _ rfl)
      | (go_at_call 72; with_reducible refine (HK2.out _ B.out).mono ?_; rintro e wx ⟨rfl,q⟩; replace K5:=Lib.hid (K5.out.below q); replace B:=Lib.hid (B.out.trans (q.mono B.out.size)); clear q; have z0:=K5.out.at_ 0 _ rfl; have z1:=K5.out.at_ 1 _ rfl; have z2:=K5.out.at_ 2 _ rfl)
      | (go_at_call 43; with_reducible refine (HSG.out _ B.out).mono ?_; rintro e wx ⟨rfl,q⟩; replace K5:=Lib.hid (K5.out.below q); replace B:=Lib.hid (B.out.trans (q.mono B.out.size)); clear q; have z0:=K5.out.at_ 0 _ rfl; have z1:=K5.out.at_ 1 _ rfl; have z2:=K5.out.at_ 2 _ rfl)
      | (go_at_call 22; with_reducible refine (HCT.out _ B.out).mono ?_; rintro e wx ⟨rfl,q⟩; replace K5:=Lib.hid (K5.out.below q); replace B:=Lib.hid (B.out.trans (q.mono B.out.size)); clear q; have z0:=K5.out.at_ 0 _ rfl; have z1:=K5.out.at_ 1 _ rfl; have z2:=K5.out.at_ 2 _ rfl)
      | fail "arm")
     go_ret
     exact ⟨rfl,B.out⟩
    have g2:decide (c2≤0)=false:=decide_eq_false n2
    replace HZ:Hid _:=Lib.hid (HZ.out.trans (if_neg n2))
    clear n2
    by_cases hk0:k=0
    ·subst hk0
     have hk0:¬ ((0:Nat):Int) > 0:=by omega
     have hk1:decide (((0:Nat):Int) > 0)=false:=decide_eq_false hk0
     replace HZ:Hid (Z=logG (decide (0 + 1=0)) x.t (l.drop (0 + 1))):=Lib.hid (HZ.out.trans (if_neg (fun e=>by cases e.1)))
     have z0:=K5.out.at_ 0 _ rfl
     have z1:=K5.out.at_ 1 _ rfl
     have z2:=K5.out.at_ 2 _ rfl
     go_wp2_with (first
      | (go_at_call 72; with_reducible refine (HK1.out _ B.out).mono ?_; rintro e wx ⟨rfl,q⟩; replace K5:=Lib.hid (K5.out.below q); replace B:=Lib.hid (B.out.trans (q.mono B.out.size)); clear q; have z0:=K5.out.at_ 0 _ rfl; have z1:=K5.out.at_ 1 _ rfl; have z2:=K5.out.at_ 2 _ rfl)
      | (go_at_call 72; with_reducible refine (HK2.out _ B.out).mono ?_; rintro e wx ⟨rfl,q⟩; replace K5:=Lib.hid (K5.out.below q); replace B:=Lib.hid (B.out.trans (q.mono B.out.size)); clear q; have z0:=K5.out.at_ 0 _ rfl; have z1:=K5.out.at_ 1 _ rfl; have z2:=K5.out.at_ 2 _ rfl)
      | (go_at_call 43; with_reducible refine (HSG.out _ B.out).mono ?_; rintro e wx ⟨rfl,q⟩; replace K5:=Lib.hid (K5.out.below q); replace B:=Lib.hid (B.out.trans (q.mono B.out.size)); clear q; have z0:=K5.out.at_ 0 _ rfl; have z1:=K5.out.at_ 1 _ rfl; have z2:=K5.out.at_ 2 _ rfl)
      | (go_at_call 22; with_reducible refine (HCT.out _ B.out).mono ?_; rintro e wx ⟨rfl,q⟩; replace K5:=Lib.hid (K5.out.below q); replace B:=Lib.hid (B.out.trans (q.mono B.out.size)); clear q; have z0:=K5.out.at_ 0 _ rfl; have z1:=K5.out.at_ 1 _ rfl; have z2:=K5.out.at_ 2 _ rfl)
      | (go_at_call 22; with_reducible refine (HCE.out _ B.out).mono ?_; rintro e wx ⟨rfl,q⟩; replace K5:=Lib.hid (K5.out.below q); replace B:=Lib.hid (B.out.trans (q.mono B.out.size)); clear q; have z0:=K5.out.at_ 0 _ rfl; have z1:=K5.out.at_ 1 _ rfl; have z2:=K5.out.at_ 2 _ rfl)
      | fail "arm")
     exact ⟨⟨0 + 1,x.t,by omega,rfl,by go_num,R2.out,s2,HZ.out,B.out⟩,by simp [intOf]; omega⟩
    ·have hk1:0 < k:=by omega
     have hkd:decide (k=0)=false:=decide_eq_false hk0
     rw [hkd] at HZ
     clear hk0 hkd
     by_cases n3:c3 < 0
     case pos =>
      have g3:decide (c3 < 0)=true:=decide_eq_true n3
      have e:Z=6:=by rw [HZ.out,if_pos ⟨rfl,n3⟩]
      subst e
      clear HZ n3
      have z0:=K5.out.at_ 0 _ rfl
      have z1:=K5.out.at_ 1 _ rfl
      have z2:=K5.out.at_ 2 _ rfl
      go_wp2_with (first
       | (go_at_call 72; with_reducible refine (HK1.out _ B.out).mono ?_; rintro e wx ⟨rfl,q⟩; replace K5:=Lib.hid (K5.out.below q); replace B:=Lib.hid (B.out.trans (q.mono B.out.size)); clear q; have z0:=K5.out.at_ 0 _ rfl; have z1:=K5.out.at_ 1 _ rfl; have z2:=K5.out.at_ 2 _ rfl)
       | (go_at_call 72; with_reducible refine (HK2.out _ B.out).mono ?_; rintro e wx ⟨rfl,q⟩; replace K5:=Lib.hid (K5.out.below q); replace B:=Lib.hid (B.out.trans (q.mono B.out.size)); clear q; have z0:=K5.out.at_ 0 _ rfl; have z1:=K5.out.at_ 1 _ rfl; have z2:=K5.out.at_ 2 _ rfl)
       | (go_at_call 43; with_reducible refine (HSG.out _ B.out).mono ?_; rintro e wx ⟨rfl,q⟩; replace K5:=Lib.hid (K5.out.below q); replace B:=Lib.hid (B.out.trans (q.mono B.out.size)); clear q; have z0:=K5.out.at_ 0 _ rfl; have z1:=K5.out.at_ 1 _ rfl; have z2:=K5.out.at_ 2 _ rfl)
       | (go_at_call 22; with_reducible refine (HCT.out _ B.out).mono ?_; rintro e wx ⟨rfl,q⟩; replace K5:=Lib.hid (K5.out.below q); replace B:=Lib.hid (B.out.trans (q.mono B.out.size)); clear q; have z0:=K5.out.at_ 0 _ rfl; have z1:=K5.out.at_ 1 _ rfl; have z2:=K5.out.at_ 2 _ rfl)
       | (go_at_call 22; with_reducible refine (HCE.out _ B.out).mono ?_; rintro e wx ⟨rfl,q⟩; replace K5:=Lib.hid (K5.out.below q); replace B:=Lib.hid (B.out.trans (q.mono B.out.size)); clear q; have z0:=K5.out.at_ 0 _ rfl; have z1:=K5.out.at_ 1 _ rfl; have z2:=K5.out.at_ 2 _ rfl)
       | fail "arm")
      go_ret
      exact ⟨rfl,B.out⟩
     have g3:decide (c3 < 0)=false:=decide_eq_false n3
     replace HZ:Hid (Z=logG (decide (k + 1=0)) x.t (l.drop (k + 1))):=Lib.hid (by rw [decide_eq_false (by omega)]; exact HZ.out.trans (if_neg (fun e=>n3 e.2)))
     clear n3
     have z0:=K5.out.at_ 0 _ rfl
     have z1:=K5.out.at_ 1 _ rfl
     have z2:=K5.out.at_ 2 _ rfl
     go_wp2_with (first
      | (go_at_call 72; with_reducible refine (HK1.out _ B.out).mono ?_; rintro e wx ⟨rfl,q⟩; replace K5:=Lib.hid (K5.out.below q); replace B:=Lib.hid (B.out.trans (q.mono B.out.size)); clear q; have z0:=K5.out.at_ 0 _ rfl; have z1:=K5.out.at_ 1 _ rfl; have z2:=K5.out.at_ 2 _ rfl)
      | (go_at_call 72; with_reducible refine (HK2.out _ B.out).mono ?_; rintro e wx ⟨rfl,q⟩; replace K5:=Lib.hid (K5.out.below q); replace B:=Lib.hid (B.out.trans (q.mono B.out.size)); clear q; have z0:=K5.out.at_ 0 _ rfl; have z1:=K5.out.at_ 1 _ rfl; have z2:=K5.out.at_ 2 _ rfl)
      | (go_at_call 43; with_reducible refine (HSG.out _ B.out).mono ?_; rintro e wx ⟨rfl,q⟩; replace K5:=Lib.hid (K5.out.below q); replace B:=Lib.hid (B.out.trans (q.mono B.out.size)); clear q; have z0:=K5.out.at_ 0 _ rfl; have z1:=K5.out.at_ 1 _ rfl; have z2:=K5.out.at_ 2 _ rfl)
      | (go_at_call 22; with_reducible refine (HCT.out _ B.out).mono ?_; rintro e wx ⟨rfl,q⟩; replace K5:=Lib.hid (K5.out.below q); replace B:=Lib.hid (B.out.trans (q.mono B.out.size)); clear q; have z0:=K5.out.at_ 0 _ rfl; have z1:=K5.out.at_ 1 _ rfl; have z2:=K5.out.at_ 2 _ rfl)
      | (go_at_call 22; with_reducible refine (HCE.out _ B.out).mono ?_; rintro e wx ⟨rfl,q⟩; replace K5:=Lib.hid (K5.out.below q); replace B:=Lib.hid (B.out.trans (q.mono B.out.size)); clear q; have z0:=K5.out.at_ 0 _ rfl; have z1:=K5.out.at_ 1 _ rfl; have z2:=K5.out.at_ 2 _ rfl)
      | fail "arm")
     exact ⟨⟨k + 1,x.t,by omega,rfl,by go_num,R2.out,s2,HZ.out,B.out⟩,by simp [intOf]; omega⟩
   ·have hue:=ba_ne (Nat.pos_of_ne_zero hu)
    have HNM0:Hid (Ret Tryz.prog w 75 #[.string x.u] (.bool (nameB x.u))):=Lib.hid (fun W _=>isname_any x.u W)
    by_cases hnb:nameB x.u=true
    ·have HNM:Hid (Ret Tryz.prog w 75 #[.string x.u] (.bool true)):=Lib.hid (by have:=HNM0.out; rw [hnb] at this; exact this)
     have hok:x.u.size=0 ∨ nameB x.u=true:=.inr hnb
     clear HNM0 hu hnb
     replace HZ:Hid _:=Lib.hid (HZ.out.trans (logG_r hok))
     clear hok
     by_cases r1:rightQ x.f=true
     case neg =>
      have HK1:=Lib.hid (ckT_bad r1 s1 w HWW.out)
      have e:Z=2:=by rw [HZ.out,if_neg (fun e=>r1 e.1)]
      subst e
      clear HZ r1
      have z0:=K5.out.at_ 0 _ rfl
      have z1:=K5.out.at_ 1 _ rfl
      have z2:=K5.out.at_ 2 _ rfl
      go_wp2_with (first
       | (go_at_call 75; with_reducible refine (HNM.out _ B.out).mono ?_; rintro e wx ⟨rfl,q⟩; replace K5:=Lib.hid (K5.out.below q); replace B:=Lib.hid (B.out.trans (q.mono B.out.size)); clear q; have z0:=K5.out.at_ 0 _ rfl; have z1:=K5.out.at_ 1 _ rfl; have z2:=K5.out.at_ 2 _ rfl)
       | (go_at_call 72; with_reducible refine (HK1.out _ B.out).mono ?_; rintro e wx ⟨rfl,q⟩; replace K5:=Lib.hid (K5.out.below q); replace B:=Lib.hid (B.out.trans (q.mono B.out.size)); clear q; have z0:=K5.out.at_ 0 _ rfl; have z1:=K5.out.at_ 1 _ rfl; have z2:=K5.out.at_ 2 _ rfl)
       | fail "arm")
      go_ret
      exact ⟨rfl,B.out⟩
     have HK1:=Lib.hid (ckT_ok r1 s1 w HWW.out)
     by_cases r2:rightQ x.t=true
     case neg =>
      have HK2:=Lib.hid (ckT_bad r2 s2 w HWW.out)
      have e:Z=2:=by rw [HZ.out,if_neg (fun e=>r2 e.2)]
      subst e
      clear HZ r1 r2
      have z0:=K5.out.at_ 0 _ rfl
      have z1:=K5.out.at_ 1 _ rfl
      have z2:=K5.out.at_ 2 _ rfl
      go_wp2_with (first
       | (go_at_call 75; with_reducible refine (HNM.out _ B.out).mono ?_; rintro e wx ⟨rfl,q⟩; replace K5:=Lib.hid (K5.out.below q); replace B:=Lib.hid (B.out.trans (q.mono B.out.size)); clear q; have z0:=K5.out.at_ 0 _ rfl; have z1:=K5.out.at_ 1 _ rfl; have z2:=K5.out.at_ 2 _ rfl)
       | (go_at_call 72; with_reducible refine (HK1.out _ B.out).mono ?_; rintro e wx ⟨rfl,q⟩; replace K5:=Lib.hid (K5.out.below q); replace B:=Lib.hid (B.out.trans (q.mono B.out.size)); clear q; have z0:=K5.out.at_ 0 _ rfl; have z1:=K5.out.at_ 1 _ rfl; have z2:=K5.out.at_ 2 _ rfl)
       | (go_at_call 72; with_reducible refine (HK2.out _ B.out).mono ?_; rintro e wx ⟨rfl,q⟩; replace K5:=Lib.hid (K5.out.below q); replace B:=Lib.hid (B.out.trans (q.mono B.out.size)); clear q; have z0:=K5.out.at_ 0 _ rfl; have z1:=K5.out.at_ 1 _ rfl; have z2:=K5.out.at_ 2 _ rfl)
       | fail "arm")
      go_ret
      exact ⟨rfl,B.out⟩
     have HK2:=Lib.hid (ckT_ok r2 s2 w HWW.out)
     have HSG:=Lib.hid (signT_any r1 s1 w)
     have HCT:=Lib.hid (cmpTT_any r2 r1 s2 s1 w HWW.out)
     have HCE:=Lib.hid (cmpTT_any r1 hpr s1 hps w HWW.out)
     replace HZ:Hid _:=Lib.hid (HZ.out.trans (if_pos ⟨r1,r2⟩))
     have R2:=Lib.hid r2
     clear r1 r2 hpr
     generalize (numT x.f).num.sign=c1 at *
     generalize cmpR (numT x.t) (numT x.f)=c2 at *
     generalize cmpR (numT x.f) (numT pv)=c3 at *
     by_cases n1:c1 < 0
     case pos =>
      have g1:decide (c1 < 0)=true:=decide_eq_true n1
      have e:Z=3:=by rw [HZ.out,if_pos n1]
      subst e
      clear HZ n1
      have z0:=K5.out.at_ 0 _ rfl
      have z1:=K5.out.at_ 1 _ rfl
      have z2:=K5.out.at_ 2 _ rfl
      go_wp2_with (first
       | (go_at_call 75; with_reducible refine (HNM.out _ B.out).mono ?_; rintro e wx ⟨rfl,q⟩; replace K5:=Lib.hid (K5.out.below q); replace B:=Lib.hid (B.out.trans (q.mono B.out.size)); clear q; have z0:=K5.out.at_ 0 _ rfl; have z1:=K5.out.at_ 1 _ rfl; have z2:=K5.out.at_ 2 _ rfl)
       | (go_at_call 72; with_reducible refine (HK1.out _ B.out).mono ?_; rintro e wx ⟨rfl,q⟩; replace K5:=Lib.hid (K5.out.below q); replace B:=Lib.hid (B.out.trans (q.mono B.out.size)); clear q; have z0:=K5.out.at_ 0 _ rfl; have z1:=K5.out.at_ 1 _ rfl; have z2:=K5.out.at_ 2 _ rfl)
       | (go_at_call 72; with_reducible refine (HK2.out _ B.out).mono ?_; rintro e wx ⟨rfl,q⟩; replace K5:=Lib.hid (K5.out.below q); replace B:=Lib.hid (B.out.trans (q.mono B.out.size)); clear q; have z0:=K5.out.at_ 0 _ rfl; have z1:=K5.out.at_ 1 _ rfl; have z2:=K5.out.at_ 2 _ rfl)
       | (go_at_call 43; with_reducible refine (HSG.out _ B.out).mono ?_; rintro e wx ⟨rfl,q⟩; replace K5:=Lib.hid (K5.out.below q); replace B:=Lib.hid (B.out.trans (q.mono B.out.size)); clear q; have z0:=K5.out.at_ 0 _ rfl; have z1:=K5.out.at_ 1 _ rfl; have z2:=K5.out.at_ 2 _ rfl)
       | fail "arm")
      go_ret
      exact ⟨rfl,B.out⟩
     have g1:decide (c1 < 0)=false:=decide_eq_false n1
     replace HZ:Hid _:=Lib.hid (HZ.out.trans (if_neg n1))
     clear n1
     by_cases n2:c2≤0
     case pos =>
      have g2:decide (c2≤0)=true:=decide_eq_true n2
      have e:Z=6:=by rw [HZ.out,if_pos n2]
      subst e
      clear HZ n2
      have z0:=K5.out.at_ 0 _ rfl
      have z1:=K5.out.at_ 1 _ rfl
      have z2:=K5.out.at_ 2 _ rfl
      go_wp2_with (first
       | (go_at_call 75; with_reducible refine (HNM.out _ B.out).mono ?_; rintro e wx ⟨rfl,q⟩; replace K5:=Lib.hid (K5.out.below q); replace B:=Lib.hid (B.out.trans (q.mono B.out.size)); clear q; have z0:=K5.out.at_ 0 _ rfl; have z1:=K5.out.at_ 1 _ rfl; have z2:=K5.out.at_ 2 _ rfl)
       | (go_at_call 72; with_reducible refine (HK1.out _ B.out).mono ?_; rintro e wx ⟨rfl,q⟩; replace K5:=Lib.hid (K5.out.below q); replace B:=Lib.hid (B.out.trans (q.mono B.out.size)); clear q; have z0:=K5.out.at_ 0 _ rfl; have z1:=K5.out.at_ 1 _ rfl; have z2:=K5.out.at_ 2 _ rfl)
       | (go_at_call 72; with_reducible refine (HK2.out _ B.out).mono ?_; rintro e wx ⟨rfl,q⟩; replace K5:=Lib.hid (K5.out.below q); replace B:=Lib.hid (B.out.trans (q.mono B.out.size)); clear q; have z0:=K5.out.at_ 0 _ rfl; have z1:=K5.out.at_ 1 _ rfl; have z2:=K5.out.at_ 2 _ rfl)
       | (go_at_call 43; with_reducible refine (HSG.out _ B.out).mono ?_; rintro e wx ⟨rfl,q⟩; replace K5:=Lib.hid (K5.out.below q); replace B:=Lib.hid (B.out.trans (q.mono B.out.size)); clear q; have z0:=K5.out.at_ 0 _ rfl; have z1:=K5.out.at_ 1 _ rfl; have z2:=K5.out.at_ 2 _ rfl)
       | (go_at_call 22; with_reducible refine (HCT.out _ B.out).mono ?_; rintro e wx ⟨rfl,q⟩; replace K5:=Lib.hid (K5.out.below q); replace B:=Lib.hid (B.out.trans (q.mono B.out.size)); clear q; have z0:=K5.out.at_ 0 _ rfl; have z1:=K5.out.at_ 1 _ rfl; have z2:=K5.out.at_ 2 _ rfl)
       | fail "arm")
      go_ret
      exact ⟨rfl,B.out⟩
     have g2:decide (c2≤0)=false:=decide_eq_false n2
     replace HZ:Hid _:=Lib.hid (HZ.out.trans (if_neg n2))
     clear n2
     by_cases hk0:k=0
     ·subst hk0
      have hk0:¬ ((0:Nat):Int) > 0:=by omega
      have hk1:decide (((0:Nat):Int) > 0)=false:=decide_eq_false hk0
      replace HZ:Hid (Z=logG (decide (0 + 1=0)) x.t (l.drop (0 + 1))):=Lib.hid (HZ.out.trans (if_neg (fun e=>by cases e.1)))
      have z0:=K5.out.at_ 0 _ rfl
      have z1:=K5.out.at_ 1 _ rfl
      have z2:=K5.out.at_ 2 _ rfl
      go_wp2_with (first
       | (go_at_call 75; with_reducible refine (HNM.out _ B.out).mono ?_; rintro e wx ⟨rfl,q⟩; replace K5:=Lib.hid (K5.out.below q); replace B:=Lib.hid (B.out.trans (q.mono B.out.size)); clear q; have z0:=K5.out.at_ 0 _ rfl; have z1:=K5.out.at_ 1 _ rfl; have z2:=K5.out.at_ 2 _ rfl)
       | (go_at_call 72; with_reducible refine (HK1.out _ B.out).mono ?_; rintro e wx ⟨rfl,q⟩; replace K5:=Lib.hid (K5.out.below q); replace B:=Lib.hid (B.out.trans (q.mono B.out.size)); clear q; have z0:=K5.out.at_ 0 _ rfl; have z1:=K5.out.at_ 1 _ rfl; have z2:=K5.out.at_ 2 _ rfl)
       | (go_at_call 72; with_reducible refine (HK2.out _ B.out).mono ?_; rintro e wx ⟨rfl,q⟩; replace K5:=Lib.hid (K5.out.below q); replace B:=Lib.hid (B.out.trans (q.mono B.out.size)); clear q; have z0:=K5.out.at_ 0 _ rfl; have z1:=K5.out.at_ 1 _ rfl; have z2:=K5.out.at_ 2 _ rfl)
       | (go_at_call 43; with_reducible refine (HSG.out _ B.out).mono ?_; rintro e wx ⟨rfl,q⟩; replace K5:=Lib.hid (K5.out.below q); replace B:=Lib.hid (B.out.trans (q.mono B.out.size)); clear q; have z0:=K5.out.at_ 0 _ rfl; have z1:=K5.out.at_ 1 _ rfl; have z2:=K5.out.at_ 2 _ rfl)
       | (go_at_call 22; with_reducible refine (HCT.out _ B.out).mono ?_; rintro e wx ⟨rfl,q⟩; replace K5:=Lib.hid (K5.out.below q); replace B:=Lib.hid (B.out.trans (q.mono B.out.size)); clear q; have z0:=K5.out.at_ 0 _ rfl; have z1:=K5.out.at_ 1 _ rfl; have z2:=K5.out.at_ 2 _ rfl)
       | (go_at_call 22; with_reducible refine (HCE.out _ B.out).mono ?_; rintro e wx ⟨rfl,q⟩; replace K5:=Lib.hid (K5.out.below q); replace B:=Lib.hid (B.out.trans (q.mono B.out.size)); clear q; have z0:=K5.out.at_ 0 _ rfl; have z1:=K5.out.at_ 1 _ rfl; have z2:=K5.out.at_ 2 _ rfl)
       | fail "arm")
      exact ⟨⟨0 + 1,x.t,by omega,rfl,by go_num,R2.out,s2,HZ.out,B.out⟩,by simp [intOf]; omega⟩
     ·have hk1:0 < k:=by omega
      have hkd:decide (k=0)=false:=decide_eq_false hk0
      rw [hkd] at HZ
      clear hk0 hkd
      by_cases n3:c3 < 0
      case pos =>
       have g3:decide (c3 < 0)=true:=decide_eq_true n3
       have e:Z=6:=by rw [HZ.out,if_pos ⟨rfl,n3⟩]
       subst e
       clear HZ n3
       have z0:=K5.out.at_ 0 _ rfl
       have z1:=K5.out.at_ 1 _ rfl
       have z2:=K5.out.at_ 2 _ rfl
       go_wp2_with (first
        | (go_at_call 75; with_reducible refine (HNM.out _ B.out).mono ?_; rintro e wx ⟨rfl,q⟩; replace K5:=Lib.hid (K5.out.below q); replace B:=Lib.hid (B.out.trans (q.mono B.out.size)); clear q; have z0:=K5.out.at_ 0 _ rfl; have z1:=K5.out.at_ 1 _ rfl; have z2:=K5.out.at_ 2 _ rfl)
        | (go_at_call 72; with_reducible refine (HK1.out _ B.out).mono ?_; rintro e wx ⟨rfl,q⟩; replace K5:=Lib.hid (K5.out.below q); replace B:=Lib.hid (B.out.trans (q.mono B.out.size)); clear q; have z0:=K5.out.at_ 0 _ rfl; have z1:=K5.out.at_ 1 _ rfl; have z2:=K5.out.at_ 2 _ rfl)
        | (go_at_call 72; with_reducible refine (HK2.out _ B.out).mono ?_; rintro e wx ⟨rfl,q⟩; replace K5:=Lib.hid (K5.out.below q); replace B:=Lib.hid (B.out.trans (q.mono B.out.size)); clear q; have z0:=K5.out.at_ 0 _ rfl; have z1:=K5.out.at_ 1 _ rfl; have z2:=K5.out.at_ 2 _ rfl)
        | (go_at_call 43; with_reducible refine (HSG.out _ B.out).mono ?_; rintro e wx ⟨rfl,q⟩; replace K5:=Lib.hid (K5.out.below q); replace B:=Lib.hid (B.out.trans (q.mono B.out.size)); clear q; have z0:=K5.out.at_ 0 _ rfl; have z1:=K5.out.at_ 1 _ rfl; have z2:=K5.out.at_ 2 _ rfl)
        | (go_at_call 22; with_reducible refine (HCT.out _ B.out).mono ?_; rintro e wx ⟨rfl,q⟩; replace K5:=Lib.hid (K5.out.below q); replace B:=Lib.hid (B.out.trans (q.mono B.out.size)); clear q; have z0:=K5.out.at_ 0 _ rfl; have z1:=K5.out.at_ 1 _ rfl; have z2:=K5.out.at_ 2 _ rfl)
        | (go_at_call 22; with_reducible refine (HCE.out _ B.out).mono ?_; rintro e wx ⟨rfl,q⟩; replace K5:=Lib.hid (K5.out.below q); replace B:=Lib.hid (B.out.trans (q.mono B.out.size)); clear q; have z0:=K5.out.at_ 0 _ rfl; have z1:=K5.out.at_ 1 _ rfl; have z2:=K5.out.at_ 2 _ rfl)
        | fail "arm")
       go_ret
       exact ⟨rfl,B.out⟩
      have g3:decide (c3 < 0)=false:=decide_eq_false n3
      replace HZ:Hid (Z=logG (decide (k + 1=0)) x.t (l.drop (k + 1))):=Lib.hid (by rw [decide_eq_false (by omega)]; exact HZ.out.trans (if_neg (fun e=>n3 e.2)))
      clear n3
      have z0:=K5.out.at_ 0 _ rfl
      have z1:=K5.out.at_ 1 _ rfl
      have z2:=K5.out.at_ 2 _ rfl
      go_wp2_with (first
       | (go_at_call 75; with_reducible refine (HNM.out _ B.out).mono ?_; rintro e wx ⟨rfl,q⟩; replace K5:=Lib.hid (K5.out.below q); replace B:=Lib.hid (B.out.trans (q.mono B.out.size)); clear q; have z0:=K5.out.at_ 0 _ rfl; have z1:=K5.out.at_ 1 _ rfl; have z2:=K5.out.at_ 2 _ rfl)
       | (go_at_call 72; with_reducible refine (HK1.out _ B.out).mono ?_; rintro e wx ⟨rfl,q⟩; replace K5:=Lib.hid (K5.out.below q); replace B:=Lib.hid (B.out.trans (q.mono B.out.size)); clear q; have z0:=K5.out.at_ 0 _ rfl; have z1:=K5.out.at_ 1 _ rfl; have z2:=K5.out.at_ 2 _ rfl)
       | (go_at_call 72; with_reducible refine (HK2.out _ B.out).mono ?_; rintro e wx ⟨rfl,q⟩; replace K5:=Lib.hid (K5.out.below q); replace B:=Lib.hid (B.out.trans (q.mono B.out.size)); clear q; have z0:=K5.out.at_ 0 _ rfl; have z1:=K5.out.at_ 1 _ rfl; have z2:=K5.out.at_ 2 _ rfl)
       | (go_at_call 43; with_reducible refine (HSG.out _ B.out).mono ?_; rintro e wx ⟨rfl,q⟩; replace K5:=Lib.hid (K5.out.below q); replace B:=Lib.hid (B.out.trans (q.mono B.out.size)); clear q; have z0:=K5.out.at_ 0 _ rfl; have z1:=K5.out.at_ 1 _ rfl; have z2:=K5.out.at_ 2 _ rfl)
       | (go_at_call 22; with_reducible refine (HCT.out _ B.out).mono ?_; rintro e wx ⟨rfl,q⟩; replace K5:=Lib.hid (K5.out.below q); replace B:=Lib.hid (B.out.trans (q.mono B.out.size)); clear q; have z0:=K5.out.at_ 0 _ rfl; have z1:=K5.out.at_ 1 _ rfl; have z2:=K5.out.at_ 2 _ rfl)
       | (go_at_call 22; with_reducible refine (HCE.out _ B.out).mono ?_; rintro e wx ⟨rfl,q⟩; replace K5:=Lib.hid (K5.out.below q); replace B:=Lib.hid (B.out.trans (q.mono B.out.size)); clear q; have z0:=K5.out.at_ 0 _ rfl; have z1:=K5.out.at_ 1 _ rfl; have z2:=K5.out.at_ 2 _ rfl)
       | fail "arm")
      exact ⟨⟨k + 1,x.t,by omega,rfl,by go_num,R2.out,s2,HZ.out,B.out⟩,by simp [intOf]; omega⟩
    ·have hnb:nameB x.u=false:=by simpa using hnb
     have HNM:Hid (Ret Tryz.prog w 75 #[.string x.u] (.bool false)):=Lib.hid (by have:=HNM0.out; rw [hnb] at this; exact this)
     have e:Z=8:=by rw [HZ.out,logG_8 hu hnb]
     subst e
     clear HNM0 hu hnb HZ
     have z0:=K5.out.at_ 0 _ rfl
     have z1:=K5.out.at_ 1 _ rfl
     have z2:=K5.out.at_ 2 _ rfl
     go_wp2_with (first
      | (go_at_call 75; with_reducible refine (HNM.out _ B.out).mono ?_; rintro e wx ⟨rfl,q⟩; replace K5:=Lib.hid (K5.out.below q); replace B:=Lib.hid (B.out.trans (q.mono B.out.size)); clear q; have z0:=K5.out.at_ 0 _ rfl; have z1:=K5.out.at_ 1 _ rfl; have z2:=K5.out.at_ 2 _ rfl)
      | fail "arm")
     go_ret
     exact ⟨rfl,B.out⟩
  ·have hkl:k=l.length:=by omega
   subst hkl
   have hi:¬ (l.length:Int) < (l.length:Int):=by omega
   have e:Z=0:=by rw [hZ,List.drop_length]; rfl
   subst e
   clear hZ
   go_wp2
   go_ret
   exact ⟨rfl,B.out⟩

end Go.Proofs.YthhkmihjnnfpgaaGreatDoor

/- correlate.Check at any question of short texts. -/
namespace Go.Proofs.YthhkmihjnnfpgaaGreatDoor
set_option linter.all false
open Go.RowKit

structure XQ where
 L:List TX
 R:List TX
 c1:ByteArray
 c2:ByteArray
 c3:ByteArray
 c4:ByteArray
def XQ.pt (q:XQ) (sl sr:Value):Value:=.agg #[sl,sr,.string q.c1,.string q.c2,.string q.c3,.string q.c4]
structure XAt (w:World) (sl sr:Value) (q:XQ):Prop where
 l:SAt TX.cells 3 w sl q.L
 r:SAt TX.cells 3 w sr q.R
theorem XAt.below {W W':World} {sl sr:Value} {q:XQ} (h:XAt W sl sr q) (k:Below W.heap.size W W'):XAt W' sl sr q:=⟨h.l.below k,h.r.below k⟩
structure ShQ (q:XQ):Prop where
 l:ShT q.L
 r:ShT q.R
 c1:q.c1.size≤20
 c2:q.c2.size≤20
 c3:q.c3.size≤20
 c4:q.c4.size≤20
set_option maxRecDepth 100000 in
set_option maxHeartbeats 4000000 in
theorem costs_txt (c1 c2 c3 c4:ByteArray) (sl sr:Value) (w:World) :
  Calls Tryz.prog 76 #[.agg #[sl,sr,.string c1,.string c2,.string c3,.string c4]] w fun e w'=>(∃ g,e=.returned (.slice (some ⟨g,0,none⟩) 4 4)∧Blk w' g #[.string c1,.string c2,.string c3,.string c4] 28)∧Below w.heap.size w w':=by
 have B:=Lib.hid (Below.refl w.heap.size w)
 go_enter Tryz.func76,Tryz.ntmps76
 go_upto_region 1 with (fail)
 have K1:=Lib.hid (Blk.fresh w #[sl,sr,.string c1,.string c2,.string c3,.string c4] 32)
 have qq:=below_new w (.cells #[sl,sr,.string c1,.string c2,.string c3,.string c4] 32)
 have HSZ:Hid ((w.alloc (.cells #[sl,sr,.string c1,.string c2,.string c3,.string c4] 32)).heap.size=w.heap.size + 1):=Lib.hid (by simp)
 generalize (w.alloc (.cells #[sl,sr,.string c1,.string c2,.string c3,.string c4] 32))=W1 at *
 have y2:=K1.out.at_ 2 _ rfl
 have y3:=K1.out.at_ 3 _ rfl
 have y4:=K1.out.at_ 4 _ rfl
 have y5:=K1.out.at_ 5 _ rfl
 go_wp2
 go_ret
 have hsz:=HSZ.out
 exact ⟨⟨W1.heap.size,rfl,Blk.fresh W1 _ _⟩,B.out.trans (qq.trans ((below_new W1 _).mono (by omega)))⟩

noncomputable def cosT (c1 c2 c3 c4:ByteArray):Int :=
 if rightQ c1=true∧rightQ c2=true∧rightQ c3=true∧rightQ c4=true then
  if (numT c1).num.sign < 0 ∨ (numT c2).num.sign < 0 ∨ (numT c3).num.sign < 0 ∨ (numT c4).num.sign < 0 then 3 else 0
 else 2
theorem cosT_bad {c1 c2 c3 c4:ByteArray} (h:¬ rightQ c1=true ∨ ¬ rightQ c2=true ∨ ¬ rightQ c3=true ∨ ¬ rightQ c4=true):cosT c1 c2 c3 c4=2:=by
 unfold cosT
 rw [if_neg (fun e=>by
  obtain ⟨a,b,c,d⟩:=e
  rcases h with h | h | h | h
  ·exact h a
  ·exact h b
  ·exact h c
  ·exact h d)]
theorem cosT_sg {c1 c2 c3 c4:ByteArray} (h1:rightQ c1=true) (h2:rightQ c2=true) (h3:rightQ c3=true) (h4:rightQ c4=true):cosT c1 c2 c3 c4=if (numT c1).num.sign < 0 ∨ (numT c2).num.sign < 0 ∨ (numT c3).num.sign < 0 ∨ (numT c4).num.sign < 0 then 3 else 0:=by
 unfold cosT
 rw [if_pos ⟨h1,h2,h3,h4⟩]
def chkT (z1 z2:Int) (l1 l2:Nat) (zc:Int):Int:=if z1=0 then if z2=0 then if 60 < l1 ∨ 60 < l2 then 4 else zc else z2 else z1

set_option maxRecDepth 100000 in
set_option maxHeartbeats 16000000 in
theorem check_walk (A1 A2:Option Addr) (l1 l2 n1 n2:Nat) (c1 c2 c3 c4:ByteArray) (k1:c1.size≤20) (k2:c2.size≤20) (k3:c3.size≤20) (k4:c4.size≤20) (z1 z2:Int) (w:World) (he:Env w)
  (hll:Ret Tryz.prog w 41 #[.slice A1 l1 n1] (.int .i64 z1)) (hlr:Ret Tryz.prog w 41 #[.slice A2 l2 n2] (.int .i64 z2)) :
  Calls Tryz.prog 44 #[.agg #[.slice A1 l1 n1,.slice A2 l2 n2,.string c1,.string c2,.string c3,.string c4]] w fun e w'=>e=.returned (.int .i64 (chkT z1 z2 l1 l2 (cosT c1 c2 c3 c4)))∧Below w.heap.size w w':=by
 have B:=Lib.hid (Below.refl w.heap.size w)
 have HE:=Lib.hid he
 have HLL:=Lib.hid hll
 have HLR:=Lib.hid hlr
 clear he hll hlr
 have HCO:=Lib.hid (fun W=>costs_txt c1 c2 c3 c4 (.slice A1 l1 n1) (.slice A2 l2 n2) W)
 obtain ⟨ZC,hZC⟩:∃ z,cosT c1 c2 c3 c4=z:=⟨_,rfl⟩
 rw [hZC]
 have HZC:=Lib.hid hZC
 clear hZC
 obtain ⟨Z,hZ⟩:∃ z,chkT z1 z2 l1 l2 ZC=z:=⟨_,rfl⟩
 rw [hZ]
 have HZ:=Lib.hid hZ
 clear hZ
 unfold chkT at HZ
 go_enter Tryz.func44,Tryz.ntmps44
 go_upto_region 1 with (fail)
 have K1:=Lib.hid (Blk.fresh w #[.slice A1 l1 n1,.slice A2 l2 n2,.string c1,.string c2,.string c3,.string c4] 32)
 have qq:=below_new w (.cells #[.slice A1 l1 n1,.slice A2 l2 n2,.string c1,.string c2,.string c3,.string c4] 32)
 replace B:=Lib.hid (B.out.trans (qq.mono B.out.size))
 have hb1:w.heap.size < (w.alloc (.cells #[.slice A1 l1 n1,.slice A2 l2 n2,.string c1,.string c2,.string c3,.string c4] 32)).heap.size:=by simp
 clear qq
 generalize (w.alloc (.cells #[.slice A1 l1 n1,.slice A2 l2 n2,.string c1,.string c2,.string c3,.string c4] 32))=W1 at *
 obtain ⟨b1,hbe⟩:∃ b1,w.heap.size=b1:=⟨_,rfl⟩
 rw [hbe] at K1 ⊢
 have HBE:=Lib.hid hbe
 clear hbe
 have y0:=K1.out.at_ 0 _ rfl
 have y1:=K1.out.at_ 1 _ rfl
 go_upto_region 2 with (fail)
 have K14:=Lib.hid (Blk.fresh W1 #[.slice A1 l1 n1,.slice A2 l2 n2] 27)
 have qq:=below_new W1 (.cells #[.slice A1 l1 n1,.slice A2 l2 n2] 27)
 replace B:=Lib.hid (B.out.trans (qq.mono B.out.size))
 replace K1:=Lib.hid (K1.out.below qq)
 clear qq y0 y1 hb1
 generalize (W1.alloc (.cells #[.slice A1 l1 n1,.slice A2 l2 n2] 27))=W2 at *
 generalize W1.heap.size=b14 at *
 go_wp2
 go_loopw [16] (fun iv wr=>∃ k:Nat,k≤2∧iv=.int .i64 k∧(0 < k→z1=0)∧(1 < k→z2=0)∧Blk wr b1 #[.slice A1 l1 n1,.slice A2 l2 n2,.string c1,.string c2,.string c3,.string c4] 32∧Blk wr b14 #[.slice A1 l1 n1,.slice A2 l2 n2] 27∧Below w.heap.size w wr) (fun iv _=>2 - (intOf iv).toNat)
 case atStart=>exact ⟨0,Nat.zero_le _,rfl,fun h=>absurd h (by decide),fun h=>absurd h (by decide),K1.out,K14.out,B.out⟩
 case round =>
  obtain ⟨k,hk,rfl,hz1,hz2,hk1,hk14,hB⟩:=hrel
  clear K1 K14 B
  have K1:=Lib.hid hk1
  have K14:=Lib.hid hk14
  have B:=Lib.hid hB
  clear hk1 hk14 hB
  have u0:=K14.out.at_ 0 _ rfl
  have u1:=K14.out.at_ 1 _ rfl
  have y0:=K1.out.at_ 0 _ rfl
  have y1:=K1.out.at_ 1 _ rfl
  rcases (show k=0 ∨ k=1 ∨ k=2 by omega) with rfl | rfl | rfl
  ·skip
   clear hz1 hz2
   by_cases n:z1=0
   ·have HLL0:Hid (Ret Tryz.prog w 41 #[.slice A1 l1 n1] (.int .i64 0)):=Lib.hid (by have:=HLL.out; rw [n] at this; exact this)
    clear HLL
    have N:=Lib.hid n
    clear n
    go_wp2_with (first
     | (go_at_call 41; with_reducible refine (HLL0.out _ B.out).mono ?_; rintro e wx ⟨rfl,q⟩; replace K1:=Lib.hid (K1.out.below q); replace K14:=Lib.hid (K14.out.below q); replace B:=Lib.hid (B.out.trans (q.mono B.out.size)); clear q; have y0:=K1.out.at_ 0 _ rfl; have y1:=K1.out.at_ 1 _ rfl; have u0:=K14.out.at_ 0 _ rfl; have u1:=K14.out.at_ 1 _ rfl)
     | fail "arm")
    exact ⟨⟨1,by omega,rfl,fun _=>N.out,fun h=>absurd h (by decide),K1.out,K14.out,B.out⟩,by decide⟩
   ·have e:Z=z1:=by rw [← HZ.out,if_neg n]
    have nb:(z1 == 0)=false:=by rw [beq_eq_false_iff_ne]; exact n
    subst e
    clear HZ HZC
    go_wp2_with (first
     | (go_at_call 41; with_reducible refine (HLL.out _ B.out).mono ?_; rintro e wx ⟨rfl,q⟩; replace K1:=Lib.hid (K1.out.below q); replace K14:=Lib.hid (K14.out.below q); replace B:=Lib.hid (B.out.trans (q.mono B.out.size)); clear q; have y0:=K1.out.at_ 0 _ rfl; have y1:=K1.out.at_ 1 _ rfl; have u0:=K14.out.at_ 0 _ rfl; have u1:=K14.out.at_ 1 _ rfl)
     | fail "arm")
    go_ret
    exact ⟨rfl,B.out⟩
  ·have ez1:=hz1 (by decide)
   clear hz1 hz2
   by_cases n:z2=0
   ·have HLR0:Hid (Ret Tryz.prog w 41 #[.slice A2 l2 n2] (.int .i64 0)):=Lib.hid (by have:=HLR.out; rw [n] at this; exact this)
    clear HLR
    have N:=Lib.hid n
    clear n
    have E1:=Lib.hid ez1
    clear ez1
    go_wp2_with (first
     | (go_at_call 41; with_reducible refine (HLR0.out _ B.out).mono ?_; rintro e wx ⟨rfl,q⟩; replace K1:=Lib.hid (K1.out.below q); replace K14:=Lib.hid (K14.out.below q); replace B:=Lib.hid (B.out.trans (q.mono B.out.size)); clear q; have y0:=K1.out.at_ 0 _ rfl; have y1:=K1.out.at_ 1 _ rfl; have u0:=K14.out.at_ 0 _ rfl; have u1:=K14.out.at_ 1 _ rfl)
     | fail "arm")
    exact ⟨⟨2,by omega,rfl,fun _=>E1.out,fun _=>N.out,K1.out,K14.out,B.out⟩,by decide⟩
   ·have e:Z=z2:=by rw [← HZ.out,if_pos ez1,if_neg n]
    have nb:(z2 == 0)=false:=by rw [beq_eq_false_iff_ne]; exact n
    subst e
    clear HZ HZC
    clear ez1
    go_wp2_with (first
     | (go_at_call 41; with_reducible refine (HLR.out _ B.out).mono ?_; rintro e wx ⟨rfl,q⟩; replace K1:=Lib.hid (K1.out.below q); replace K14:=Lib.hid (K14.out.below q); replace B:=Lib.hid (B.out.trans (q.mono B.out.size)); clear q; have y0:=K1.out.at_ 0 _ rfl; have y1:=K1.out.at_ 1 _ rfl; have u0:=K14.out.at_ 0 _ rfl; have u1:=K14.out.at_ 1 _ rfl)
     | fail "arm")
    go_ret
    exact ⟨rfl,B.out⟩
  ·have ez1:=hz1 (by decide)
   have ez2:=hz2 (by decide)
   clear hz1 hz2
   replace HZ:Hid _:=Lib.hid (HZ.out.symm.trans ((if_pos ez1).trans (if_pos ez2)))
   clear ez1 ez2 HLL HLR
   clear K14 u0 u1
   have y2:=K1.out.at_ 2 _ rfl
   have y3:=K1.out.at_ 3 _ rfl
   have y4:=K1.out.at_ 4 _ rfl
   have y5:=K1.out.at_ 5 _ rfl
   by_cases hg1:60 < l1
   case pos =>
    have e:Z=4:=by rw [HZ.out,if_pos (.inl hg1)]
    have hgg:decide ((l1:Int) > 60)=true:=decide_eq_true (by omega)
    subst e
    clear HZ HZC hg1
    go_wp2
    go_ret
    exact ⟨rfl,B.out⟩
   by_cases hg2:60 < l2
   case pos =>
    have e:Z=4:=by rw [HZ.out,if_pos (.inr hg2)]
    have hgg:decide ((l1:Int) > 60)=false:=decide_eq_false (by omega)
    have hgg2:decide ((l2:Int) > 60)=true:=decide_eq_true (by omega)
    subst e
    clear HZ HZC hg2 hg1
    go_wp2
    go_ret
    exact ⟨rfl,B.out⟩
   have e:Z=ZC:=by rw [HZ.out,if_neg (fun e=>by omega)]
   subst e
   have hgg:decide ((l1:Int) > 60)=false:=decide_eq_false (by omega)
   have hgg2:decide ((l2:Int) > 60)=false:=decide_eq_false (by omega)
   clear HZ hg1 hg2
   go_wp2_with (first
    | (go_at_call 76; with_reducible refine (HCO.out _).mono ?_; rintro e wx ⟨⟨g37,rfl,hk37⟩,q⟩; replace K1:=Lib.hid (K1.out.below q); replace B:=Lib.hid (B.out.trans (q.mono B.out.size)); clear q; have K37:=Lib.hid hk37; clear hk37)
    | fail "arm")
   clear y0 y1 y2 y3 y4 y5
   go_loopw [39] (fun iv wr=>∃ k:Nat,k≤4∧iv=.int .i64 k∧(0 < k→rightQ c1=true)∧(1 < k→rightQ c2=true)∧(2 < k→rightQ c3=true)∧(3 < k→rightQ c4=true)∧Blk wr b1 #[.slice A1 l1 n1,.slice A2 l2 n2,.string c1,.string c2,.string c3,.string c4] 32∧Blk wr g37 #[.string c1,.string c2,.string c3,.string c4] 28∧Below w.heap.size w wr) (fun iv _=>4 - (intOf iv).toNat)
   case atStart=>exact ⟨0,Nat.zero_le _,rfl,fun h=>absurd h (by decide),fun h=>absurd h (by decide),fun h=>absurd h (by decide),fun h=>absurd h (by decide),K1.out,K37.out,B.out⟩
   case round =>
    obtain ⟨k,hk,rfl,hr1,hr2,hr3,hr4,hk1,hk37,hB⟩:=hrel
    clear K1 K37 B
    have K1:=Lib.hid hk1
    have K37:=Lib.hid hk37
    have B:=Lib.hid hB
    have HR:=Lib.hid (And.intro hr1 (And.intro hr2 (And.intro hr3 hr4)))
    clear hk1 hk37 hB hr1 hr2 hr3 hr4
    rcases (show k=0 ∨ k=1 ∨ k=2 ∨ k=3 ∨ k=4 by omega) with rfl | rfl | rfl | rfl | rfl
    ·have y0:=K37.out.at_ 0 _ rfl
     by_cases r:rightQ c1=true
     ·have HK:=Lib.hid (ckT_ok r k1 w HE.out)
      have RN:=Lib.hid r
      clear r
      go_wp2_with (first
       | (go_at_call 72; with_reducible refine (HK.out _ B.out).mono ?_; rintro e wx ⟨rfl,q⟩; replace K1:=Lib.hid (K1.out.below q); replace K37:=Lib.hid (K37.out.below q); replace B:=Lib.hid (B.out.trans (q.mono B.out.size)); clear q)
       | fail "arm")
      exact ⟨⟨1,by omega,rfl,fun _=>RN.out,fun h=>absurd h (by decide),fun h=>absurd h (by decide),fun h=>absurd h (by decide),K1.out,K37.out,B.out⟩,by decide⟩
     ·have HK:=Lib.hid (ckT_bad r k1 w HE.out)
      have e:Z=2:=by rw [← HZC.out,cosT_bad (.inl r)]
      subst e
      clear HZC r
      go_wp2_with (first
       | (go_at_call 72; with_reducible refine (HK.out _ B.out).mono ?_; rintro e wx ⟨rfl,q⟩; replace K1:=Lib.hid (K1.out.below q); replace K37:=Lib.hid (K37.out.below q); replace B:=Lib.hid (B.out.trans (q.mono B.out.size)); clear q)
       | fail "arm")
      go_ret
      exact ⟨rfl,B.out⟩
    ·have y0:=K37.out.at_ 1 _ rfl
     by_cases r:rightQ c2=true
     ·have HK:=Lib.hid (ckT_ok r k2 w HE.out)
      have RN:=Lib.hid r
      clear r
      go_wp2_with (first
       | (go_at_call 72; with_reducible refine (HK.out _ B.out).mono ?_; rintro e wx ⟨rfl,q⟩; replace K1:=Lib.hid (K1.out.below q); replace K37:=Lib.hid (K37.out.below q); replace B:=Lib.hid (B.out.trans (q.mono B.out.size)); clear q)
       | fail "arm")
      exact ⟨⟨2,by omega,rfl,fun _=>HR.out.1 (by decide),fun _=>RN.out,fun h=>absurd h (by decide),fun h=>absurd h (by decide),K1.out,K37.out,B.out⟩,by decide⟩
     ·have HK:=Lib.hid (ckT_bad r k2 w HE.out)
      have e:Z=2:=by rw [← HZC.out,cosT_bad (.inr (.inl r))]
      subst e
      clear HZC r
      go_wp2_with (first
       | (go_at_call 72; with_reducible refine (HK.out _ B.out).mono ?_; rintro e wx ⟨rfl,q⟩; replace K1:=Lib.hid (K1.out.below q); replace K37:=Lib.hid (K37.out.below q); replace B:=Lib.hid (B.out.trans (q.mono B.out.size)); clear q)
       | fail "arm")
      go_ret
      exact ⟨rfl,B.out⟩
    ·have y0:=K37.out.at_ 2 _ rfl
     by_cases r:rightQ c3=true
     ·have HK:=Lib.hid (ckT_ok r k3 w HE.out)
      have RN:=Lib.hid r
      clear r
      go_wp2_with (first
       | (go_at_call 72; with_reducible refine (HK.out _ B.out).mono ?_; rintro e wx ⟨rfl,q⟩; replace K1:=Lib.hid (K1.out.below q); replace K37:=Lib.hid (K37.out.below q); replace B:=Lib.hid (B.out.trans (q.mono B.out.size)); clear q)
       | fail "arm")
      exact ⟨⟨3,by omega,rfl,fun _=>HR.out.1 (by decide),fun _=>HR.out.2.1 (by decide),fun _=>RN.out,fun h=>absurd h (by decide),K1.out,K37.out,B.out⟩,by decide⟩
     ·have HK:=Lib.hid (ckT_bad r k3 w HE.out)
      have e:Z=2:=by rw [← HZC.out,cosT_bad (.inr (.inr (.inl r)))]
      subst e
      clear HZC r
      go_wp2_with (first
       | (go_at_call 72; with_reducible refine (HK.out _ B.out).mono ?_; rintro e wx ⟨rfl,q⟩; replace K1:=Lib.hid (K1.out.below q); replace K37:=Lib.hid (K37.out.below q); replace B:=Lib.hid (B.out.trans (q.mono B.out.size)); clear q)
       | fail "arm")
      go_ret
      exact ⟨rfl,B.out⟩
    ·have y0:=K37.out.at_ 3 _ rfl
     by_cases r:rightQ c4=true
     ·have HK:=Lib.hid (ckT_ok r k4 w HE.out)
      have RN:=Lib.hid r
      clear r
      go_wp2_with (first
       | (go_at_call 72; with_reducible refine (HK.out _ B.out).mono ?_; rintro e wx ⟨rfl,q⟩; replace K1:=Lib.hid (K1.out.below q); replace K37:=Lib.hid (K37.out.below q); replace B:=Lib.hid (B.out.trans (q.mono B.out.size)); clear q)
       | fail "arm")
      exact ⟨⟨4,by omega,rfl,fun _=>HR.out.1 (by decide),fun _=>HR.out.2.1 (by decide),fun _=>HR.out.2.2.1 (by decide),fun _=>RN.out,K1.out,K37.out,B.out⟩,by decide⟩
     ·have HK:=Lib.hid (ckT_bad r k4 w HE.out)
      have e:Z=2:=by rw [← HZC.out,cosT_bad (.inr (.inr (.inr r)))]
      subst e
      clear HZC r
      go_wp2_with (first
       | (go_at_call 72; with_reducible refine (HK.out _ B.out).mono ?_; rintro e wx ⟨rfl,q⟩; replace K1:=Lib.hid (K1.out.below q); replace K37:=Lib.hid (K37.out.below q); replace B:=Lib.hid (B.out.trans (q.mono B.out.size)); clear q)
       | fail "arm")
      go_ret
      exact ⟨rfl,B.out⟩
    ·clear K37
     have r1:=HR.out.1 (by decide)
     have r2:=HR.out.2.1 (by decide)
     have r3:=HR.out.2.2.1 (by decide)
     have r4:=HR.out.2.2.2 (by decide)
     have HS1:=Lib.hid (signT_any r1 k1 w)
     have HS2:=Lib.hid (signT_any r2 k2 w)
     have HS3:=Lib.hid (signT_any r3 k3 w)
     have HS4:=Lib.hid (signT_any r4 k4 w)
     replace HZC:=Lib.hid (HZC.out.symm.trans (cosT_sg r1 r2 r3 r4))
     clear HR r1 r2 r3 r4
     generalize (numT c1).num.sign=s1 at *
     generalize (numT c2).num.sign=s2 at *
     generalize (numT c3).num.sign=s3 at *
     generalize (numT c4).num.sign=s4 at *
     have y0:=K1.out.at_ 0 _ rfl
     have y1:=K1.out.at_ 1 _ rfl
     have y2:=K1.out.at_ 2 _ rfl
     have y3:=K1.out.at_ 3 _ rfl
     have y4:=K1.out.at_ 4 _ rfl
     have y5:=K1.out.at_ 5 _ rfl
     go_wp2_with (first
      | (go_at_call 76; with_reducible refine (HCO.out _).mono ?_; rintro e wx ⟨⟨g48,rfl,hk48⟩,q⟩; replace K1:=Lib.hid (K1.out.below q); replace B:=Lib.hid (B.out.trans (q.mono B.out.size)); clear q; have K48:=Lib.hid hk48; clear hk48)
      | fail "arm")
     clear y0 y1 y2 y3 y4 y5
     go_loopw [50] (fun iv wr=>∃ k:Nat,k≤4∧iv=.int .i64 k∧(0 < k→0≤s1)∧(1 < k→0≤s2)∧(2 < k→0≤s3)∧(3 < k→0≤s4)∧Blk wr b1 #[.slice A1 l1 n1,.slice A2 l2 n2,.string c1,.string c2,.string c3,.string c4] 32∧Blk wr g48 #[.string c1,.string c2,.string c3,.string c4] 28∧Below w.heap.size w wr) (fun iv _=>4 - (intOf iv).toNat)
     case atStart=>exact ⟨0,Nat.zero_le _,rfl,fun h=>absurd h (by decide),fun h=>absurd h (by decide),fun h=>absurd h (by decide),fun h=>absurd h (by decide),K1.out,K48.out,B.out⟩
     case round =>
      obtain ⟨k,hk,rfl,hr1,hr2,hr3,hr4,hk1,hk48,hB⟩:=hrel
      clear K1 K48 B
      have K1:=Lib.hid hk1
      have K48:=Lib.hid hk48
      have B:=Lib.hid hB
      have HR:=Lib.hid (And.intro hr1 (And.intro hr2 (And.intro hr3 hr4)))
      clear hk1 hk48 hB hr1 hr2 hr3 hr4
      rcases (show k=0 ∨ k=1 ∨ k=2 ∨ k=3 ∨ k=4 by omega) with rfl | rfl | rfl | rfl | rfl
      ·have y0:=K48.out.at_ 0 _ rfl
       by_cases r:s1 < 0
       ·have g0:decide (s1 < 0)=true:=decide_eq_true r
        have e:Z=3:=by rw [HZC.out,if_pos (.inl r)]
        subst e
        clear HZC r
        go_wp2_with (first
         | (go_at_call 43; with_reducible refine (HS1.out _ B.out).mono ?_; rintro e wx ⟨rfl,q⟩; replace K1:=Lib.hid (K1.out.below q); replace K48:=Lib.hid (K48.out.below q); replace B:=Lib.hid (B.out.trans (q.mono B.out.size)); clear q)
         | fail "arm")
        go_ret
        exact ⟨rfl,B.out⟩
       ·have g0:decide (s1 < 0)=false:=decide_eq_false r
        have RN:=Lib.hid (Int.not_lt.1 r)
        clear r
        go_wp2_with (first
         | (go_at_call 43; with_reducible refine (HS1.out _ B.out).mono ?_; rintro e wx ⟨rfl,q⟩; replace K1:=Lib.hid (K1.out.below q); replace K48:=Lib.hid (K48.out.below q); replace B:=Lib.hid (B.out.trans (q.mono B.out.size)); clear q)
         | fail "arm")
        exact ⟨⟨1,by omega,rfl,fun _=>RN.out,fun h=>absurd h (by decide),fun h=>absurd h (by decide),fun h=>absurd h (by decide),K1.out,K48.out,B.out⟩,by decide⟩
      ·have y0:=K48.out.at_ 1 _ rfl
       by_cases r:s2 < 0
       ·have g0:decide (s2 < 0)=true:=decide_eq_true r
        have e:Z=3:=by rw [HZC.out,if_pos (.inr (.inl r))]
        subst e
        clear HZC r
        go_wp2_with (first
         | (go_at_call 43; with_reducible refine (HS2.out _ B.out).mono ?_; rintro e wx ⟨rfl,q⟩; replace K1:=Lib.hid (K1.out.below q); replace K48:=Lib.hid (K48.out.below q); replace B:=Lib.hid (B.out.trans (q.mono B.out.size)); clear q)
         | fail "arm")
        go_ret
        exact ⟨rfl,B.out⟩
       ·have g0:decide (s2 < 0)=false:=decide_eq_false r
        have RN:=Lib.hid (Int.not_lt.1 r)
        clear r
        go_wp2_with (first
         | (go_at_call 43; with_reducible refine (HS2.out _ B.out).mono ?_; rintro e wx ⟨rfl,q⟩; replace K1:=Lib.hid (K1.out.below q); replace K48:=Lib.hid (K48.out.below q); replace B:=Lib.hid (B.out.trans (q.mono B.out.size)); clear q)
         | fail "arm")
        exact ⟨⟨2,by omega,rfl,fun _=>HR.out.1 (by decide),fun _=>RN.out,fun h=>absurd h (by decide),fun h=>absurd h (by decide),K1.out,K48.out,B.out⟩,by decide⟩
      ·have y0:=K48.out.at_ 2 _ rfl
       by_cases r:s3 < 0
       ·have g0:decide (s3 < 0)=true:=decide_eq_true r
        have e:Z=3:=by rw [HZC.out,if_pos (.inr (.inr (.inl r)))]
        subst e
        clear HZC r
        go_wp2_with (first
         | (go_at_call 43; with_reducible refine (HS3.out _ B.out).mono ?_; rintro e wx ⟨rfl,q⟩; replace K1:=Lib.hid (K1.out.below q); replace K48:=Lib.hid (K48.out.below q); replace B:=Lib.hid (B.out.trans (q.mono B.out.size)); clear q)
         | fail "arm")
        go_ret
        exact ⟨rfl,B.out⟩
       ·have g0:decide (s3 < 0)=false:=decide_eq_false r
        have RN:=Lib.hid (Int.not_lt.1 r)
        clear r
        go_wp2_with (first
         | (go_at_call 43; with_reducible refine (HS3.out _ B.out).mono ?_; rintro e wx ⟨rfl,q⟩; replace K1:=Lib.hid (K1.out.below q); replace K48:=Lib.hid (K48.out.below q); replace B:=Lib.hid (B.out.trans (q.mono B.out.size)); clear q)
         | fail "arm")
        exact ⟨⟨3,by omega,rfl,fun _=>HR.out.1 (by decide),fun _=>HR.out.2.1 (by decide),fun _=>RN.out,fun h=>absurd h (by decide),K1.out,K48.out,B.out⟩,by decide⟩
      ·have y0:=K48.out.at_ 3 _ rfl
       by_cases r:s4 < 0
       ·have g0:decide (s4 < 0)=true:=decide_eq_true r
        have e:Z=3:=by rw [HZC.out,if_pos (.inr (.inr (.inr r)))]
        subst e
        clear HZC r
        go_wp2_with (first
         | (go_at_call 43; with_reducible refine (HS4.out _ B.out).mono ?_; rintro e wx ⟨rfl,q⟩; replace K1:=Lib.hid (K1.out.below q); replace K48:=Lib.hid (K48.out.below q); replace B:=Lib.hid (B.out.trans (q.mono B.out.size)); clear q)
         | fail "arm")
        go_ret
        exact ⟨rfl,B.out⟩
       ·have g0:decide (s4 < 0)=false:=decide_eq_false r
        have RN:=Lib.hid (Int.not_lt.1 r)
        clear r
        go_wp2_with (first
         | (go_at_call 43; with_reducible refine (HS4.out _ B.out).mono ?_; rintro e wx ⟨rfl,q⟩; replace K1:=Lib.hid (K1.out.below q); replace K48:=Lib.hid (K48.out.below q); replace B:=Lib.hid (B.out.trans (q.mono B.out.size)); clear q)
         | fail "arm")
        exact ⟨⟨4,by omega,rfl,fun _=>HR.out.1 (by decide),fun _=>HR.out.2.1 (by decide),fun _=>HR.out.2.2.1 (by decide),fun _=>RN.out,K1.out,K48.out,B.out⟩,by decide⟩
      ·have e:Z=0:=by
        rw [HZC.out,if_neg (fun e=>by
         rcases e with e | e | e | e
         ·exact absurd e (Int.not_lt.2 (HR.out.1 (by decide)))
         ·exact absurd e (Int.not_lt.2 (HR.out.2.1 (by decide)))
         ·exact absurd e (Int.not_lt.2 (HR.out.2.2.1 (by decide)))
         ·exact absurd e (Int.not_lt.2 (HR.out.2.2.2 (by decide))))]
       subst e
       clear HZC HR
       go_wp2
       go_ret
       exact ⟨rfl,B.out⟩
noncomputable def chkZ (q:XQ):Int:=chkT (logZ q.L) (logZ q.R) q.L.length q.R.length (cosT q.c1 q.c2 q.c3 q.c4)
theorem chk_any (q:XQ) (sh:ShQ q) (sl sr:Value) (w:World) (he:Env w) (hq:XAt w sl sr q):Ret Tryz.prog w 44 #[q.pt sl sr] (.int .i64 (chkZ q)):=fun W hW=>by
 have HL:Ret Tryz.prog W 41 #[sl] (.int .i64 (logZ q.L)):=fun V hV=>log_any q.L sh.l sl V ((he.below hW).below hV) ((hq.l.below hW).below hV)
 have HR:Ret Tryz.prog W 41 #[sr] (.int .i64 (logZ q.R)):=fun V hV=>log_any q.R sh.r sr V ((he.below hW).below hV) ((hq.r.below hW).below hV)
 obtain ⟨A1,n1,rfl,_⟩:=hq.l
 obtain ⟨A2,n2,rfl,_⟩:=hq.r
 exact check_walk A1 A2 q.L.length q.R.length n1 n2 q.c1 q.c2 q.c3 q.c4 sh.c1 sh.c2 sh.c3 sh.c4 _ _ W (he.below hW) HL HR

end Go.Proofs.YthhkmihjnnfpgaaGreatDoor

/- A question that Check refuses: what each query answers. -/
namespace Go.Proofs.YthhkmihjnnfpgaaGreatDoor
set_option linter.all false
open Go.RowKit

set_option maxRecDepth 100000 in
set_option maxHeartbeats 8000000 in
theorem cost_bad (A1 A2:Option Addr) (l1 l2 n1 n2:Nat) (c1 c2 c3 c4:ByteArray) (z:Int) (hz:(z == 0)=false) (w:World) (hc:Ret Tryz.prog w 44 #[.agg #[.slice A1 l1 n1,.slice A2 l2 n2,.string c1,.string c2,.string c3,.string c4]] (.int .i64 z)) :
  Ret Tryz.prog w 23 #[.agg #[.slice A1 l1 n1,.slice A2 l2 n2,.string c1,.string c2,.string c3,.string c4],.agg #[.int .i64 0,.int .i64 0,.int .i64 0]] (.tuple #[.string ⟨#[]⟩,.int .i64 z]):=fun W hW=>by
 have HC:=Lib.hid (fun V (hV:Below w.heap.size w V)=>hc V hV)
 have B0:=Lib.hid hW
 have B:=Lib.hid (Below.refl W.heap.size W)
 clear hW hc
 go_enter Tryz.func23,Tryz.ntmps23
 go_upto_region 1 with (fail)
 have k0:=Blk.fresh W #[.slice A1 l1 n1,.slice A2 l2 n2,.string c1,.string c2,.string c3,.string c4] 32
 have q0:=below_new W (.cells #[.slice A1 l1 n1,.slice A2 l2 n2,.string c1,.string c2,.string c3,.string c4] 32)
 have s0:(W.alloc (.cells #[.slice A1 l1 n1,.slice A2 l2 n2,.string c1,.string c2,.string c3,.string c4] 32)).heap.size=W.heap.size + 1:=by simp
 generalize (W.alloc (.cells #[.slice A1 l1 n1,.slice A2 l2 n2,.string c1,.string c2,.string c3,.string c4] 32))=W0 at *
 have k1:=Blk.fresh W0 #[.int .i64 0,.int .i64 0,.int .i64 0] 56
 have q1:=below_new W0 (.cells #[.int .i64 0,.int .i64 0,.int .i64 0] 56)
 have s1:(W0.alloc (.cells #[.int .i64 0,.int .i64 0,.int .i64 0] 56)).heap.size=W0.heap.size + 1:=by simp
 generalize (W0.alloc (.cells #[.int .i64 0,.int .i64 0,.int .i64 0] 56))=W1 at *
 replace k0:=k0.below q1
 replace B:=Lib.hid (B.out.trans q0)
 replace B:=Lib.hid (B.out.trans (q1.mono B.out.size))
 rw [s0] at k1
 have BA:=Lib.hid (B0.out.trans (B.out.mono B0.out.size))
 have y0:=k0.at_ 0 _ rfl
 have y1:=k0.at_ 1 _ rfl
 have y2:=k0.at_ 2 _ rfl
 have y3:=k0.at_ 3 _ rfl
 have y4:=k0.at_ 4 _ rfl
 have y5:=k0.at_ 5 _ rfl
 clear q0
 go_wp2_with (first
  | (go_at_call 44; with_reducible refine (HC.out _ BA.out).mono ?_; rintro e wx ⟨rfl,q⟩; replace B:=Lib.hid (B.out.trans (q.mono B.out.size)); clear q)
  | fail "arm")
 go_ret2
 exact ⟨rfl,B.out⟩
set_option maxRecDepth 100000 in
set_option maxHeartbeats 8000000 in
theorem qtotal_bad (A1 A2:Option Addr) (l1 l2 n1 n2:Nat) (c1 c2 c3 c4:ByteArray) (z:Int) (hz:(z == 0)=false) (w:World) (v:Value) (hc:Ret Tryz.prog w 44 #[.agg #[.slice A1 l1 n1,.slice A2 l2 n2,.string c1,.string c2,.string c3,.string c4]] (.int .i64 z)) :
  Ret Tryz.prog w 66 #[.agg #[.slice A1 l1 n1,.slice A2 l2 n2,.string c1,.string c2,.string c3,.string c4],v] (.tuple #[.string ⟨#[]⟩,.int .i64 z]):=fun W hW=>by
 have HC:=Lib.hid (fun V (hV:Below w.heap.size w V)=>hc V hV)
 have B0:=Lib.hid hW
 have B:=Lib.hid (Below.refl W.heap.size W)
 clear hW hc
 go_enter Tryz.func66,Tryz.ntmps66
 go_upto_region 1 with (fail)
 have k0:=Blk.fresh W #[.slice A1 l1 n1,.slice A2 l2 n2,.string c1,.string c2,.string c3,.string c4] 32
 have q0:=below_new W (.cells #[.slice A1 l1 n1,.slice A2 l2 n2,.string c1,.string c2,.string c3,.string c4] 32)
 have s0:(W.alloc (.cells #[.slice A1 l1 n1,.slice A2 l2 n2,.string c1,.string c2,.string c3,.string c4] 32)).heap.size=W.heap.size + 1:=by simp
 generalize (W.alloc (.cells #[.slice A1 l1 n1,.slice A2 l2 n2,.string c1,.string c2,.string c3,.string c4] 32))=W0 at *
 replace B:=Lib.hid (B.out.trans q0)
 have BA:=Lib.hid (B0.out.trans (B.out.mono B0.out.size))
 have y0:=k0.at_ 0 _ rfl
 have y1:=k0.at_ 1 _ rfl
 have y2:=k0.at_ 2 _ rfl
 have y3:=k0.at_ 3 _ rfl
 have y4:=k0.at_ 4 _ rfl
 have y5:=k0.at_ 5 _ rfl
 clear q0
 go_wp2_with (first
  | (go_at_call 44; with_reducible refine (HC.out _ BA.out).mono ?_; rintro e wx ⟨rfl,q⟩; replace B:=Lib.hid (B.out.trans (q.mono B.out.size)); clear q)
  | fail "arm")
 go_ret2
 exact ⟨rfl,B.out⟩
set_option maxRecDepth 100000 in
set_option maxHeartbeats 8000000 in
theorem total_bad (A1 A2:Option Addr) (l1 l2 n1 n2:Nat) (c1 c2 c3 c4:ByteArray) (z:Int) (hz:(z == 0)=false) (w:World) (hc:Ret Tryz.prog w 66 #[.agg #[.slice A1 l1 n1,.slice A2 l2 n2,.string c1,.string c2,.string c3,.string c4],.slice none 0 0] (.tuple #[.string ⟨#[]⟩,.int .i64 z])) :
  Ret Tryz.prog w 25 #[.agg #[.slice A1 l1 n1,.slice A2 l2 n2,.string c1,.string c2,.string c3,.string c4],.slice none 0 0] (.tuple #[.string ⟨#[]⟩,.int .i64 z]):=fun W hW=>by
 have HC:=Lib.hid (fun V (hV:Below w.heap.size w V)=>hc V hV)
 have B0:=Lib.hid hW
 have B:=Lib.hid (Below.refl W.heap.size W)
 clear hW hc
 go_enter Tryz.func25,Tryz.ntmps25
 go_upto_region 1 with (fail)
 have k0:=Blk.fresh W #[.slice A1 l1 n1,.slice A2 l2 n2,.string c1,.string c2,.string c3,.string c4] 32
 have q0:=below_new W (.cells #[.slice A1 l1 n1,.slice A2 l2 n2,.string c1,.string c2,.string c3,.string c4] 32)
 have s0:(W.alloc (.cells #[.slice A1 l1 n1,.slice A2 l2 n2,.string c1,.string c2,.string c3,.string c4] 32)).heap.size=W.heap.size + 1:=by simp
 generalize (W.alloc (.cells #[.slice A1 l1 n1,.slice A2 l2 n2,.string c1,.string c2,.string c3,.string c4] 32))=W0 at *
 replace B:=Lib.hid (B.out.trans q0)
 have BA:=Lib.hid (B0.out.trans (B.out.mono B0.out.size))
 have y0:=k0.at_ 0 _ rfl
 have y1:=k0.at_ 1 _ rfl
 have y2:=k0.at_ 2 _ rfl
 have y3:=k0.at_ 3 _ rfl
 have y4:=k0.at_ 4 _ rfl
 have y5:=k0.at_ 5 _ rfl
 clear q0
 go_wp2_with (first
  | (go_at_call 66; with_reducible refine (HC.out _ BA.out).mono ?_; rintro e wx ⟨rfl,q⟩; replace B:=Lib.hid (B.out.trans (q.mono B.out.size)); clear q)
  | fail "arm")
 go_ret2
 exact ⟨rfl,B.out⟩
set_option maxRecDepth 100000 in
set_option maxHeartbeats 8000000 in
theorem partners_bad (A1 A2:Option Addr) (l1 l2 n1 n2:Nat) (c1 c2 c3 c4:ByteArray) (z:Int) (hz:(z == 0)=false) (w:World) (hc:Ret Tryz.prog w 66 #[.agg #[.slice A1 l1 n1,.slice A2 l2 n2,.string c1,.string c2,.string c3,.string c4],.slice none 0 0] (.tuple #[.string ⟨#[]⟩,.int .i64 z])) :
  Ret Tryz.prog w 26 #[.agg #[.slice A1 l1 n1,.slice A2 l2 n2,.string c1,.string c2,.string c3,.string c4],.slice none 0 0] (.tuple #[.slice none 0 0,.int .i64 z]):=fun W hW=>by
 have HC:=Lib.hid (fun V (hV:Below w.heap.size w V)=>hc V hV)
 have B0:=Lib.hid hW
 have B:=Lib.hid (Below.refl W.heap.size W)
 clear hW hc
 go_enter Tryz.func26,Tryz.ntmps26
 go_upto_region 1 with (fail)
 have k0:=Blk.fresh W #[.slice A1 l1 n1,.slice A2 l2 n2,.string c1,.string c2,.string c3,.string c4] 32
 have q0:=below_new W (.cells #[.slice A1 l1 n1,.slice A2 l2 n2,.string c1,.string c2,.string c3,.string c4] 32)
 have s0:(W.alloc (.cells #[.slice A1 l1 n1,.slice A2 l2 n2,.string c1,.string c2,.string c3,.string c4] 32)).heap.size=W.heap.size + 1:=by simp
 generalize (W.alloc (.cells #[.slice A1 l1 n1,.slice A2 l2 n2,.string c1,.string c2,.string c3,.string c4] 32))=W0 at *
 replace B:=Lib.hid (B.out.trans q0)
 have BA:=Lib.hid (B0.out.trans (B.out.mono B0.out.size))
 have y0:=k0.at_ 0 _ rfl
 have y1:=k0.at_ 1 _ rfl
 have y2:=k0.at_ 2 _ rfl
 have y3:=k0.at_ 3 _ rfl
 have y4:=k0.at_ 4 _ rfl
 have y5:=k0.at_ 5 _ rfl
 clear q0
 go_wp2_with (first
  | (go_at_call 66; with_reducible refine (HC.out _ BA.out).mono ?_; rintro e wx ⟨rfl,q⟩; replace B:=Lib.hid (B.out.trans (q.mono B.out.size)); clear q)
  | fail "arm")
 go_ret2
 exact ⟨rfl,B.out⟩
set_option maxRecDepth 100000 in
set_option maxHeartbeats 8000000 in
theorem all_bad (A1 A2:Option Addr) (l1 l2 n1 n2:Nat) (c1 c2 c3 c4:ByteArray) (z:Int) (hz:(z == 0)=false) (w:World) (hc:Ret Tryz.prog w 44 #[.agg #[.slice A1 l1 n1,.slice A2 l2 n2,.string c1,.string c2,.string c3,.string c4]] (.int .i64 z)) :
  Ret Tryz.prog w 28 #[.agg #[.slice A1 l1 n1,.slice A2 l2 n2,.string c1,.string c2,.string c3,.string c4],.int .i64 (-1)] (.tuple #[.slice none 0 0,.int .i64 z]):=fun W hW=>by
 have HC:=Lib.hid (fun V (hV:Below w.heap.size w V)=>hc V hV)
 have B0:=Lib.hid hW
 have B:=Lib.hid (Below.refl W.heap.size W)
 clear hW hc
 go_enter Tryz.func28,Tryz.ntmps28
 go_upto_region 1 with (fail)
 have k0:=Blk.fresh W #[.slice A1 l1 n1,.slice A2 l2 n2,.string c1,.string c2,.string c3,.string c4] 32
 have q0:=below_new W (.cells #[.slice A1 l1 n1,.slice A2 l2 n2,.string c1,.string c2,.string c3,.string c4] 32)
 have s0:(W.alloc (.cells #[.slice A1 l1 n1,.slice A2 l2 n2,.string c1,.string c2,.string c3,.string c4] 32)).heap.size=W.heap.size + 1:=by simp
 generalize (W.alloc (.cells #[.slice A1 l1 n1,.slice A2 l2 n2,.string c1,.string c2,.string c3,.string c4] 32))=W0 at *
 have k1:=Blk.fresh W0 #[.int .i64 (-1)] 3
 have q1:=below_new W0 (.cells #[.int .i64 (-1)] 3)
 have s1:(W0.alloc (.cells #[.int .i64 (-1)] 3)).heap.size=W0.heap.size + 1:=by simp
 generalize (W0.alloc (.cells #[.int .i64 (-1)] 3))=W1 at *
 replace k0:=k0.below q1
 replace B:=Lib.hid (B.out.trans q0)
 replace B:=Lib.hid (B.out.trans (q1.mono B.out.size))
 rw [s0] at k1
 have BA:=Lib.hid (B0.out.trans (B.out.mono B0.out.size))
 have y0:=k0.at_ 0 _ rfl
 have y1:=k0.at_ 1 _ rfl
 have y2:=k0.at_ 2 _ rfl
 have y3:=k0.at_ 3 _ rfl
 have y4:=k0.at_ 4 _ rfl
 have y5:=k0.at_ 5 _ rfl
 clear q0
 go_wp2_with (first
  | (go_at_call 44; with_reducible refine (HC.out _ BA.out).mono ?_; rintro e wx ⟨rfl,q⟩; replace B:=Lib.hid (B.out.trans (q.mono B.out.size)); clear q)
  | fail "arm")
 go_ret2
 exact ⟨rfl,B.out⟩
set_option maxRecDepth 100000 in
set_option maxHeartbeats 8000000 in
theorem count_bad (A1 A2:Option Addr) (l1 l2 n1 n2:Nat) (c1 c2 c3 c4:ByteArray) (z:Int) (hz:(z == 0)=false) (w:World) (hc:Ret Tryz.prog w 44 #[.agg #[.slice A1 l1 n1,.slice A2 l2 n2,.string c1,.string c2,.string c3,.string c4]] (.int .i64 z)) :
  Ret Tryz.prog w 16 #[.agg #[.slice A1 l1 n1,.slice A2 l2 n2,.string c1,.string c2,.string c3,.string c4]] (.tuple #[.string ⟨#[]⟩,.int .i64 z]):=fun W hW=>by
 have HC:=Lib.hid (fun V (hV:Below w.heap.size w V)=>hc V hV)
 have B0:=Lib.hid hW
 have B:=Lib.hid (Below.refl W.heap.size W)
 clear hW hc
 go_enter Tryz.func16,Tryz.ntmps16
 go_upto_region 1 with (fail)
 have k0:=Blk.fresh W #[.slice A1 l1 n1,.slice A2 l2 n2,.string c1,.string c2,.string c3,.string c4] 32
 have q0:=below_new W (.cells #[.slice A1 l1 n1,.slice A2 l2 n2,.string c1,.string c2,.string c3,.string c4] 32)
 have s0:(W.alloc (.cells #[.slice A1 l1 n1,.slice A2 l2 n2,.string c1,.string c2,.string c3,.string c4] 32)).heap.size=W.heap.size + 1:=by simp
 generalize (W.alloc (.cells #[.slice A1 l1 n1,.slice A2 l2 n2,.string c1,.string c2,.string c3,.string c4] 32))=W0 at *
 replace B:=Lib.hid (B.out.trans q0)
 have BA:=Lib.hid (B0.out.trans (B.out.mono B0.out.size))
 have y0:=k0.at_ 0 _ rfl
 have y1:=k0.at_ 1 _ rfl
 have y2:=k0.at_ 2 _ rfl
 have y3:=k0.at_ 3 _ rfl
 have y4:=k0.at_ 4 _ rfl
 have y5:=k0.at_ 5 _ rfl
 clear q0
 go_wp2_with (first
  | (go_at_call 44; with_reducible refine (HC.out _ BA.out).mono ?_; rintro e wx ⟨rfl,q⟩; replace B:=Lib.hid (B.out.trans (q.mono B.out.size)); clear q)
  | fail "arm")
 go_ret2
 exact ⟨rfl,B.out⟩
set_option maxRecDepth 100000 in
set_option maxHeartbeats 8000000 in
theorem graph_bad (A1 A2:Option Addr) (l1 l2 n1 n2:Nat) (c1 c2 c3 c4:ByteArray) (z:Int) (hz:(z == 0)=false) (w:World) (hc:Ret Tryz.prog w 44 #[.agg #[.slice A1 l1 n1,.slice A2 l2 n2,.string c1,.string c2,.string c3,.string c4]] (.int .i64 z)) :
  Ret Tryz.prog w 30 #[.agg #[.slice A1 l1 n1,.slice A2 l2 n2,.string c1,.string c2,.string c3,.string c4]] (.tuple #[.slice none 0 0,.int .i64 z]):=fun W hW=>by
 have HC:=Lib.hid (fun V (hV:Below w.heap.size w V)=>hc V hV)
 have B0:=Lib.hid hW
 have B:=Lib.hid (Below.refl W.heap.size W)
 clear hW hc
 go_enter Tryz.func30,Tryz.ntmps30
 go_upto_region 1 with (fail)
 have k0:=Blk.fresh W #[.slice A1 l1 n1,.slice A2 l2 n2,.string c1,.string c2,.string c3,.string c4] 32
 have q0:=below_new W (.cells #[.slice A1 l1 n1,.slice A2 l2 n2,.string c1,.string c2,.string c3,.string c4] 32)
 have s0:(W.alloc (.cells #[.slice A1 l1 n1,.slice A2 l2 n2,.string c1,.string c2,.string c3,.string c4] 32)).heap.size=W.heap.size + 1:=by simp
 generalize (W.alloc (.cells #[.slice A1 l1 n1,.slice A2 l2 n2,.string c1,.string c2,.string c3,.string c4] 32))=W0 at *
 replace B:=Lib.hid (B.out.trans q0)
 have BA:=Lib.hid (B0.out.trans (B.out.mono B0.out.size))
 have y0:=k0.at_ 0 _ rfl
 have y1:=k0.at_ 1 _ rfl
 have y2:=k0.at_ 2 _ rfl
 have y3:=k0.at_ 3 _ rfl
 have y4:=k0.at_ 4 _ rfl
 have y5:=k0.at_ 5 _ rfl
 clear q0
 go_wp2_with (first
  | (go_at_call 44; with_reducible refine (HC.out _ BA.out).mono ?_; rintro e wx ⟨rfl,q⟩; replace B:=Lib.hid (B.out.trans (q.mono B.out.size)); clear q)
  | fail "arm")
 go_ret2
 exact ⟨rfl,B.out⟩
set_option maxRecDepth 100000 in
set_option maxHeartbeats 8000000 in
theorem potentials_bad (A1 A2:Option Addr) (l1 l2 n1 n2:Nat) (c1 c2 c3 c4:ByteArray) (z:Int) (hz:(z == 0)=false) (w:World) (hc:Ret Tryz.prog w 44 #[.agg #[.slice A1 l1 n1,.slice A2 l2 n2,.string c1,.string c2,.string c3,.string c4]] (.int .i64 z)) :
  Ret Tryz.prog w 34 #[.agg #[.slice A1 l1 n1,.slice A2 l2 n2,.string c1,.string c2,.string c3,.string c4]] (.tuple #[.slice none 0 0,.int .i64 z]):=fun W hW=>by
 have HC:=Lib.hid (fun V (hV:Below w.heap.size w V)=>hc V hV)
 have B0:=Lib.hid hW
 have B:=Lib.hid (Below.refl W.heap.size W)
 clear hW hc
 go_enter Tryz.func34,Tryz.ntmps34
 go_upto_region 1 with (fail)
 have k0:=Blk.fresh W #[.slice A1 l1 n1,.slice A2 l2 n2,.string c1,.string c2,.string c3,.string c4] 32
 have q0:=below_new W (.cells #[.slice A1 l1 n1,.slice A2 l2 n2,.string c1,.string c2,.string c3,.string c4] 32)
 have s0:(W.alloc (.cells #[.slice A1 l1 n1,.slice A2 l2 n2,.string c1,.string c2,.string c3,.string c4] 32)).heap.size=W.heap.size + 1:=by simp
 generalize (W.alloc (.cells #[.slice A1 l1 n1,.slice A2 l2 n2,.string c1,.string c2,.string c3,.string c4] 32))=W0 at *
 replace B:=Lib.hid (B.out.trans q0)
 have BA:=Lib.hid (B0.out.trans (B.out.mono B0.out.size))
 have y0:=k0.at_ 0 _ rfl
 have y1:=k0.at_ 1 _ rfl
 have y2:=k0.at_ 2 _ rfl
 have y3:=k0.at_ 3 _ rfl
 have y4:=k0.at_ 4 _ rfl
 have y5:=k0.at_ 5 _ rfl
 clear q0
 go_wp2_with (first
  | (go_at_call 44; with_reducible refine (HC.out _ BA.out).mono ?_; rintro e wx ⟨rfl,q⟩; replace B:=Lib.hid (B.out.trans (q.mono B.out.size)); clear q)
  | fail "arm")
 go_ret2
 exact ⟨rfl,B.out⟩
set_option maxRecDepth 100000 in
set_option maxHeartbeats 8000000 in
theorem best_bad (A1 A2:Option Addr) (l1 l2 n1 n2:Nat) (c1 c2 c3 c4:ByteArray) (z:Int) (hz:(z == 0)=false) (w:World) (hc:Ret Tryz.prog w 44 #[.agg #[.slice A1 l1 n1,.slice A2 l2 n2,.string c1,.string c2,.string c3,.string c4]] (.int .i64 z)) :
  Ret Tryz.prog w 15 #[.agg #[.slice A1 l1 n1,.slice A2 l2 n2,.string c1,.string c2,.string c3,.string c4]] (.tuple #[.agg #[.slice none 0 0,.string ⟨#[]⟩],.int .i64 z]):=fun W hW=>by
 have HC:=Lib.hid (fun V (hV:Below w.heap.size w V)=>hc V hV)
 have B0:=Lib.hid hW
 have B:=Lib.hid (Below.refl W.heap.size W)
 clear hW hc
 go_enter Tryz.func15,Tryz.ntmps15
 go_upto_region 1 with (fail)
 have k0:=Blk.fresh W #[.slice A1 l1 n1,.slice A2 l2 n2,.string c1,.string c2,.string c3,.string c4] 32
 have q0:=below_new W (.cells #[.slice A1 l1 n1,.slice A2 l2 n2,.string c1,.string c2,.string c3,.string c4] 32)
 have s0:(W.alloc (.cells #[.slice A1 l1 n1,.slice A2 l2 n2,.string c1,.string c2,.string c3,.string c4] 32)).heap.size=W.heap.size + 1:=by simp
 generalize (W.alloc (.cells #[.slice A1 l1 n1,.slice A2 l2 n2,.string c1,.string c2,.string c3,.string c4] 32))=W0 at *
 have k1:=Blk.fresh W0 #[.slice none 0 0,.string ⟨#[]⟩] 36
 have q1:=below_new W0 (.cells #[.slice none 0 0,.string ⟨#[]⟩] 36)
 have s1:(W0.alloc (.cells #[.slice none 0 0,.string ⟨#[]⟩] 36)).heap.size=W0.heap.size + 1:=by simp
 generalize (W0.alloc (.cells #[.slice none 0 0,.string ⟨#[]⟩] 36))=W1 at *
 replace k0:=k0.below q1
 replace B:=Lib.hid (B.out.trans q0)
 replace B:=Lib.hid (B.out.trans (q1.mono B.out.size))
 rw [s0] at k1
 have BA:=Lib.hid (B0.out.trans (B.out.mono B0.out.size))
 have y0:=k0.at_ 0 _ rfl
 have y1:=k0.at_ 1 _ rfl
 have y2:=k0.at_ 2 _ rfl
 have y3:=k0.at_ 3 _ rfl
 have y4:=k0.at_ 4 _ rfl
 have y5:=k0.at_ 5 _ rfl
 clear q0
 obtain ⟨b1,hb1⟩:∃ b,W.heap.size + 1=b:=⟨_,rfl⟩
 have k1':=k1
 rw [hb1] at k1' ⊢
 have KR:=Lib.hid k1'
 have HB1:=Lib.hid hb1
 clear k1 k1' hb1 q1 s0 s1
 go_wp2_with (first
  | (go_at_call 44; with_reducible refine (HC.out _ BA.out).mono ?_; rintro e wx ⟨rfl,q⟩; replace B:=Lib.hid (B.out.trans (q.mono B.out.size)); replace KR:=Lib.hid (KR.out.below q); clear q; have r0:=KR.out.at_ 0 _ rfl; have r1:=KR.out.at_ 1 _ rfl; have f0:=KR.out.free 0; have f1:=KR.out.free 1)
  | fail "arm")
 have w1:=Wrote.set KR.out 0 (.slice none 0 0)
 have w2:=Wrote.set (KR.out.set 0 (.slice none 0 0)) 1 (.string ⟨#[]⟩)
 have hw:=w1.trans w2
 have hb:=HB1.out
 have bb2:=B.out.trans (hw.below.mono (by omega))
 have kR2:=(KR.out.set 0 (.slice none 0 0)).set 1 (.string ⟨#[]⟩)
 have e0:=kR2.at_ 0 _ rfl
 have e1:=kR2.at_ 1 _ rfl
 first
  | exact bodyPost_ret (by rw [results_cell_tmp Tryz.results15]; simp [go_sem,e0,e1]) rfl ⟨rfl,bb2⟩
  | skip
set_option maxRecDepth 100000 in
set_option maxHeartbeats 8000000 in
theorem verify_bad (A1 A2:Option Addr) (l1 l2 n1 n2:Nat) (c1 c2 c3 c4:ByteArray) (z:Int) (hz:(z == 0)=false) (w:World) (hc:Ret Tryz.prog w 66 #[.agg #[.slice A1 l1 n1,.slice A2 l2 n2,.string c1,.string c2,.string c3,.string c4],.slice none 0 0] (.tuple #[.string ⟨#[]⟩,.int .i64 z])) :
  Ret Tryz.prog w 35 #[.agg #[.slice A1 l1 n1,.slice A2 l2 n2,.string c1,.string c2,.string c3,.string c4],.agg #[.slice none 0 0,.string ⟨#[]⟩],.slice none 0 0] (.int .i64 z):=fun W hW=>by
 have HC:=Lib.hid (fun V (hV:Below w.heap.size w V)=>hc V hV)
 have B0:=Lib.hid hW
 have B:=Lib.hid (Below.refl W.heap.size W)
 clear hW hc
 go_enter Tryz.func35,Tryz.ntmps35
 go_upto_region 1 with (fail)
 have k0:=Blk.fresh W #[.slice A1 l1 n1,.slice A2 l2 n2,.string c1,.string c2,.string c3,.string c4] 32
 have q0:=below_new W (.cells #[.slice A1 l1 n1,.slice A2 l2 n2,.string c1,.string c2,.string c3,.string c4] 32)
 have s0:(W.alloc (.cells #[.slice A1 l1 n1,.slice A2 l2 n2,.string c1,.string c2,.string c3,.string c4] 32)).heap.size=W.heap.size + 1:=by simp
 generalize (W.alloc (.cells #[.slice A1 l1 n1,.slice A2 l2 n2,.string c1,.string c2,.string c3,.string c4] 32))=W0 at *
 have k1:=Blk.fresh W0 #[.slice none 0 0,.string ⟨#[]⟩] 36
 have q1:=below_new W0 (.cells #[.slice none 0 0,.string ⟨#[]⟩] 36)
 have s1:(W0.alloc (.cells #[.slice none 0 0,.string ⟨#[]⟩] 36)).heap.size=W0.heap.size + 1:=by simp
 generalize (W0.alloc (.cells #[.slice none 0 0,.string ⟨#[]⟩] 36))=W1 at *
 replace k0:=k0.below q1
 have k2:=Blk.fresh W1 #[.slice none 0 0] 44
 have q2:=below_new W1 (.cells #[.slice none 0 0] 44)
 have s2:(W1.alloc (.cells #[.slice none 0 0] 44)).heap.size=W1.heap.size + 1:=by simp
 generalize (W1.alloc (.cells #[.slice none 0 0] 44))=W2 at *
 replace k0:=k0.below q2
 replace k1:=k1.below q2
 have k3:=Blk.fresh W2 #[.int .i64 0] 37
 have q3:=below_new W2 (.cells #[.int .i64 0] 37)
 have s3:(W2.alloc (.cells #[.int .i64 0] 37)).heap.size=W2.heap.size + 1:=by simp
 generalize (W2.alloc (.cells #[.int .i64 0] 37))=W3 at *
 replace k0:=k0.below q3
 replace k1:=k1.below q3
 replace k2:=k2.below q3
 replace B:=Lib.hid (B.out.trans q0)
 replace B:=Lib.hid (B.out.trans (q1.mono B.out.size))
 replace B:=Lib.hid (B.out.trans (q2.mono B.out.size))
 replace B:=Lib.hid (B.out.trans (q3.mono B.out.size))
 rw [s0] at k1
 rw [s1,s0] at k2
 rw [s2,s1,s0] at k3
 have BA:=Lib.hid (B0.out.trans (B.out.mono B0.out.size))
 have y0:=k0.at_ 0 _ rfl
 have y1:=k0.at_ 1 _ rfl
 have y2:=k0.at_ 2 _ rfl
 have y3:=k0.at_ 3 _ rfl
 have y4:=k0.at_ 4 _ rfl
 have y5:=k0.at_ 5 _ rfl
 clear q0
 obtain ⟨b6,hb6⟩:∃ b,W.heap.size + 1 + 1 + 1=b:=⟨_,rfl⟩
 have k3':=k3
 rw [hb6] at k3' ⊢
 have K6:=Lib.hid k3'
 have HB6:=Lib.hid hb6
 have a0:=k1.at_ 0 _ rfl
 have a1:=k1.at_ 1 _ rfl
 clear k1 k2 k3 k3' hb6 q1 q2 q3 s0 s1 s2 s3
 go_wp2_with (first
  | (go_at_call 66; with_reducible refine (HC.out _ BA.out).mono ?_; rintro e wx ⟨rfl,q⟩; replace B:=Lib.hid (B.out.trans (q.mono B.out.size)); replace K6:=Lib.hid (K6.out.below q); clear q; have g6:=K6.out.at_ 0 _ rfl; have f6:=K6.out.free 0)
  | fail "arm")
 have w1:=Wrote.set K6.out 0 (.int .i64 z)
 have hb:=HB6.out
 have bb2:=B.out.trans (w1.below.mono (by omega))
 have e0:=(K6.out.set 0 (.int .i64 z)).at_ 0 _ rfl
 first
  | exact bodyPost_ret (by simp [results,Tryz.results35,go_sem,e0]) rfl ⟨rfl,bb2⟩
  | skip

end Go.Proofs.YthhkmihjnnfpgaaGreatDoor

/- The law's short. -/
namespace Go.Proofs.YthhkmihjnnfpgaaGreatDoor
set_option linter.all false
open Go.RowKit

def LenS (n:Nat):Prop:=n≤6 ∨ (60≤n∧n≤62) ∨ (200≤n∧n≤202)
noncomputable def shortB (l:List TX):Bool:=@decide (ShT l∧LenS l.length) (Classical.propDecidable _)
theorem shortB_t {l:List TX} (h:ShT l∧LenS l.length):shortB l=true:=@decide_eq_true _ (Classical.propDecidable _) h
theorem shortB_f {l:List TX} (h:¬ (ShT l∧LenS l.length)):shortB l=false:=@decide_eq_false _ (Classical.propDecidable _) h
theorem shortB_of {l:List TX} (h:shortB l=true):ShT l:=(@of_decide_eq_true _ (Classical.propDecidable _) h).1
set_option maxRecDepth 100000 in
set_option maxHeartbeats 8000000 in
theorem lshort_any (l:List TX) (hl:l.length≤9223372036854775807) (v:Value) (w:World) (hv:SAt TX.cells 3 w v l) :
  Calls Tryz.prog 40 #[v] w fun e w'=>e=.returned (.bool (shortB l))∧Below w.heap.size w w':=by
 have B:=Lib.hid (Below.refl w.heap.size w)
 have HV:=Lib.hid hv
 obtain ⟨A,c,rfl,_⟩:=hv
 obtain ⟨bb,hbb⟩:∃ b,shortB l=b:=⟨_,rfl⟩
 rw [hbb]
 have HBB:=Lib.hid hbb
 clear hbb
 go_enter Tryz.func40,Tryz.ntmps40
 go_wp2
 go_loopw [3] (fun iv wr=>∃ k:Nat,k≤l.length∧iv=.int .i64 k∧(∀ j (hj:j < l.length),j < k→l[j].u.size≤20∧l[j].f.size≤20∧l[j].t.size≤20)∧wr=w) (fun iv _=>l.length - (intOf iv).toNat)
 case atStart=>exact ⟨0,Nat.zero_le _,rfl,fun j _ h=>absurd h (Nat.not_lt_zero j),rfl⟩
 case round =>
  obtain ⟨k,hk,rfl,hsh,rfl⟩:=hrel
  have SH:=Lib.hid hsh
  clear hsh
  by_cases hlt:k < l.length
  ·obtain ⟨dd,oo,c1,e1,_,q1⟩:=HV.out.cell k hlt
   injection e1 with e1 _ e1c
   subst e1 e1c
   have HX:Hid (∀ u f t:ByteArray,l[k].u=u→l[k].f=f→l[k].t=t→u.size≤20→f.size≤20→t.size≤20→∀ j (hj:j < l.length),j < k + 1→l[j].u.size≤20∧l[j].f.size≤20∧l[j].t.size≤20):=Lib.hid (by
    intro u f t h1 h2 h3 s1 s2 s3 j hj hjk
    by_cases e:j=k
    ·subst e
     rw [h1,h2,h3]
     exact ⟨s1,s2,s3⟩
    ·exact SH.out j hj (by omega))
   obtain ⟨u,hu⟩:∃ u,l[k].u=u:=⟨_,rfl⟩
   obtain ⟨f,hf⟩:∃ u,l[k].f=u:=⟨_,rfl⟩
   obtain ⟨t,ht⟩:∃ u,l[k].t=u:=⟨_,rfl⟩
   have x0:wr.cell? ⟨dd,oo + k * 3,none⟩=_:=q1 0 _ rfl
   have x1:wr.cell? ⟨dd,oo + k * 3 + 1,none⟩=_:=q1 1 _ rfl
   have x2:wr.cell? ⟨dd,oo + k * 3 + 2,none⟩=_:=q1 2 _ rfl
   rw [hu] at x0
   rw [hf] at x1
   rw [ht] at x2
   replace HX:=Lib.hid (HX.out u f t hu hf ht)
   clear q1
   have hi:(k:Int) < (l.length:Int):=by omega
   by_cases hus:u.size≤20
   case neg =>
    have gu:decide ((u.size:Int) > 20)=true:=decide_eq_true (by omega)
    have e:bb=false:=by
     rw [← HBB.out]
     exact shortB_f (fun hs=>hus (by have:=hs.1 l[k] (List.getElem_mem hlt); rw [hu,hf,ht] at this; exact this.1))
    subst e
    clear hus HX hu hf ht
    go_wp2
    go_ret
    exact ⟨rfl,B.out⟩
   have gu:decide ((u.size:Int) > 20)=false:=decide_eq_false (by omega)
   by_cases hfs:f.size≤20
   case neg =>
    have gf:decide ((f.size:Int) > 20)=true:=decide_eq_true (by omega)
    have e:bb=false:=by
     rw [← HBB.out]
     exact shortB_f (fun hs=>hfs (by have:=hs.1 l[k] (List.getElem_mem hlt); rw [hu,hf,ht] at this; exact this.2.1))
    subst e
    clear hfs HX hu hf ht
    go_wp2
    go_ret
    exact ⟨rfl,B.out⟩
   have gf:decide ((f.size:Int) > 20)=false:=decide_eq_false (by omega)
   by_cases hts:t.size≤20
   case neg =>
    have gt:decide ((t.size:Int) > 20)=true:=decide_eq_true (by omega)
    have e:bb=false:=by
     rw [← HBB.out]
     exact shortB_f (fun hs=>hts (by have:=hs.1 l[k] (List.getElem_mem hlt); rw [hu,hf,ht] at this; exact this.2.2))
    subst e
    clear hts HX hu hf ht
    go_wp2
    go_ret
    exact ⟨rfl,B.out⟩
   have gt:decide ((t.size:Int) > 20)=false:=decide_eq_false (by omega)
   replace HX:=Lib.hid (HX.out hus hfs hts)
   clear hus hfs hts hu hf ht
   go_wp2
   exact ⟨⟨k + 1,by omega,by go_num,HX.out,trivial⟩,by simp [intOf]; omega⟩
  ·have hkl:k=l.length:=by omega
   subst hkl
   have hi:¬ (l.length:Int) < (l.length:Int):=by omega
   have HS:Hid (ShT l):=Lib.hid (fun x hx=>by
    obtain ⟨j,hj,rfl⟩:=List.mem_iff_getElem.1 hx
    exact SH.out j hj hj)
   clear SH
   by_cases n1:l.length≤6
   case pos =>
    have e:bb=true:=by rw [← HBB.out]; exact shortB_t ⟨HS.out,by unfold LenS; omega⟩
    subst e
    have g1:decide ((l.length:Int)≤6)=true:=decide_eq_true (by omega)
    clear n1
    go_wp2
    go_ret
    exact ⟨rfl,B.out⟩
   have g1:decide ((l.length:Int)≤6)=false:=decide_eq_false (by omega)
   by_cases n2:60≤l.length
   case neg =>
    have e:bb=false:=by rw [← HBB.out]; exact shortB_f (fun h=>by have:=h.2; unfold LenS at this; omega)
    subst e
    have g2:decide ((l.length:Int) ≥ 60)=false:=decide_eq_false (by omega)
    have g4:decide ((l.length:Int) ≥ 200)=false:=decide_eq_false (by omega)
    clear n1 n2
    go_wp2
    go_ret
    exact ⟨rfl,B.out⟩
   have g2:decide ((l.length:Int) ≥ 60)=true:=decide_eq_true (by omega)
   by_cases n3:l.length≤62
   case pos =>
    have e:bb=true:=by rw [← HBB.out]; exact shortB_t ⟨HS.out,by unfold LenS; omega⟩
    subst e
    have g3:decide ((l.length:Int)≤62)=true:=decide_eq_true (by omega)
    clear n1 n2 n3
    go_wp2
    go_ret
    exact ⟨rfl,B.out⟩
   have g3:decide ((l.length:Int)≤62)=false:=decide_eq_false (by omega)
   by_cases n4:200≤l.length
   case neg =>
    have e:bb=false:=by rw [← HBB.out]; exact shortB_f (fun h=>by have:=h.2; unfold LenS at this; omega)
    subst e
    have g4:decide ((l.length:Int) ≥ 200)=false:=decide_eq_false (by omega)
    clear n1 n2 n3 n4
    go_wp2
    go_ret
    exact ⟨rfl,B.out⟩
   have g4:decide ((l.length:Int) ≥ 200)=true:=decide_eq_true (by omega)
   by_cases n5:l.length≤202
   case neg =>
    have e:bb=false:=by rw [← HBB.out]; exact shortB_f (fun h=>by have:=h.2; unfold LenS at this; omega)
    subst e
    have g5:decide ((l.length:Int)≤202)=false:=decide_eq_false (by omega)
    clear n1 n2 n3 n4 n5
    go_wp2
    go_ret
    exact ⟨rfl,B.out⟩
   have g5:decide ((l.length:Int)≤202)=true:=decide_eq_true (by omega)
   have e:bb=true:=by rw [← HBB.out]; exact shortB_t ⟨HS.out,by unfold LenS; omega⟩
   subst e
   clear n1 n2 n3 n4 n5
   go_wp2
   go_ret
   exact ⟨rfl,B.out⟩

end Go.Proofs.YthhkmihjnnfpgaaGreatDoor
