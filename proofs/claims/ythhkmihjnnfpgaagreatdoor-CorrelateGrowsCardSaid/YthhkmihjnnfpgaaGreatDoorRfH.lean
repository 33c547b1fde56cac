/- The walks of rational.Check at whatever text, and of rational.Small at a number. -/
import Derived.Test.YthhkmihjnnfpgaaGreatDoorRfF
import Derived.Lib.TrimByte
import Derived.Test.YthhkmihjnnfpgaaGreatDoorRatD
import Derived.BigQuiet
import Derived.Test.YthhkmihjnnfpgaaGreatDoorGRefA
import Derived.Test.YthhkmihjnnfpgaaGreatDoorProg
import Derived.Test.YthhkmihjnnfpgaaGreatDoorGPlain
import Derived.Test.YthhkmihjnnfpgaaGreatDoorGMag
import Derived.BigRegion
import Derived.Test.YthhkmihjnnfpgaaGreatDoorGInt
import Derived.Test.YthhkmihjnnfpgaaGreatDoorGRefB
import Derived.Test.YthhkmihjnnfpgaaGreatDoorGText
import Derived.Lib.ParseIntBTie
namespace Go.Proofs.YthhkmihjnnfpgaaGreatDoor
set_option linter.all false
open Go.RowKit

theorem drew_of {w w':World} (h:∃ n,w'=w.drewN n):Drew w w':=by
 obtain ⟨n,rfl⟩:=h
 exact Drew.of _ _

theorem cut_none (l:List UInt8) (h:∀ c ∈ l,c ≠ 47):Lib.cut l [47]=(l,[],false):=by
 unfold Lib.cut
 rw [index_none47 _ h]
 rfl

theorem cut_at (a b:List UInt8) (h:∀ c ∈ a,c ≠ 47):Lib.cut (a ++ 47 :: b) [47]=(a,b,true):=by
 unfold Lib.cut
 rw [index_at47 _ _ h,if_pos (by omega)]
 simp

theorem cutS_none (T:ByteArray) (w:World) (hm:MaxL w) (hs:T.size≤1000000) (h:∀ c ∈ T.data.toList,c ≠ 47) :
  Calls Tryz.prog 88 #[.string T,.string ⟨#[47]⟩] w fun e w'=>e=.returned (.tuple #[.string T,.string ⟨#[]⟩,.bool false])∧Drew w w':=by
 obtain ⟨m,hm⟩:=hm
 have hc:=Tryz.strings_Cut T ⟨#[47]⟩ m w (by omega) hm
 rw [show (⟨#[47]⟩:ByteArray).data.toList=[47] from rfl,cut_none _ h] at hc
 exact hc.mono fun e w' ⟨h1,h2⟩=>⟨h1,drew_of h2⟩

theorem cutS_at (T:ByteArray) (a b:List UInt8) (w:World) (hm:MaxL w) (hs:T.size≤1000000) (hT:T.data.toList=a ++ 47 :: b) (h:∀ c ∈ a,c ≠ 47) :
  Calls Tryz.prog 88 #[.string T,.string ⟨#[47]⟩] w fun e w'=>e=.returned (.tuple #[.string ⟨a.toArray⟩,.string ⟨b.toArray⟩,.bool true])∧Drew w w':=by
 obtain ⟨m,hm⟩:=hm
 have hc:=Tryz.strings_Cut T ⟨#[47]⟩ m w (by omega) hm
 rw [show (⟨#[47]⟩:ByteArray).data.toList=[47] from rfl,hT,cut_at _ _ h] at hc
 exact hc.mono fun e w' ⟨h1,h2⟩=>⟨h1,drew_of h2⟩

set_option maxRecDepth 100000 in
set_option maxHeartbeats 4000000 in
theorem rcheck_any (T:ByteArray) (w:World) (he:Env w) (hs:T.size≤1000000) :
  Calls Tryz.prog 72 #[.string T] w fun e w'=>e=.returned (.int .i64 (if rightQ T=true then 0 else 2))∧Below w.heap.size w w':=by
 have B:=Lib.hid (Below.refl w.heap.size w)
 rcases split47 T.data.toList with h | ⟨a,b,h,ha⟩
 ·have pa:=fun W (hW:Below w.heap.size w W)=>cutS_none T W (he.below hW).2 hs h
  have r1:=fun W=>check_any T W hs
  have PA:=Lib.hid pa
  have hq:=rightQ_whole T h
  clear pa h he
  cases hr:rightS T.data.toList with
  | false =>
   rw [rightQ_false (fun h=>by rw [hq.1 h] at hr; cases hr),if_neg (by simp)]
   rw [hr,if_neg (by simp)] at r1
   have R1:=Lib.hid r1
   clear hq hr r1
   go_enter Tryz.func72, Tryz.ntmps72
   go_wp2_with (first
    | (go_at_call 88; (with_reducible refine (PA.out _ B.out).mono ?_); rintro e wx ⟨rfl,q⟩; replace B:=Lib.hid (B.out.trans (q.below _)); clear q)
    | (go_at_call 53; (with_reducible refine (R1.out _).mono ?_); rintro e wx ⟨rfl,rfl⟩)
    | fail "arm")
   go_ret
   exact ⟨rfl,B.out⟩
  | true =>
   rw [rightQ_true (hq.2 hr),if_pos rfl]
   rw [hr,if_pos rfl] at r1
   have R1:=Lib.hid r1
   clear hq hr r1
   go_enter Tryz.func72, Tryz.ntmps72
   go_wp2_with (first
    | (go_at_call 88; (with_reducible refine (PA.out _ B.out).mono ?_); rintro e wx ⟨rfl,q⟩; replace B:=Lib.hid (B.out.trans (q.below _)); clear q)
    | (go_at_call 53; (with_reducible refine (R1.out _).mono ?_); rintro e wx ⟨rfl,rfl⟩)
    | fail "arm")
   go_ret
   exact ⟨rfl,B.out⟩
 ·have pa:=fun W (hW:Below w.heap.size w W)=>cutS_at T a b W (he.below hW).2 hs h ha
  have hlen:T.size=a.length + (1 + b.length):=by rw [Lib.size_eq,h,List.length_append,List.length_cons]; omega
  have r1:=fun W=>check_any ⟨a.toArray⟩ W (by show a.length≤1000000; omega)
  have r2:=fun W=>check_any ⟨b.toArray⟩ W (by show b.length≤1000000; omega)
  rw [show (⟨a.toArray⟩:ByteArray).data.toList=a from rfl] at r1
  rw [show (⟨b.toArray⟩:ByteArray).data.toList=b from rfl] at r2
  have hq:=rightQ_parts T a b h ha
  have PA:=Lib.hid pa
  clear pa h hs hlen
  cases hra:rightS a with
  | false =>
   rw [rightQ_false (fun h=>by
    obtain ⟨z,m,e1,e2,_⟩:=hq.1 h
    rw [(rightS_iff a).2 ⟨z,e1,e2⟩] at hra
    cases hra),if_neg (by simp)]
   rw [hra,if_neg (by simp)] at r1
   have R1:=Lib.hid r1
   clear hq hra ha r1 r2 he
   generalize (⟨a.toArray⟩:ByteArray)=CN at *
   generalize (⟨b.toArray⟩:ByteArray)=CD at *
   go_enter Tryz.func72, Tryz.ntmps72
   go_wp2_with (first
    | (go_at_call 88; (with_reducible refine (PA.out _ B.out).mono ?_); rintro e wx ⟨rfl,q⟩; replace B:=Lib.hid (B.out.trans (q.below _)); clear q)
    | (go_at_call_of 53 (Value.string CN); (with_reducible refine (R1.out _).mono ?_); rintro e wx ⟨rfl,rfl⟩)
    | fail "arm")
   go_ret
   exact ⟨rfl,B.out⟩
  | true =>
   rw [hra,if_pos rfl] at r1
   have R1:=Lib.hid r1
   cases hrb:rightS b with
   | false =>
    rw [rightQ_false (fun h=>by
     obtain ⟨z,m,_,_,e1,e2,_⟩:=hq.1 h
     rw [(rightS_iff b).2 ⟨m,e1,e2⟩] at hrb
     cases hrb),if_neg (by simp)]
    rw [hrb,if_neg (by simp)] at r2
    have R2:=Lib.hid r2
    clear hq hra hrb ha r1 r2 he
    generalize (⟨a.toArray⟩:ByteArray)=CN at *
    generalize (⟨b.toArray⟩:ByteArray)=CD at *
    go_enter Tryz.func72, Tryz.ntmps72
    go_wp2_with (first
     | (go_at_call 88; (with_reducible refine (PA.out _ B.out).mono ?_); rintro e wx ⟨rfl,q⟩; replace B:=Lib.hid (B.out.trans (q.below _)); clear q)
     | (go_at_call_of 53 (Value.string CN); (with_reducible refine (R1.out _).mono ?_); rintro e wx ⟨rfl,rfl⟩)
     | (go_at_call_of 53 (Value.string CD); (with_reducible refine (R2.out _).mono ?_); rintro e wx ⟨rfl,rfl⟩)
     | fail "arm")
    go_ret
    exact ⟨rfl,B.out⟩
   | true =>
    rw [hrb,if_pos rfl] at r2
    have R2:=Lib.hid r2
    obtain ⟨z,ez,lz⟩:=(rightS_iff a).1 hra
    obtain ⟨m,em,lm⟩:=(rightS_iff b).1 hrb
    have hq2:RightQ T ↔ 1 < m∧z ≠ 0∧Int.gcd z m=1:=by
     rw [hq]
     constructor
     ·rintro ⟨z',m',e1,_,e2,_,e3⟩
      have f1:z'=z:=itoa_inj (e1.symm.trans ez)
      have f2:m'=m:=itoa_inj (e2.symm.trans em)
      rw [f1,f2] at e3
      exact e3
     ·intro h
      exact ⟨z,m,ez,lz,em,lm,h⟩
    subst ez
    subst em
    rw [show (⟨(Lib.itoa z).toArray⟩:ByteArray)=canon z from rfl] at PA R1
    rw [show (⟨(Lib.itoa m).toArray⟩:ByteArray)=canon m from rfl] at PA R2
    have sz:(canon z).size≤201:=itoa_size lz
    have sm:(canon m).size≤201:=itoa_size lm
    have cm:=fun W=>compare_any m 1 W
    rw [k_1] at cm
    have gc:=fun W (hW:Below w.heap.size w W)=>gcd_any z m W (he.below hW).1 (by omega) (by omega)
    have CM:=Lib.hid cm
    have GC:=Lib.hid gc
    have hz0:=canon_beq0 z
    have hg1:=canon_beq1 ((Int.gcd z m:Nat):Int)
    clear cm gc hq hra hrb ha lz lm r1 r2 he
    by_cases hm:1 < m
    ·have t1:decide ((m - 1).sign≤0)=false:=by rw [Int.sign_eq_one_of_pos (by omega)]; rfl
     by_cases hz:z=0
     ·rw [rightQ_false (fun h=>(hq2.1 h).2.1 hz),if_neg (by simp)]
      have t4:((canon z).toList == [48])=true:=by rw [hz0,decide_eq_true hz]
      clear hq2 hz0 hg1 hz hm GC
      generalize canon z=CN at *
      generalize canon m=CD at *
      generalize (m - 1).sign=sg at *
      go_enter Tryz.func72, Tryz.ntmps72
      go_wp2_with (first
       | (go_at_call 88; (with_reducible refine (PA.out _ B.out).mono ?_); rintro e wx ⟨rfl,q⟩; replace B:=Lib.hid (B.out.trans (q.below _)); clear q)
       | (go_at_call_of 53 (Value.string CN); (with_reducible refine (R1.out _).mono ?_); rintro e wx ⟨rfl,rfl⟩)
       | (go_at_call_of 53 (Value.string CD); (with_reducible refine (R2.out _).mono ?_); rintro e wx ⟨rfl,rfl⟩)
       | (go_at_call 60; (with_reducible refine (CM.out _).mono ?_); rintro e wx ⟨rfl,rfl⟩)
       | fail "arm")
      go_ret
      exact ⟨rfl,B.out⟩
     ·have t4:((canon z).toList == [48])=false:=by rw [hz0,decide_eq_false hz]
      have t3:((canon ((Int.gcd z m:Nat):Int)).toList == [49])=decide (Int.gcd z m=1):=by rw [hg1]; exact decide_eq_decide.2 (by omega)
      by_cases h1:Int.gcd z m=1
      ·rw [rightQ_true (hq2.2 ⟨hm,hz,h1⟩),if_pos rfl]
       rw [decide_eq_true h1] at t3
       clear hq2 hz0 hg1 hz hm h1
       generalize canon ((Int.gcd z m:Nat):Int)=CG at *
       generalize canon z=CN at *
       generalize canon m=CD at *
       generalize (m - 1).sign=sg at *
       go_enter Tryz.func72, Tryz.ntmps72
       go_wp2_with (first
        | (go_at_call 88; (with_reducible refine (PA.out _ B.out).mono ?_); rintro e wx ⟨rfl,q⟩; replace B:=Lib.hid (B.out.trans (q.below _)); clear q)
        | (go_at_call_of 53 (Value.string CN); (with_reducible refine (R1.out _).mono ?_); rintro e wx ⟨rfl,rfl⟩)
        | (go_at_call_of 53 (Value.string CD); (with_reducible refine (R2.out _).mono ?_); rintro e wx ⟨rfl,rfl⟩)
        | (go_at_call 60; (with_reducible refine (CM.out _).mono ?_); rintro e wx ⟨rfl,rfl⟩)
        | (go_at_call 91; (with_reducible refine (GC.out _ B.out).mono ?_); rintro e wx ⟨rfl,q⟩; replace B:=Lib.hid (B.out.trans (q.mono B.out.size)); clear q)
        | fail "arm")
       go_ret
       exact ⟨rfl,B.out⟩
      ·rw [rightQ_false (fun h2=>h1 (hq2.1 h2).2.2),if_neg (by simp)]
       rw [decide_eq_false h1] at t3
       clear hq2 hz0 hg1 hz hm h1
       generalize canon ((Int.gcd z m:Nat):Int)=CG at *
       generalize canon z=CN at *
       generalize canon m=CD at *
       generalize (m - 1).sign=sg at *
       go_enter Tryz.func72, Tryz.ntmps72
       go_wp2_with (first
        | (go_at_call 88; (with_reducible refine (PA.out _ B.out).mono ?_); rintro e wx ⟨rfl,q⟩; replace B:=Lib.hid (B.out.trans (q.below _)); clear q)
        | (go_at_call_of 53 (Value.string CN); (with_reducible refine (R1.out _).mono ?_); rintro e wx ⟨rfl,rfl⟩)
        | (go_at_call_of 53 (Value.string CD); (with_reducible refine (R2.out _).mono ?_); rintro e wx ⟨rfl,rfl⟩)
        | (go_at_call 60; (with_reducible refine (CM.out _).mono ?_); rintro e wx ⟨rfl,rfl⟩)
        | (go_at_call 91; (with_reducible refine (GC.out _ B.out).mono ?_); rintro e wx ⟨rfl,q⟩; replace B:=Lib.hid (B.out.trans (q.mono B.out.size)); clear q)
        | fail "arm")
       go_ret
       exact ⟨rfl,B.out⟩
    ·rw [rightQ_false (fun h=>hm (hq2.1 h).1),if_neg (by simp)]
     have t1:decide ((m - 1).sign≤0)=true:=decide_eq_true (by
      rcases Int.lt_or_eq_of_le (show m - 1≤0 by omega) with h | h
      ·rw [Int.sign_eq_neg_one_of_neg h]; omega
      ·rw [h]; decide)
     clear hq2 hz0 hg1 hm GC
     generalize canon z=CN at *
     generalize canon m=CD at *
     generalize (m - 1).sign=sg at *
     go_enter Tryz.func72, Tryz.ntmps72
     go_wp2_with (first
      | (go_at_call 88; (with_reducible refine (PA.out _ B.out).mono ?_); rintro e wx ⟨rfl,q⟩; replace B:=Lib.hid (B.out.trans (q.below _)); clear q)
      | (go_at_call_of 53 (Value.string CN); (with_reducible refine (R1.out _).mono ?_); rintro e wx ⟨rfl,rfl⟩)
      | (go_at_call_of 53 (Value.string CD); (with_reducible refine (R2.out _).mono ?_); rintro e wx ⟨rfl,rfl⟩)
      | (go_at_call 60; (with_reducible refine (CM.out _).mono ?_); rintro e wx ⟨rfl,rfl⟩)
      | fail "arm")
     go_ret
     exact ⟨rfl,B.out⟩

end Go.Proofs.YthhkmihjnnfpgaaGreatDoor
