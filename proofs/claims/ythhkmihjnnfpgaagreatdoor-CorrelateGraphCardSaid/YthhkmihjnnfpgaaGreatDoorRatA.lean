/- The walks of rational.Parts, join and lowest. -/
import Derived.Test.YthhkmihjnnfpgaaGreatDoorRat
import Derived.Test.YthhkmihjnnfpgaaGreatDoorGRefB
import Derived.Test.YthhkmihjnnfpgaaGreatDoorGInt
namespace Go.Proofs.YthhkmihjnnfpgaaGreatDoor
set_option linter.all false
open Go.RowKit

theorem cell_block {w:World} {a:Addr} {v:Value} (h:w.cell? a=some v):a.block < w.heap.size:=by
 rcases Nat.lt_or_ge a.block w.heap.size with h1 | h1
 ·exact h1
 ·unfold World.cell? at h
  rw [Array.getElem?_eq_none h1] at h
  cases h

def MaxL (w:World):Prop:=∃ m,w.cell? ⟨0,0,none⟩=some (.int .i64 m)

theorem MaxL.below {w w':World} (h:MaxL w) (hb:Below w.heap.size w w'):MaxL w':=by
 obtain ⟨m,hm⟩:=h
 exact ⟨m,(hb.cell (p:=⟨0,0,none⟩) (cell_block hm)).trans hm⟩

def Env (w:World):Prop:=Pow10 w∧MaxL w
theorem Env.below {w w':World} (h:Env w) (hb:Below w.heap.size w w'):Env w':=⟨h.1.below hb,h.2.below hb⟩

theorem canon_beq1 (a:Int):((canon a).toList == [49])=decide (a=1):=by rw [← canon_one_list]; exact canon_beq a 1

theorem rparts_any (n:Int) (d:Nat) (w:World) (hm:MaxL w) (hs:(ratT n d).size≤1000000) :
  Calls Tryz.prog 57 #[.string (ratT n d)] w fun e w'=>e=.returned (.tuple #[.string (canon n),.string (canon (d:Int))])∧Drew w w':=by
 obtain ⟨m,hm⟩:=hm
 have hc:=Tryz.strings_Cut (ratT n d) ⟨#[47]⟩ m w (by omega) hm
 rw [show (ratT n d).data.toList=ratL n d from rfl,show (⟨#[47]⟩:ByteArray).data.toList=[47] from rfl,cut_ratL] at hc
 have hk:=k_1
 by_cases h:d=1
 ·subst h
  rw [if_pos rfl] at hc
  have hc':Calls Tryz.prog 88 #[.string (ratT n 1),.string ⟨#[47]⟩] w fun e w'=>e=.returned (.tuple #[.string (canon n),.string ⟨#[]⟩,.bool false])∧∃ k,w'=w.drewN k:=hc
  have hk2:canon ((1:Nat):Int)=⟨#[49]⟩:=hk
  have HC:=Lib.hid hc'
  rw [hk2]
  clear hc hc' hk hk2 hm hs
  generalize ratT n 1=T at *
  go_enter Tryz.func57,Tryz.ntmps57
  go_wp2_with (go_at_call 88; (with_reducible refine HC.out.mono ?_); rintro e w1 ⟨rfl,nd,rfl⟩)
  go_ret2
  exact ⟨rfl,Drew.of _ _⟩
 ·rw [if_neg h] at hc
  have hc':Calls Tryz.prog 88 #[.string (ratT n d),.string ⟨#[47]⟩] w fun e w'=>e=.returned (.tuple #[.string (canon n),.string ⟨(Lib.decDigits d).toArray⟩,.bool true])∧∃ k,w'=w.drewN k:=hc
  rw [← canon_nat d] at hc'
  have HC:=Lib.hid hc'
  clear hc hc' hk hm hs h
  generalize ratT n d=T at *
  go_enter Tryz.func57,Tryz.ntmps57
  go_wp2_with (go_at_call 88; (with_reducible refine HC.out.mono ?_); rintro e w1 ⟨rfl,nd,rfl⟩)
  go_ret2
  exact ⟨rfl,Drew.of _ _⟩

theorem join_any (n:Int) (d:Nat) (w:World) (hn:(canon n).size≤1000000) (hd:(canon (d:Int)).size≤1000000) :
  Calls Tryz.prog 93 #[.string (canon n),.string (canon (d:Int))] w fun e w'=>e=.returned (.string (ratT n d))∧w=w':=by
 have hb:=canon_beq1 (d:Int)
 by_cases h:d=1
 ·subst h
  have hb1:((canon ((1:Nat):Int)).toList == [49])=true:=by rw [hb]; rfl
  rw [ratT_one]
  clear hb
  generalize canon ((1:Nat):Int)=D at *
  go_enter Tryz.func93,Tryz.ntmps93
  go_wp2
  go_ret
  exact ⟨rfl,rfl⟩
 ·have hb1:((canon (d:Int)).toList == [49])=false:=by rw [hb]; exact decide_eq_false (by omega)
  rw [ratT_frac n d h]
  clear hb h
  generalize canon (d:Int)=D at *
  generalize canon n=T at *
  go_enter Tryz.func93,Tryz.ntmps93
  go_wp2
  go_ret
  exact ⟨rfl,rfl⟩

theorem gcd_pos (n:Int) (D:Nat) (hD:0 < D):0 < n.natAbs.gcd D:=Nat.gcd_pos_of_pos_right _ hD

set_option maxRecDepth 100000 in
set_option maxHeartbeats 4000000 in
theorem lowest_any (neg:Bool) (n:Int) (D:Nat) (w:World) (ht:Pow10 w) (hD:0 < D) (hn:(canon n).size≤9000) (hd:(canon (D:Int)).size≤9000) :
  Calls Tryz.prog 58 #[.string (canon (if neg then -n else n)),.string (canon (if neg then -(D:Int) else (D:Int)))] w fun e w'=>e=.returned (.string (canonR (mkRat n D)))∧Below w.heap.size w w':=by
 have hg:=fun W (hW:Below w.heap.size w W)=>gcd_any n (D:Int) W (ht.below hW) (by omega) (by omega)
 rw [show Int.gcd n (D:Int)=n.natAbs.gcd D from rfl] at hg
 have hgp:=gcd_pos n D hD
 have hmk:=canonR_mk n D (by omega)
 have hgD:n.natAbs.gcd D≤D:=Nat.gcd_le_right _ hD
 have hgs:(canon ((n.natAbs.gcd D:Nat):Int)).size≤9001:=by
  have h1:=itoa_len_small (z:=(D:Int)) (k:=9000) hd
  rw [Int.natAbs_natCast] at h1
  exact canon_size_lt _ 9000 (by rw [Int.natAbs_natCast]; omega) (by omega)
 have d1:=fun W (hW:Below w.heap.size w W)=>divmod_any n ((n.natAbs.gcd D:Nat):Int) W (ht.below hW) (by omega) (by omega) (by omega)
 have d2:=fun W (hW:Below w.heap.size w W)=>divmod_any (D:Int) ((n.natAbs.gcd D:Nat):Int) W (ht.below hW) (by omega) (by omega) (by omega)
 have hqn:(canon (n / ((n.natAbs.gcd D:Nat):Int))).size≤9001:=by
  have h1:=itoa_len_small (z:=n) (k:=9000) hn
  exact canon_size_lt _ 9000 (Nat.lt_of_le_of_lt (Int.natAbs_ediv_le_natAbs _ _) h1) (by omega)
 have hqd:(canon ((D / n.natAbs.gcd D:Nat):Int)).size≤9001:=by
  have h1:=itoa_len_small (z:=(D:Int)) (k:=9000) hd
  rw [Int.natAbs_natCast] at h1
  exact canon_size_lt _ 9000 (by rw [Int.natAbs_natCast]; exact Nat.lt_of_le_of_lt (Nat.div_le_self _ _) h1) (by omega)
 rw [show (D:Int) / ((n.natAbs.gcd D:Nat):Int)=((D / n.natAbs.gcd D:Nat):Int) by simp] at d2
 have j1:=fun W=>join_any (n / ((n.natAbs.gcd D:Nat):Int)) (D / n.natAbs.gcd D) W (by omega) (by omega)
 rw [← hmk] at j1
 have hb1:=canon_beq1 ((n.natAbs.gcd D:Nat):Int)
 have n1:=fun W=>neg_any (-n) W (by have:=canon_neg_size n 9000 hn; omega)
 have n2:=fun W=>neg_any (-(D:Int)) W (by have:=canon_neg_size (D:Int) 9000 hd; omega)
 rw [Int.neg_neg] at n1 n2
 have s1:=fun W=>sign_any (if neg=true then -(D:Int) else (D:Int)) W
 have e1:n.natAbs.gcd D=1→canonR (mkRat n D)=ratT n D:=fun h=>by rw [hmk,h]; simp
 have j2:=fun W=>join_any n D W (by omega) (by omega)
 have hsg:(if neg=true then -(D:Int) else (D:Int)).sign=if neg=true then -1 else 1:=by
  cases neg
  ·rw [if_neg (by simp),if_neg (by simp)]; exact Int.sign_eq_one_of_pos (by omega)
  ·rw [if_pos rfl,if_pos rfl]; exact Int.sign_eq_neg_one_of_neg (by omega)
 rw [hsg] at s1
 obtain ⟨g,hgg⟩:∃ g,n.natAbs.gcd D=g:=⟨_,rfl⟩
 rw [hgg] at hg d1 d2 j1 hb1 e1
 obtain ⟨R,hR⟩:∃ R,canonR (mkRat n D)=R:=⟨_,rfl⟩
 obtain ⟨dg,hdg⟩:∃ x,D / g=x:=⟨_,rfl⟩
 obtain ⟨ng,hng⟩:∃ x,n / (g:Int)=x:=⟨_,rfl⟩
 rw [hR] at j1 e1 ⊢
 rw [hdg] at d2 j1
 rw [hng] at d1 j1
 have HG:=Lib.hid hg
 have D1:=Lib.hid d1
 have D2:=Lib.hid d2
 have J1:=Lib.hid j1
 have J2:=Lib.hid j2
 have N1:=Lib.hid n1
 have N2:=Lib.hid n2
 have HB1:=Lib.hid hb1
 have E1:=Lib.hid e1
 clear hg d1 d2 j1 j2 n1 n2 hb1 e1 hsg hmk hgD hgs hqn hqd hn hd ht hgg hR hdg hng hgp
 by_cases h1:g=1
 ·have hbt:((canon (g:Int)).toList == [49])=true:=by rw [HB1.out,h1]; rfl
  have hbn:((canon (g:Int)).toList != [49])=false:=by rw [bne,hbt]; rfl
  have J3:=Lib.hid (fun W=>by have:=J2.out W; rw [← E1.out h1] at this; exact this)
  clear J1 J2 D1 D2 E1 HB1 h1
  cases neg with
  | false =>
   rw [if_neg (by simp),if_neg (by simp)] at s1 ⊢
   have S1:=Lib.hid s1
   clear s1
   go_enter Tryz.func58,Tryz.ntmps58
   go_wp2_with (first
    | (go_at_call 89; (with_reducible refine (S1.out _).mono ?_); rintro e w1 ⟨rfl,rfl⟩)
    | (go_at_call 91; (with_reducible refine (HG.out _ (Below.refl _ _)).mono ?_); rintro e w2 ⟨rfl,q⟩; have B2:=Lib.hid q; clear q)
    | (go_at_call 93; (with_reducible refine (J3.out _).mono ?_); rintro e w3 ⟨rfl,rfl⟩)
    | fail "arm")
   go_ret
   exact ⟨rfl,B2.out⟩
  | true =>
   rw [if_pos rfl,if_pos rfl] at s1 ⊢
   have S1:=Lib.hid s1
   clear s1
   go_enter Tryz.func58,Tryz.ntmps58
   go_wp2_with (first
    | (go_at_call 89; (with_reducible refine (S1.out _).mono ?_); rintro e w1 ⟨rfl,rfl⟩)
    | (go_at_call_of 90 (Value.string (canon (-n))); (with_reducible refine (N1.out _).mono ?_); rintro e w4 ⟨rfl,q⟩; have B4:=Lib.hid q; clear q)
    | (go_at_call_of 90 (Value.string (canon (-(D:Int)))); (with_reducible refine (N2.out _).mono ?_); rintro e w5 ⟨rfl,q⟩; have B5:=Lib.hid (B4.out.trans (q.mono B4.out.size)); clear q)
    | (go_at_call 91; (with_reducible refine (HG.out _ B5.out).mono ?_); rintro e w2 ⟨rfl,q⟩; have B2:=Lib.hid (B5.out.trans (q.mono B5.out.size)); clear q)
    | (go_at_call 93; (with_reducible refine (J3.out _).mono ?_); rintro e w3 ⟨rfl,rfl⟩)
    | fail "arm")
   go_ret
   exact ⟨rfl,B2.out⟩
 ·have hbt:((canon (g:Int)).toList == [49])=false:=by rw [HB1.out]; exact decide_eq_false (by omega)
  have hbn:((canon (g:Int)).toList != [49])=true:=by rw [bne,hbt]; rfl
  clear J2 E1 HB1
  cases neg with
  | false =>
   rw [if_neg (by simp),if_neg (by simp)] at s1 ⊢
   have S1:=Lib.hid s1
   clear s1
   go_enter Tryz.func58,Tryz.ntmps58
   go_wp2_with (first
    | (go_at_call 89; (with_reducible refine (S1.out _).mono ?_); rintro e w1 ⟨rfl,rfl⟩)
    | (go_at_call 91; (with_reducible refine (HG.out _ (Below.refl _ _)).mono ?_); rintro e w2 ⟨rfl,q⟩; have B2:=Lib.hid q; clear q)
    | (go_at_call_of 92 (Value.string (canon n)); (with_reducible refine (D1.out _ B2.out).mono ?_); rintro e w6 ⟨rfl,q⟩; have B6:=Lib.hid (B2.out.trans (q.mono B2.out.size)); clear q)
    | (go_at_call 92; (with_reducible refine (D2.out _ B6.out).mono ?_); rintro e w7 ⟨rfl,q⟩; have B7:=Lib.hid (B6.out.trans (q.mono B6.out.size)); clear q)
    | (go_at_call 93; (with_reducible refine (J1.out _).mono ?_); rintro e w3 ⟨rfl,rfl⟩)
    | fail "arm")
   go_ret
   exact ⟨rfl,B7.out⟩
  | true =>
   rw [if_pos rfl,if_pos rfl] at s1 ⊢
   have S1:=Lib.hid s1
   clear s1
   go_enter Tryz.func58,Tryz.ntmps58
   go_wp2_with (first
    | (go_at_call 89; (with_reducible refine (S1.out _).mono ?_); rintro e w1 ⟨rfl,rfl⟩)
    | (go_at_call_of 90 (Value.string (canon (-n))); (with_reducible refine (N1.out _).mono ?_); rintro e w4 ⟨rfl,q⟩; have B4:=Lib.hid q; clear q)
    | (go_at_call_of 90 (Value.string (canon (-(D:Int)))); (with_reducible refine (N2.out _).mono ?_); rintro e w5 ⟨rfl,q⟩; have B5:=Lib.hid (B4.out.trans (q.mono B4.out.size)); clear q)
    | (go_at_call 91; (with_reducible refine (HG.out _ B5.out).mono ?_); rintro e w2 ⟨rfl,q⟩; have B2:=Lib.hid (B5.out.trans (q.mono B5.out.size)); clear q)
    | (go_at_call_of 92 (Value.string (canon n)); (with_reducible refine (D1.out _ B2.out).mono ?_); rintro e w6 ⟨rfl,q⟩; have B6:=Lib.hid (B2.out.trans (q.mono B2.out.size)); clear q)
    | (go_at_call 92; (with_reducible refine (D2.out _ B6.out).mono ?_); rintro e w7 ⟨rfl,q⟩; have B7:=Lib.hid (B6.out.trans (q.mono B6.out.size)); clear q)
    | (go_at_call 93; (with_reducible refine (J1.out _).mono ?_); rintro e w3 ⟨rfl,rfl⟩)
    | fail "arm")
   go_ret
   exact ⟨rfl,B7.out⟩

end Go.Proofs.YthhkmihjnnfpgaaGreatDoor
