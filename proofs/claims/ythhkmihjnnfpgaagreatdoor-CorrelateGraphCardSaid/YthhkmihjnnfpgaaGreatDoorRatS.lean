/- The walk of rational.small: the number of two ints. -/
import Derived.Test.YthhkmihjnnfpgaaGreatDoorRat
import Derived.Test.YthhkmihjnnfpgaaGreatDoorGInt
import Derived.BigQuiet
namespace Go.Proofs.YthhkmihjnnfpgaaGreatDoor
set_option linter.all false
open Go.RowKit

theorem tdiv_gcd (n:Int) (g:Nat) (hg:(g:Int) ∣ n) (h0:0 < g):n.tdiv (g:Int)=n / (g:Int):=by
 obtain ⟨c,rfl⟩:=hg
 rw [Int.mul_tdiv_cancel_left _ (by omega),Int.mul_ediv_cancel_left _ (by omega)]

set_option maxRecDepth 100000 in
set_option maxHeartbeats 4000000 in
theorem small_of (n:Int) (d:Nat) (w:World) (ht:Pow10 w) (hd:0 < d) (hn0:-4000000000000000000≤n) (hn1:n≤4000000000000000000) (hd1:d≤4000000000000000000) :
  Calls Tryz.prog 56 #[.int .i64 n,.int .i64 d] w fun e w'=>e=.returned (.string (canonR (mkRat n d)))∧Below w.heap.size w w':=by
 have hmk:=canonR_mk n d (by omega)
 have hgp:0 < n.natAbs.gcd d:=Nat.gcd_pos_of_pos_right _ hd
 have hgn:((n.natAbs.gcd d:Nat):Int) ∣ n:=Int.ofNat_dvd_left.2 (Nat.gcd_dvd_left _ _)
 have hgd:n.natAbs.gcd d ∣ d:=Nat.gcd_dvd_right _ _
 have hgl:n.natAbs.gcd d≤d:=Nat.gcd_le_right _ hd
 have hq:=tdiv_gcd n _ hgn hgp
 have hqb:(n / ((n.natAbs.gcd d:Nat):Int)).natAbs≤n.natAbs:=Int.natAbs_ediv_le_natAbs _ _
 have hqd:d / n.natAbs.gcd d≤d:=Nat.div_le_self _ _
 have hqd0:0 < d / n.natAbs.gcd d:=Nat.div_pos hgl hgp
 have hgg:Int.gcd n (d:Int)=n.natAbs.gcd d:=rfl
 obtain ⟨g,hg⟩:∃ g,n.natAbs.gcd d=g:=⟨_,rfl⟩
 rw [hg] at hmk hgp hgl hq hqb hqd hqd0 hgg
 obtain ⟨q,hqq⟩:∃ q,n / (g:Int)=q:=⟨_,rfl⟩
 obtain ⟨e,he⟩:∃ e,d / g=e:=⟨_,rfl⟩
 have hde:(d:Int) / (g:Int)=(e:Int):=by rw [← he]; simp
 have hde2:(d:Int).tdiv (g:Int)=(e:Int):=by rw [Int.tdiv_eq_ediv_of_nonneg (by omega)]; exact hde
 rw [hqq] at hmk hq hqb
 rw [he] at hmk hqd hqd0
 rw [hmk]
 have hr1:e=1→ratT q e=canon q:=fun h=>by rw [h]; rfl
 have hr2:e ≠ 1→ratT q e=canon q ++ (⟨#[47]⟩:ByteArray) ++ canon (e:Int):=fun h=>ratT_frac q e h
 obtain ⟨R,hR⟩:∃ R,ratT q e=R:=⟨_,rfl⟩
 rw [hR] at hr1 hr2 ⊢
 have HR1:=Lib.hid hr1
 have HR2:=Lib.hid hr2
 clear hr1 hr2 hR
 have hq0:-4000000000000000000≤q:=by omega
 have hq1:q≤4000000000000000000:=by omega
 have he4:(e:Int)≤4000000000000000000:=by omega
 have i1:=fun W (hW:Below w.heap.size w W)=>itoa_any q (by omega) (by omega) W (ht.below hW)
 have i2:=fun W (hW:Below w.heap.size w W)=>itoa_any (e:Int) (by omega) (by omega) W (ht.below hW)
 have hsq:(canon q).size≤20:=canon_size_lt q 19 (by omega) (by omega)
 have hse:(canon (e:Int)).size≤20:=canon_size_lt (e:Int) 19 (by omega) (by omega)
 have I1:=Lib.hid i1
 have I2:=Lib.hid i2
 have HGG:=Lib.hid hgg
 have HQ:=Lib.hid hq
 have HD2:=Lib.hid hde2
 have HD3:=Lib.hid hde
 clear i1 i2 ht hmk hgn hgd hqb hgg hqq he hg hq hde2 hde hqd
 go_enter Tryz.func56,Tryz.ntmps56
 go_wp2
 go_loopw [5,6] (fun xv yv wr=>∃ (x y:Int),xv=.int .i64 x∧yv=.int .i64 y∧(-4000000000000000000≤x∧x≤4000000000000000000)∧(-4000000000000000000≤y∧y≤4000000000000000000)∧Below w.heap.size w wr∧Hid (Int.gcd x y=g)) (fun _ yv _=>(intOf yv).natAbs)
 case atStart=>exact ⟨n,d,rfl,rfl,⟨hn0,hn1⟩,⟨by omega,by omega⟩,Below.refl _ _,HGG.out⟩
 case round =>
  obtain ⟨x,y,rfl,rfl,⟨c1,c2⟩,⟨c3,c4⟩,hb,HG⟩:=hrel
  have HB:=Lib.hid hb
  clear hb
  by_cases hy:y=0
  ·subst hy
   have hgx:x.natAbs=g:=by rw [← HG.out]; simp
   have t0:((g:Int) == 0)=false:=beq_eq_false_iff_ne.2 (by omega)
   have hq:=HQ.out
   have hd2:=HD2.out
   have hd3:=HD3.out
   have hgb:(g:Int)≤4000000000000000000:=by omega
   by_cases he1:e=1
   ·have HR:=Lib.hid (HR1.out he1)
    have te:((e:Int) == 1)=true:=by rw [he1]; rfl
    clear I2 HG HGG HQ HD2 HD3
    by_cases hx:x < 0
    ·obtain rfl:x = -(g:Int):=by omega
     go_wp2
     go_quiet (fail)
     go_wp2_with (go_at_call 54; (with_reducible refine (I1.out _ ?_).mono ?_); exact HB.out.trans ((Drew.of _ _).below _); rintro e w3 ⟨rfl,q⟩; have B3:=Lib.hid ((HB.out.trans ((Drew.of _ _).below _)).trans (q.mono HB.out.size)); clear q)
     go_ret
     rw [HR.out]
     exact ⟨rfl,B3.out⟩
    ·obtain rfl:x=(g:Int):=by omega
     have dx:decide ((g:Int) < 0)=false:=decide_eq_false (by omega)
     go_wp2
     go_quiet (fail)
     go_wp2_with (go_at_call 54; (with_reducible refine (I1.out _ ?_).mono ?_); exact HB.out.trans ((Drew.of _ _).below _); rintro e w3 ⟨rfl,q⟩; have B3:=Lib.hid ((HB.out.trans ((Drew.of _ _).below _)).trans (q.mono HB.out.size)); clear q)
     go_ret
     rw [HR.out]
     exact ⟨rfl,B3.out⟩
   ·have te:((e:Int) == 1)=false:=beq_eq_false_iff_ne.2 (by omega)
    have HR:=Lib.hid (HR2.out he1)
    clear HG HGG HQ HD2 HD3
    by_cases hx:x < 0
    ·obtain rfl:x = -(g:Int):=by omega
     go_wp2
     go_quiet (fail)
     go_wp2_with (first
      | (go_at_call_of 54 (Value.int .i64 q); (with_reducible refine (I1.out _ ?_).mono ?_); exact HB.out.trans ((Drew.of _ _).below _); rintro e w3 ⟨rfl,q⟩; have B3:=Lib.hid ((HB.out.trans ((Drew.of _ _).below _)).trans (q.mono HB.out.size)); clear q)
      | (go_at_call 54; (with_reducible refine (I2.out _ B3.out).mono ?_); rintro e w4 ⟨rfl,q⟩; have B4:=Lib.hid (B3.out.trans (q.mono B3.out.size)); clear q)
      | fail "arm")
     go_ret
     rw [HR.out]
     exact ⟨rfl,B4.out⟩
    ·obtain rfl:x=(g:Int):=by omega
     have dx:decide ((g:Int) < 0)=false:=decide_eq_false (by omega)
     go_wp2
     go_quiet (fail)
     go_wp2_with (first
      | (go_at_call_of 54 (Value.int .i64 q); (with_reducible refine (I1.out _ ?_).mono ?_); exact HB.out.trans ((Drew.of _ _).below _); rintro e w3 ⟨rfl,q⟩; have B3:=Lib.hid ((HB.out.trans ((Drew.of _ _).below _)).trans (q.mono HB.out.size)); clear q)
      | (go_at_call 54; (with_reducible refine (I2.out _ B3.out).mono ?_); rintro e w4 ⟨rfl,q⟩; have B4:=Lib.hid (B3.out.trans (q.mono B3.out.size)); clear q)
      | fail "arm")
     go_ret
     rw [HR.out]
     exact ⟨rfl,B4.out⟩
  ·have t1:(y != 0)=true:=by rw [bne_iff_ne]; exact hy
   have t2:(y == 0)=false:=beq_eq_false_iff_ne.2 hy
   have HN:=Lib.hid ((gcd_tmod x y).trans HG.out)
   have m1:(x.tmod y).natAbs < y.natAbs:=by rw [Int.natAbs_tmod]; exact Nat.mod_lt _ (by omega)
   obtain ⟨m,hm⟩:∃ m,x.tmod y=m:=⟨_,rfl⟩
   rw [hm] at m1 HN
   have c5:-4000000000000000000≤m:=by omega
   have c6:m≤4000000000000000000:=by omega
   clear HG
   go_wp2
   go_quiet (fail)
   go_wp2
   go_roundw
   case rel=>exact ⟨y,m,rfl,rfl,⟨c3,c4⟩,⟨c5,c6⟩,HB.out.trans ((Drew.of _ _).below _),HN.out⟩
   case measure=>simpa [intOf] using m1

end Go.Proofs.YthhkmihjnnfpgaaGreatDoor
