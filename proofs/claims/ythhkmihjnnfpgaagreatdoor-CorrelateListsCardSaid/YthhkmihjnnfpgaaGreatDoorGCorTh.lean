/- The total of steps in the law of chapter 44; Partners. -/
import Derived.Test.YthhkmihjnnfpgaaGreatDoorGCorTc
/- The law's total of whatever steps. -/
namespace Go.Proofs.YthhkmihjnnfpgaaGreatDoor
set_option linter.all false
open Go.RowKit

attribute [local go_sem] Oper.semAt_some

set_option maxRecDepth 100000 in
set_option maxHeartbeats 8000000 in
theorem ltotal_any (q:CQ) (ok:OkQ q) (l:List (Int × Int × Int)) (hl:l.length≤1000) (sl sr v:Value) (w:World) (he:Env w) (hq:QAt w sl sr q) (hv:SAt stI 3 w v l) :
  Calls Tryz.prog 27 #[.agg #[sl,sr,.string (qT (2 * q.ch)),.string (qT (2 * q.mi)),.string (qT (2 * q.ga)),.string (qT (2 * q.re))],v] w fun e w'=>e=.returned (totV (runF q 0 0 0 l))∧Below w.heap.size w w':=by
 have HE:=Lib.hid he
 have HV:=Lib.hid hv
 have HQ:=Lib.hid hq
 have OK:=Lib.hid ok
 have hll:=ok.hl
 have hrr:=ok.hr
 have B:=Lib.hid (Below.refl w.heap.size w)
 obtain ⟨A1,n1,rfl,_⟩:=hq.l
 obtain ⟨A2,n2,rfl,_⟩:=hq.r
 obtain ⟨A,c,rfl,_⟩:=hv
 clear he hq ok
 obtain ⟨R,hR⟩:∃ R,runF q 0 0 0 l=R:=⟨_,rfl⟩
 rw [hR]
 have HR:=Lib.hid hR
 clear hR
 have HCL:=Lib.hid (fun (x:Int × Int × Int)=>lcost_any q OK.out x.1 x.2.1 x.2.2 (.slice A1 q.L.length n1) (.slice A2 q.R.length n2) w HE.out HQ.out)
 have HBD:=Lib.hid (cst_bdS q OK.out)
 clear HQ
 go_enter Tryz.func27, Tryz.ntmps27
 obtain ⟨l1,hl1⟩:∃ n,q.L.length=n:=⟨_,rfl⟩
 obtain ⟨l2,hl2⟩:∃ n,q.R.length=n:=⟨_,rfl⟩
 have HL1:=Lib.hid hl1
 have HL2:=Lib.hid hl2
 rw [hl1,hl2] at HCL
 rw [hl1,hl2]
 rw [hl1] at hll
 rw [hl2] at hrr
 clear hl1 hl2
 generalize qT (2 * q.ch)=c1 at *
 generalize qT (2 * q.mi)=c2 at *
 generalize qT (2 * q.ga)=c3 at *
 generalize qT (2 * q.re)=c4 at *
 go_upto_region 1 with (fail)
 have K2:=Lib.hid (Blk.fresh w #[.slice A1 l1 n1,.slice A2 l2 n2,.string c1,.string c2,.string c3,.string c4] 32)
 have q2:=below_new w (.cells #[.slice A1 l1 n1,.slice A2 l2 n2,.string c1,.string c2,.string c3,.string c4] 32)
 replace B:=Lib.hid (B.out.trans (q2.mono B.out.size))
 clear q2
 generalize (w.alloc (.cells #[.slice A1 l1 n1,.slice A2 l2 n2,.string c1,.string c2,.string c3,.string c4] 32))=W1 at *
 obtain ⟨b2,hb2e⟩:∃ b2,w.heap.size=b2:=⟨_,rfl⟩
 have HB2E:=Lib.hid hb2e
 rw [hb2e] at K2 ⊢
 clear hb2e
 go_wp2
 go_loopw [6,7,8,9] (fun iv jv sv kv wr=>∃ (k i j:Nat) (s:Int),k≤l.length∧sv=.string (qT s)∧iv=.int .i64 i∧jv=.int .i64 j∧kv=.int .i64 k∧(i≤l1∧j≤l2∧0≤s∧s≤60000 * (i + j))∧runF q i j s (l.drop k)=R∧Blk wr b2 #[.slice A1 l1 n1,.slice A2 l2 n2,.string c1,.string c2,.string c3,.string c4] 32 ∧ Below w.heap.size w wr) (fun _ _ _ kv _=>l.length - (intOf kv).toNat)
 case atStart=>exact ⟨0,0,0,0,Nat.zero_le _,by rw [qT_zero],rfl,rfl,rfl,⟨Nat.zero_le _,Nat.zero_le _,Int.le_refl _,by omega⟩,HR.out,K2.out,B.out⟩
 case round =>
  clear B K2 HR
  obtain ⟨k,i,j,s,hk,rfl,rfl,rfl,rfl,hb,hrun,k2,b⟩:=hrel
  have K2:=Lib.hid k2
  have B:=Lib.hid b
  clear k2 b
  have hi60:(i:Int)≤6∧(j:Int)≤6:=by omega
  by_cases hlt:k < l.length
  ·have hi:(k:Int) < (l.length:Int):=by omega
   obtain ⟨d,o,c1',e1,hd,q1⟩:=(HV.out.below B.out).cell k hlt
   injection e1 with e1 _ e1c
   subst e1 e1c
   have x0:wr.cell? ⟨d,o + k * 3,none⟩=_:=q1 0 _ rfl
   have x1:wr.cell? ⟨d,o + k * 3 + 1,none⟩=_:=q1 1 _ rfl
   have x2:wr.cell? ⟨d,o + k * 3 + 2,none⟩=_:=q1 2 _ rfl
   rw [List.drop_eq_getElem_cons hlt] at hrun
   generalize l[k]=xk at *
   obtain ⟨sk,si,sj⟩:=xk
   try dsimp only at x0 x1 x2
   have X0:Hid (wr.cell? ⟨d,o + k * 3,none⟩=some (.int .i64 sk)):=Lib.hid x0
   have X1:Hid (wr.cell? ⟨d,o + k * 3 + 1,none⟩=some (.int .i64 si)):=Lib.hid x1
   have X2:Hid (wr.cell? ⟨d,o + k * 3 + 2,none⟩=some (.int .i64 sj)):=Lib.hid x2
   have hlc:Ret Tryz.prog wr 24 _ (costV q sk si sj):=fun W hW=>HCL.out (sk,si,sj) W (B.out.trans (hW.mono B.out.size))
   have HLC:=Lib.hid hlc
   clear q1 hlc HCL
   have hkb:(k:Int) + 1 < 2000:=by omega
   by_cases hsi:si=(i:Int)
   ·by_cases hsj:sj=(j:Int)
    ·subst hsi hsj
     have hstep:runF q i j s ((sk,(i:Int),(j:Int)) :: l.drop (k + 1))=(if errI q sk i j ≠ 0 then (errI q sk i j,0) else runF q (nxI sk.toNat i) (nxJ sk.toNat j) (s + cst q sk.toNat i j) (l.drop (k + 1))):=by
      show (if (i:Int) ≠ (i:Int) ∨ (j:Int) ≠ (j:Int) then _ else _)=_
      rw [if_neg (show ¬ ((i:Int) ≠ (i:Int) ∨ (j:Int) ≠ (j:Int)) by omega)]
     rw [hstep] at hrun
     have HRUN:=Lib.hid hrun
     clear hstep hrun
     have hX:∃ X er,costV q sk i j=.tuple #[.string X,.int .i64 er]∧er=errI q sk i j∧(errI q sk i j=0→X=qT (cst q sk.toNat i j)):=⟨_,_,rfl,rfl,fun h=>if_pos h⟩
     obtain ⟨X,er,hcv,hre,hXT⟩:=hX
     rw [hcv] at HLC
     have HXT:=Lib.hid hXT
     have HRE:=Lib.hid hre
     clear hcv hXT hre
     go_upto_region 8 with (fail)
     clear x0 x1 x2
     refine wp_tab (.v 35 (.agg #[.slice A1 l1 n1,.slice A2 l2 n2,.string c1,.string c2,.string c3,.string c4]) :: .v 36 (.slice (some ⟨d,o,none⟩) l.length c) :: .v 37 (.int .i64 k) :: .v 38 (.pointer (some ⟨d,o + k * 3,none⟩)) :: .v 39 (.agg #[.int .i64 sk,.int .i64 i,.int .i64 j]) :: .v 40 (.tuple #[.string X,.int .i64 er]) :: .v 34 (.tuple #[.string X,.int .i64 er]) :: .v 41 (.string X) :: .v 42 (.int .i64 er) :: .v 10 (.string X) :: .v 11 (.int .i64 er) :: []) [] [⟨b2,#[.slice A1 l1 n1,.slice A2 l2 n2,.string c1,.string c2,.string c3,.string c4], 32, none⟩] [] [] [] [] [] (by kernel_rfl) (Below.refl _ _) ⟨K2.out,trivial⟩ trivial ⟨ld 0 0,pu,pu,?_,?_,cl HLC.out,pu,pu,pu,pu,pu,trivial⟩ ?_
     ·intro L a U ho J hn dd KK kk; refine .free rfl ?_; have r1:=J.read 1 rfl (dd.get 1 rfl); have r2:=J.read 2 rfl (dd.get 2 rfl); go_simp; exact kk.out _ _ (J.st 3 rfl rfl)
     ·intro L a U ho J hn dd KK kk; refine .free rfl ?_; have r3:=J.read 3 rfl (dd.get 3 rfl); have e0:=(J.bb.cell (p:=⟨d,o + k * 3,none⟩) hd).trans X0.out; have e1:=(J.bb.cell (p:=⟨d,o + k * 3 + 1,none⟩) hd).trans X1.out; have e2:=(J.bb.cell (p:=⟨d,o + k * 3 + 2,none⟩) hd).trans X2.out; go_simp; exact kk.out _ _ (J.st 4 rfl rfl)
     clear K2
     rintro σ W9 _ ⟨K2,_⟩ _ _ q9
     simp only [slotsOf,finX,nval,nvalN,nvalA,Nat.reduceBEq,cond_true,cond_false,putAll,Act.put,List.setIfInBounds_toArray,List.set_cons_succ,List.set_cons_zero]
     have b9:=Lib.hid (B.out.trans (q9.mono B.out.size))
     replace B:=b9
     have x0:=(q9.cell (p:=⟨d,o + k * 3,none⟩) hd).trans X0.out
     have x1:=(q9.cell (p:=⟨d,o + k * 3 + 1,none⟩) hd).trans X1.out
     have x2:=(q9.cell (p:=⟨d,o + k * 3 + 2,none⟩) hd).trans X2.out
     have hd9:=Nat.lt_of_lt_of_le hd q9.size
     clear b9 q9 X0 X1 X2 hd HLC
     by_cases her:errI q sk i j=0
     ·obtain ⟨k',i',j',rfl,hi',hj',hkk,hi2,hj2,hok⟩:=errI_ok her
      obtain rfl:i=i':=by omega
      obtain rfl:j=j':=by omega
      have hk5:1≤k'∧k'≤5:=by
       simp only [kinds,List.mem_cons,List.not_mem_nil,or_false] at hkk
       omega
      have hX:=HXT.out her
      have her0:er=0:=HRE.out.trans her
      rw [Int.toNat_natCast] at hX
      subst hX her0
      have hcb:=HBD.out k' i j hkk
      have hadd:=rAddQ s (cst q k' i j) (by omega) (by omega) w HE.out
      have HADD:=Lib.hid hadd
      clear hadd
      have hnx:=lafter_any k' i j (by omega) (by omega) w
      rw [nzI_nat,nzJ_nat k' j hk5] at hnx
      have HNX:=Lib.hid hnx
      clear hnx
      have HRUN2:Hid (runF q (nxI k' i) (nxJ k' j) (s + cst q k' i j) (l.drop (k + 1))=R):=Lib.hid (by
       have h:=HRUN.out
       rw [if_neg (by omega),Int.toNat_natCast] at h
       exact h)
      have hst:=(nx_more (i:=i) (j:=j) hkk).1
      have HB9:Hid (nxI k' i≤l1∧nxJ k' j≤l2∧0≤s + cst q k' i j∧s + cst q k' i j≤60000 * ((nxI k' i:Int) + (nxJ k' j:Int))):=Lib.hid (by
       have h1:=hok.1
       have h2:=hok.2.1
       have h3:=HL1.out
       have h4:=HL2.out
       omega)
      clear hcb hst hok HRUN her hkk HXT HRE
      generalize cst q k' i j=cc at *
      generalize nxI k' i=ni at *
      generalize nxJ k' j=nj at *
      go_wp2_with (first
       | (go_at_call 21; with_reducible refine (HADD.out _ B.out).mono ?_; rintro e9 wx ⟨rfl,q9⟩; replace K2:=Lib.hid (K2.out.below q9); replace B:=Lib.hid (B.out.trans (q9.mono B.out.size)); have x3:=(q9.cell (p:=⟨d,o + k * 3,none⟩) hd9).trans x0; have x4:=(q9.cell (p:=⟨d,o + k * 3 + 1,none⟩) hd9).trans x1; have x5:=(q9.cell (p:=⟨d,o + k * 3 + 2,none⟩) hd9).trans x2; have hd8:=Nat.lt_of_lt_of_le hd9 q9.size; clear x0 x1 x2 hd9 q9; have x0:=x3; have x1:=x4; have x2:=x5; have hd9:=hd8; clear x3 x4 x5 hd8)
       | (go_at_call 32; with_reducible refine (HNX.out _ B.out).mono ?_; rintro e9 wx ⟨rfl,q9⟩; replace K2:=Lib.hid (K2.out.below q9); replace B:=Lib.hid (B.out.trans (q9.mono B.out.size)); have x3:=(q9.cell (p:=⟨d,o + k * 3,none⟩) hd9).trans x0; have x4:=(q9.cell (p:=⟨d,o + k * 3 + 1,none⟩) hd9).trans x1; have x5:=(q9.cell (p:=⟨d,o + k * 3 + 2,none⟩) hd9).trans x2; have hd8:=Nat.lt_of_lt_of_le hd9 q9.size; clear x0 x1 x2 hd9 q9; have x0:=x3; have x1:=x4; have x2:=x5; have hd9:=hd8; clear x3 x4 x5 hd8)
       | fail "arm")
      exact ⟨⟨k + 1,ni,nj,s + cc,by omega,rfl,rfl,rfl,by go_num,HB9.out,HRUN2.out,K2.out,B.out⟩,by simp [intOf]; omega⟩
     ·have HR9:Hid (R=(er,0)):=Lib.hid (by rw [← HRUN.out,if_pos her,← HRE.out])
      have hne:er ≠ 0:=fun h=>her (HRE.out.symm.trans h)
      have HTV:Hid (totV (er,0)=.tuple #[.string ⟨#[]⟩,.int .i64 er]):=Lib.hid (by unfold totV; dsimp only; rw [if_neg hne])
      have hn:(er == 0)=false:=by rw [beq_eq_false_iff_ne]; exact hne
      clear HRUN her HRE HXT
      go_wp2
      go_ret2
      rw [HR9.out,HTV.out,← HB2E.out]
      exact ⟨rfl,B.out⟩
    ·have HR9:Hid (R=(6,0)):=Lib.hid (by
      rw [← hrun]
      show (if si ≠ (i:Int) ∨ sj ≠ (j:Int) then _ else _)=_
      exact if_pos (.inr hsj))
     clear hrun
     have m1:(si == (i:Int))=true:=by rw [beq_iff_eq]; exact hsi
     have m2:(sj == (j:Int))=false:=by rw [beq_eq_false_iff_ne]; exact hsj
     go_wp2
     go_ret2
     rw [HR9.out,← HB2E.out]
     exact ⟨rfl,B.out⟩
   ·have HR9:Hid (R=(6,0)):=Lib.hid (by
     rw [← hrun]
     show (if si ≠ (i:Int) ∨ sj ≠ (j:Int) then _ else _)=_
     exact if_pos (.inl hsi))
    clear hrun
    have m1:(si == (i:Int))=false:=by rw [beq_eq_false_iff_ne]; exact hsi
    go_wp2
    go_ret2
    rw [HR9.out,← HB2E.out]
    exact ⟨rfl,B.out⟩
  ·have hkl:k=l.length:=by omega
   subst hkl
   have hi:¬ (l.length:Int) < (l.length:Int):=by omega
   have hi2:decide ((l.length:Int) < (l.length:Int))=false:=decide_eq_false hi
   rw [List.drop_length] at hrun
   have hrun2:(if i=q.L.length∧j=q.R.length then ((0:Int),s) else (25,0))=R:=hrun
   rw [HL1.out,HL2.out] at hrun2
   have HRUN:=Lib.hid hrun2
   clear hrun hrun2
   have y0:=K2.out.at_ 0 _ rfl
   have y1:=K2.out.at_ 1 _ rfl
   have y2:=K2.out.at_ 2 _ rfl
   have y3:=K2.out.at_ 3 _ rfl
   have y4:=K2.out.at_ 4 _ rfl
   have y5:=K2.out.at_ 5 _ rfl
   by_cases hil:i=l1
   ·by_cases hjl:j=l2
    ·have HR9:Hid (R=(0,s)):=Lib.hid (by rw [← HRUN.out,if_pos ⟨hil,hjl⟩])
     subst hil hjl
     clear HRUN
     go_wp2
     go_ret2
     rw [HR9.out,← HB2E.out]
     exact ⟨rfl,B.out⟩
    ·have HR9:Hid (R=(25,0)):=Lib.hid (by rw [← HRUN.out,if_neg (fun h=>hjl h.2)])
     clear HRUN
     have m1:((i:Int) == (l1:Int))=true:=by rw [beq_iff_eq]; omega
     have m2:((j:Int) == (l2:Int))=false:=by rw [beq_eq_false_iff_ne]; omega
     go_wp2
     go_ret2
     rw [HR9.out,← HB2E.out]
     exact ⟨rfl,B.out⟩
   ·have HR9:Hid (R=(25,0)):=Lib.hid (by rw [← HRUN.out,if_neg (fun h=>hil h.1)])
    clear HRUN
    have m1:((i:Int) == (l1:Int))=false:=by rw [beq_eq_false_iff_ne]; omega
    go_wp2
    go_ret2
    rw [HR9.out,← HB2E.out]
    exact ⟨rfl,B.out⟩

end Go.Proofs.YthhkmihjnnfpgaaGreatDoor
