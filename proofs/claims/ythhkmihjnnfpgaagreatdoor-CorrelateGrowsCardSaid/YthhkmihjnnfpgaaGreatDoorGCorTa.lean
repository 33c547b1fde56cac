/- Correlate: checkStep at whatever step; total and Total. -/
import Derived.Test.YthhkmihjnnfpgaaGreatDoorGCorY
/- checkStep at whatever step; total and Total of whatever steps. -/
namespace Go.Proofs.YthhkmihjnnfpgaaGreatDoor
set_option linter.all false
open Go.RowKit

attribute [local go_sem] Oper.semAt_some

theorem errI_S (q:CQ) (k i j:Nat) (hk:1≤k∧k≤5) (hi:i≤q.L.length) (hj:j≤q.R.length):errI q k i j=errS q k i j:=by
 unfold errI errS
 rw [if_neg (by omega),if_neg (by omega)]
 simp only [Int.toNat_natCast]
 by_cases h1:q.L.length < nxI k i ∨ q.R.length < nxJ k j
 ·rw [if_pos h1,if_pos h1]
 rw [if_neg h1,if_neg h1]
 by_cases h2:(k=4∧¬ repI q.L i) ∨ (k=5∧¬ repI q.R j)
 ·rw [if_pos h2,if_pos (h2.imp (fun h=>⟨by have:=h.1; omega,h.2⟩) (fun h=>⟨by have:=h.1; omega,h.2⟩))]
 ·rw [if_neg h2,if_neg (fun h=>h2 (h.imp (fun h=>⟨by have:=h.1; omega,h.2⟩) (fun h=>⟨by have:=h.1; omega,h.2⟩)))]
set_option maxRecDepth 100000 in
set_option maxHeartbeats 8000000 in
theorem cstepI_any (q:CQ) (ok:OkQ q) (k i j:Int) (sl sr:Value) (w:World) (hq:QAt w sl sr q) :
  Ret Tryz.prog w 61 #[.agg #[sl,sr,.string (qT (2 * q.ch)),.string (qT (2 * q.mi)),.string (qT (2 * q.ga)),.string (qT (2 * q.re))],.agg #[.int .i64 k,.int .i64 i,.int .i64 j]] (.int .i64 (errI q k i j)):=by
 by_cases hk:(1≤k∧k≤5)∧(0≤i∧i≤q.L.length)∧0≤j∧j≤q.R.length
 ·obtain ⟨k',rfl⟩:=Int.eq_ofNat_of_zero_le (show 0≤k by omega)
  obtain ⟨i',rfl⟩:=Int.eq_ofNat_of_zero_le (show 0≤i by omega)
  obtain ⟨j',rfl⟩:=Int.eq_ofNat_of_zero_le (show 0≤j by omega)
  have h:=cstep_any q ok k' i' j' (by omega) (by omega) (by omega) sl sr w hq
  rw [← errI_S q k' i' j' (by omega) (by omega) (by omega)] at h
  exact h
 intro W hW
 have HERR:Hid (errI q k i j=if k < 1 ∨ k > 5 then 12 else 3):=Lib.hid (by
  unfold errI
  by_cases h:k < 1 ∨ 5 < k
  ·rw [if_pos h,if_pos h]
  ·rw [if_neg h,if_neg h,if_pos (by omega)])
 generalize errI q k i j=er at *
 obtain ⟨A1,n1,rfl,_⟩:=hq.l
 obtain ⟨A2,n2,rfl,_⟩:=hq.r
 have B:=Lib.hid (Below.refl W.heap.size W)
 have HK:=Lib.hid hk
 clear ok hq hk
 generalize q.L.length=l1 at *
 generalize q.R.length=l2 at *
 generalize qT (2 * q.ch)=c1 at *
 generalize qT (2 * q.mi)=c2 at *
 generalize qT (2 * q.ga)=c3 at *
 generalize qT (2 * q.re)=c4 at *
 go_enter Tryz.func61, Tryz.ntmps61
 go_upto_region 1 with (fail)
 have K2:=Lib.hid (Blk.fresh W #[.slice A1 l1 n1,.slice A2 l2 n2,.string c1,.string c2,.string c3,.string c4] 32)
 have q2:=below_new W (.cells #[.slice A1 l1 n1,.slice A2 l2 n2,.string c1,.string c2,.string c3,.string c4] 32)
 have HSZ:(W.alloc (.cells #[.slice A1 l1 n1,.slice A2 l2 n2,.string c1,.string c2,.string c3,.string c4] 32)).heap.size=W.heap.size + 1:=by simp
 replace B:=Lib.hid (B.out.trans (q2.mono B.out.size))
 generalize (W.alloc (.cells #[.slice A1 l1 n1,.slice A2 l2 n2,.string c1,.string c2,.string c3,.string c4] 32))=W1 at *
 have K3:=Lib.hid (Blk.fresh W1 #[.int .i64 k,.int .i64 i,.int .i64 j] 56)
 have q3:=below_new W1 (.cells #[.int .i64 k,.int .i64 i,.int .i64 j] 56)
 replace B:=Lib.hid (B.out.trans (q3.mono B.out.size))
 replace K2:=Lib.hid (K2.out.below q3)
 clear q2 q3
 generalize (W1.alloc (.cells #[.int .i64 k,.int .i64 i,.int .i64 j] 56))=W2 at *
 rw [HSZ] at K3
 clear HSZ
 obtain ⟨b2,hb2e⟩:∃ b2,W.heap.size=b2:=⟨_,rfl⟩
 rw [hb2e] at K2 K3 ⊢
 have HB2E:=Lib.hid hb2e
 clear hb2e
 generalize b2 + 1=b3 at *
 have y0:=K2.out.at_ 0 _ rfl
 have y1:=K2.out.at_ 1 _ rfl
 have z0:=K3.out.at_ 0 _ rfl
 have z1:=K3.out.at_ 1 _ rfl
 have z2:=K3.out.at_ 2 _ rfl
 by_cases h0:k < 1
 ·have g0:k < 1:=h0
  have d0:decide (k < 1)=true:=decide_eq_true h0
  clear h0
  have HEN:Hid (er=12):=Lib.hid (by rw [HERR.out]; split <;> omega)
  clear HERR HK
  go_wp2
  go_ret
  rw [HEN.out,← HB2E.out]
  exact ⟨rfl,B.out⟩
 have g0:¬ (k < 1):=h0
 have d0:decide (k < 1)=false:=decide_eq_false h0
 clear h0
 by_cases h1:k > 5
 ·have g1:k > 5:=h1
  have d1:decide (k > 5)=true:=decide_eq_true h1
  clear h1
  have HEN:Hid (er=12):=Lib.hid (by rw [HERR.out]; split <;> omega)
  clear HERR HK
  go_wp2
  go_ret
  rw [HEN.out,← HB2E.out]
  exact ⟨rfl,B.out⟩
 have g1:¬ (k > 5):=h1
 have d1:decide (k > 5)=false:=decide_eq_false h1
 clear h1
 by_cases h2:i < 0
 ·have g2:i < 0:=h2
  have d2:decide (i < 0)=true:=decide_eq_true h2
  clear h2
  have HEN:Hid (er=3):=Lib.hid (by rw [HERR.out]; split <;> omega)
  clear HERR HK
  go_wp2
  go_ret
  rw [HEN.out,← HB2E.out]
  exact ⟨rfl,B.out⟩
 have g2:¬ (i < 0):=h2
 have d2:decide (i < 0)=false:=decide_eq_false h2
 clear h2
 by_cases h3:i > (l1:Int)
 ·have g3:i > (l1:Int):=h3
  have d3:decide (i > (l1:Int))=true:=decide_eq_true h3
  clear h3
  have HEN:Hid (er=3):=Lib.hid (by rw [HERR.out]; split <;> omega)
  clear HERR HK
  go_wp2
  go_ret
  rw [HEN.out,← HB2E.out]
  exact ⟨rfl,B.out⟩
 have g3:¬ (i > (l1:Int)):=h3
 have d3:decide (i > (l1:Int))=false:=decide_eq_false h3
 clear h3
 by_cases h4:j < 0
 ·have g4:j < 0:=h4
  have d4:decide (j < 0)=true:=decide_eq_true h4
  clear h4
  have HEN:Hid (er=3):=Lib.hid (by rw [HERR.out]; split <;> omega)
  clear HERR HK
  go_wp2
  go_ret
  rw [HEN.out,← HB2E.out]
  exact ⟨rfl,B.out⟩
 have g4:¬ (j < 0):=h4
 have d4:decide (j < 0)=false:=decide_eq_false h4
 clear h4
 by_cases h5:j > (l2:Int)
 ·have g5:j > (l2:Int):=h5
  have d5:decide (j > (l2:Int))=true:=decide_eq_true h5
  clear h5
  have HEN:Hid (er=3):=Lib.hid (by rw [HERR.out]; split <;> omega)
  clear HERR HK
  go_wp2
  go_ret
  rw [HEN.out,← HB2E.out]
  exact ⟨rfl,B.out⟩
 have g5:¬ (j > (l2:Int)):=h5
 have d5:decide (j > (l2:Int))=false:=decide_eq_false h5
 clear h5
 exact absurd HK.out (fun h=>h (by omega))

def stI (x:Int × Int × Int):List Value:=[.int .i64 x.1,.int .i64 x.2.1,.int .i64 x.2.2]
noncomputable def totV (r:Int × Int):Value:=.tuple #[.string (if r.1=0 then qT r.2 else ⟨#[]⟩),.int .i64 r.1]
set_option maxRecDepth 100000 in
set_option maxHeartbeats 8000000 in
theorem qtotal_any (q:CQ) (ok:OkQ q) (l:List (Int × Int × Int)) (hl:l.length≤1000) (sl sr v:Value) (w:World) (he:Env w) (hq:QAt w sl sr q) (hv:SAt stI 3 w v l) :
  Calls Tryz.prog 66 #[.agg #[sl,sr,.string (qT (2 * q.ch)),.string (qT (2 * q.mi)),.string (qT (2 * q.ga)),.string (qT (2 * q.re))],v] w fun e w'=>e=.returned (totV (runF q 0 0 0 l))∧Below w.heap.size w w':=by
 have HE:=Lib.hid he
 have HQ:=Lib.hid hq
 have HV:=Lib.hid hv
 have OK:=Lib.hid ok
 have hll:=ok.hl
 have hrr:=ok.hr
 have B:=Lib.hid (Below.refl w.heap.size w)
 obtain ⟨A1,n1,rfl,_⟩:=hq.l
 obtain ⟨A2,n2,rfl,_⟩:=hq.r
 obtain ⟨A,c,rfl,_⟩:=hv
 clear he hq ok
 obtain ⟨R,hR⟩:∃ R,runF q 0 0 0 l=R:=⟨_,rfl⟩
 rw [hR]
 have HR:=Lib.hid hR
 clear hR
 have HCH:=Lib.hid (fun W (h:Below w.heap.size w W)=>check_ok q OK.out (.slice A1 q.L.length n1) (.slice A2 q.R.length n2) W (HE.out.below h) (HQ.out.below h))
 have HCS:=Lib.hid (fun (x:Int × Int × Int)=>cstepI_any q OK.out x.1 x.2.1 x.2.2 (.slice A1 q.L.length n1) (.slice A2 q.R.length n2) w HQ.out)
 have HCO:=Lib.hid (fun (k i j:Nat) hk hs=>cost_any q OK.out k i j hk hs (.slice A1 q.L.length n1) (.slice A2 q.R.length n2) w HE.out HQ.out)
 have HBD:=Lib.hid (cst_bdS q OK.out)
 clear HQ
 go_enter Tryz.func66, Tryz.ntmps66
 obtain ⟨l1,hl1⟩:∃ n,q.L.length=n:=⟨_,rfl⟩
 obtain ⟨l2,hl2⟩:∃ n,q.R.length=n:=⟨_,rfl⟩
 have HL1:=Lib.hid hl1
 have HL2:=Lib.hid hl2
 rw [hl1,hl2] at HCH HCS HCO
 rw [hl1,hl2]
 rw [hl1] at hll
 rw [hl2] at hrr
 clear hl1 hl2
 generalize qT (2 * q.ch)=c1 at *
 generalize qT (2 * q.mi)=c2 at *
 generalize qT (2 * q.ga)=c3 at *
 generalize qT (2 * q.re)=c4 at *
 go_upto_region 1 with (fail)
 have K2:=Lib.hid (Blk.fresh w #[.slice A1 l1 n1,.slice A2 l2 n2,.string c1,.string c2,.string c3,.string c4] 32)
 have q2:=below_new w (.cells #[.slice A1 l1 n1,.slice A2 l2 n2,.string c1,.string c2,.string c3,.string c4] 32)
 replace B:=Lib.hid (B.out.trans (q2.mono B.out.size))
 clear q2
 generalize (w.alloc (.cells #[.slice A1 l1 n1,.slice A2 l2 n2,.string c1,.string c2,.string c3,.string c4] 32))=W1 at *
 obtain ⟨b2,hb2e⟩:∃ b2,w.heap.size=b2:=⟨_,rfl⟩
 have HB2E:=Lib.hid hb2e
 rw [hb2e] at K2 ⊢
 clear hb2e
 have y0:=K2.out.at_ 0 _ rfl
 have y1:=K2.out.at_ 1 _ rfl
 have y2:=K2.out.at_ 2 _ rfl
 have y3:=K2.out.at_ 3 _ rfl
 have y4:=K2.out.at_ 4 _ rfl
 have y5:=K2.out.at_ 5 _ rfl
 go_wp2_with (first
  | (go_at_call 44; with_reducible refine (HCH.out _ B.out).mono ?_; rintro e9 wx ⟨rfl,q9⟩; replace K2:=Lib.hid (K2.out.below q9); replace B:=Lib.hid (B.out.trans (q9.mono B.out.size)); clear q9)
  | fail "arm")
 clear y0 y1 y2 y3 y4 y5
 go_loopw [7,8,9,20] (fun sv iv jv kv wr=>∃ (k i j:Nat) (s:Int),k≤l.length∧sv=.string (qT s)∧iv=.int .i64 i∧jv=.int .i64 j∧kv=.int .i64 k∧(i≤l1∧j≤l2∧0≤s∧s≤60000 * (i + j))∧runF q i j s (l.drop k)=R∧Blk wr b2 #[.slice A1 l1 n1,.slice A2 l2 n2,.string c1,.string c2,.string c3,.string c4] 32 ∧ Below w.heap.size w wr) (fun _ _ _ kv _=>l.length - (intOf kv).toNat)
 case atStart=>exact ⟨0,0,0,0,Nat.zero_le _,by rw [qT_zero],rfl,rfl,rfl,⟨Nat.zero_le _,Nat.zero_le _,Int.le_refl _,by omega⟩,HR.out,K2.out,B.out⟩
 case round =>
  clear B K2 HR HCH
  obtain ⟨k,i,j,s,hk,rfl,rfl,rfl,rfl,hb,hrun,k2,b⟩:=hrel
  have K2:=Lib.hid k2
  have B:=Lib.hid b
  clear k2 b
  have hi60:(i:Int)≤6∧(j:Int)≤6:=by omega
  by_cases hlt:k < l.length
  ·have hi:(k:Int) < (l.length:Int):=by omega
   obtain ⟨d,o,c1',e1,hd,q1⟩:=(HV.out.below B.out).cell k hlt
   injection e1 with e1 _ e1c
   subst e1 e1c
   have x0:wr.cell? ⟨d,o + k * 3,none⟩=_:=q1 0 _ rfl
   have x1:wr.cell? ⟨d,o + k * 3 + 1,none⟩=_:=q1 1 _ rfl
   have x2:wr.cell? ⟨d,o + k * 3 + 2,none⟩=_:=q1 2 _ rfl
   rw [List.drop_eq_getElem_cons hlt] at hrun
   generalize l[k]=xk at *
   obtain ⟨sk,si,sj⟩:=xk
   try dsimp only at x0 x1 x2
   have HCK:=Lib.hid (HCS.out (sk,si,sj))
   try dsimp only at HCK
   clear HCS
   clear q1
   go_upto_region 9 with (fail)
   have KS:=Lib.hid (Blk.fresh wr #[.int .i64 sk,.int .i64 si,.int .i64 sj] 56)
   have q9:=below_new wr (.cells #[.int .i64 sk,.int .i64 si,.int .i64 sj] 56)
   replace K2:=Lib.hid (K2.out.below q9)
   replace B:=Lib.hid (B.out.trans (q9.mono B.out.size))
   clear x0 x1 x2 q9 hd
   generalize (wr.alloc (.cells #[.int .i64 sk,.int .i64 si,.int .i64 sj] 56))=W3 at *
   generalize wr.heap.size=b11 at *
   have y0:=K2.out.at_ 0 _ rfl
   have y1:=K2.out.at_ 1 _ rfl
   have y2:=K2.out.at_ 2 _ rfl
   have y3:=K2.out.at_ 3 _ rfl
   have y4:=K2.out.at_ 4 _ rfl
   have y5:=K2.out.at_ 5 _ rfl
   have z0:=KS.out.at_ 0 _ rfl
   have z1:=KS.out.at_ 1 _ rfl
   have z2:=KS.out.at_ 2 _ rfl
   by_cases hsi:si=(i:Int)
   ·by_cases hsj:sj=(j:Int)
    ·subst hsi hsj
     have hstep:runF q i j s ((sk,(i:Int),(j:Int)) :: l.drop (k + 1))=(if errI q sk i j ≠ 0 then (errI q sk i j,0) else runF q (nxI sk.toNat i) (nxJ sk.toNat j) (s + cst q sk.toNat i j) (l.drop (k + 1))):=by
      show (if (i:Int) ≠ (i:Int) ∨ (j:Int) ≠ (j:Int) then _ else _)=_
      rw [if_neg (show ¬ ((i:Int) ≠ (i:Int) ∨ (j:Int) ≠ (j:Int)) by omega)]
     rw [hstep] at hrun
     have HRUN:=Lib.hid hrun
     clear hstep
     clear hrun
     by_cases her:errI q sk i j=0
     ·obtain ⟨k',i',j',rfl,hi',hj',hkk,hi2,hj2,hok⟩:=errI_ok her
      obtain rfl:i=i':=by omega
      obtain rfl:j=j':=by omega
      have hk5:1≤k'∧k'≤5:=by
       simp only [kinds,List.mem_cons,List.not_mem_nil,or_false] at hkk
       omega
      have HCT:=Lib.hid (HCO.out k' i j hk5 hok)
      have hcb:=HBD.out k' i j hkk
      have hadd:=rAddQ s (cst q k' i j) (by omega) (by omega) w HE.out
      have HADD:=Lib.hid hadd
      clear hadd
      have hnx:=cnext_any k' i j (by omega) (by omega) w
      rw [nzI_nat,nzJ_nat k' j hk5] at hnx
      have HNX:=Lib.hid hnx
      clear hnx
      have HRUN2:Hid (runF q (nxI k' i) (nxJ k' j) (s + cst q k' i j) (l.drop (k + 1))=R):=Lib.hid (by
       have h:=HRUN.out
       rw [if_neg (by omega),Int.toNat_natCast] at h
       exact h)
      rw [her] at HCK
      have hst:=(nx_more (i:=i) (j:=j) hkk).1
      have HB9:Hid (nxI k' i≤l1∧nxJ k' j≤l2∧0≤s + cst q k' i j∧s + cst q k' i j≤60000 * ((nxI k' i:Int) + (nxJ k' j:Int))):=Lib.hid (by
       have h1:=hok.1
       have h2:=hok.2.1
       have h3:=HL1.out
       have h4:=HL2.out
       omega)
      clear hcb hst hok HRUN her hkk
      generalize cst q k' i j=cc at *
      generalize nxI k' i=ni at *
      generalize nxJ k' j=nj at *
      go_wp2_with (first
       | (go_at_call 61; with_reducible refine (HCK.out _ B.out).mono ?_; rintro e9 wx ⟨rfl,q9⟩; replace K2:=Lib.hid (K2.out.below q9); replace KS:=Lib.hid (KS.out.below q9); replace B:=Lib.hid (B.out.trans (q9.mono B.out.size)); clear q9; have y0:=K2.out.at_ 0 _ rfl; have y1:=K2.out.at_ 1 _ rfl; have y2:=K2.out.at_ 2 _ rfl; have y3:=K2.out.at_ 3 _ rfl; have y4:=K2.out.at_ 4 _ rfl; have y5:=K2.out.at_ 5 _ rfl; have z0:=KS.out.at_ 0 _ rfl; have z1:=KS.out.at_ 1 _ rfl; have z2:=KS.out.at_ 2 _ rfl)
       | (go_at_call 62; with_reducible refine (HCT.out _ B.out).mono ?_; rintro e9 wx ⟨rfl,q9⟩; replace K2:=Lib.hid (K2.out.below q9); replace KS:=Lib.hid (KS.out.below q9); replace B:=Lib.hid (B.out.trans (q9.mono B.out.size)); clear q9; have y0:=K2.out.at_ 0 _ rfl; have y1:=K2.out.at_ 1 _ rfl; have y2:=K2.out.at_ 2 _ rfl; have y3:=K2.out.at_ 3 _ rfl; have y4:=K2.out.at_ 4 _ rfl; have y5:=K2.out.at_ 5 _ rfl; have z0:=KS.out.at_ 0 _ rfl; have z1:=KS.out.at_ 1 _ rfl; have z2:=KS.out.at_ 2 _ rfl)
       | (go_at_call 21; with_reducible refine (HADD.out _ B.out).mono ?_; rintro e9 wx ⟨rfl,q9⟩; replace K2:=Lib.hid (K2.out.below q9); replace KS:=Lib.hid (KS.out.below q9); replace B:=Lib.hid (B.out.trans (q9.mono B.out.size)); clear q9; have y0:=K2.out.at_ 0 _ rfl; have y1:=K2.out.at_ 1 _ rfl; have y2:=K2.out.at_ 2 _ rfl; have y3:=K2.out.at_ 3 _ rfl; have y4:=K2.out.at_ 4 _ rfl; have y5:=K2.out.at_ 5 _ rfl; have z0:=KS.out.at_ 0 _ rfl; have z1:=KS.out.at_ 1 _ rfl; have z2:=KS.out.at_ 2 _ rfl)
       | (go_at_call 51; with_reducible refine (HNX.out _ B.out).mono ?_; rintro e9 wx ⟨rfl,q9⟩; replace K2:=Lib.hid (K2.out.below q9); replace KS:=Lib.hid (KS.out.below q9); replace B:=Lib.hid (B.out.trans (q9.mono B.out.size)); clear q9; have y0:=K2.out.at_ 0 _ rfl; have y1:=K2.out.at_ 1 _ rfl; have y2:=K2.out.at_ 2 _ rfl; have y3:=K2.out.at_ 3 _ rfl; have y4:=K2.out.at_ 4 _ rfl; have y5:=K2.out.at_ 5 _ rfl; have z0:=KS.out.at_ 0 _ rfl; have z1:=KS.out.at_ 1 _ rfl; have z2:=KS.out.at_ 2 _ rfl)
       | fail "arm")
      exact ⟨⟨k + 1,ni,nj,s + cc,by omega,rfl,rfl,rfl,by go_num,HB9.out,HRUN2.out,K2.out,B.out⟩,by simp [intOf]; omega⟩
     ·have HR9:Hid (R=(errI q sk i j,0)):=Lib.hid (by rw [← HRUN.out,if_pos her])
      clear HRUN
      generalize errI q sk i j=er at *
      have hn:(er == 0)=false:=by rw [beq_eq_false_iff_ne]; exact her
      have HTV:Hid (totV (er,0)=.tuple #[.string ⟨#[]⟩,.int .i64 er]):=Lib.hid (by unfold totV; dsimp only; rw [if_neg her])
      go_wp2_with (first
       | (go_at_call 61; with_reducible refine (HCK.out _ B.out).mono ?_; rintro e9 wx ⟨rfl,q9⟩; replace K2:=Lib.hid (K2.out.below q9); replace KS:=Lib.hid (KS.out.below q9); replace B:=Lib.hid (B.out.trans (q9.mono B.out.size)); clear q9; have y0:=K2.out.at_ 0 _ rfl; have y1:=K2.out.at_ 1 _ rfl; have y2:=K2.out.at_ 2 _ rfl; have y3:=K2.out.at_ 3 _ rfl; have y4:=K2.out.at_ 4 _ rfl; have y5:=K2.out.at_ 5 _ rfl; have z0:=KS.out.at_ 0 _ rfl; have z1:=KS.out.at_ 1 _ rfl; have z2:=KS.out.at_ 2 _ rfl)
       | fail "arm")
      go_ret2
      rw [HR9.out,HTV.out,← HB2E.out]
      exact ⟨rfl,B.out⟩
    ·have HR9:Hid (R=(6,0)):=Lib.hid (by
      rw [← hrun]
      show (if si ≠ (i:Int) ∨ sj ≠ (j:Int) then _ else _)=_
      exact if_pos (.inr hsj))
     clear hrun
     have n1:¬ si ≠ (i:Int):=fun h=>h hsi
     have m1:(si == (i:Int))=true:=by rw [beq_iff_eq]; exact hsi
     have m2:(sj == (j:Int))=false:=by rw [beq_eq_false_iff_ne]; exact hsj
     go_wp2
     go_ret2
     rw [HR9.out,← HB2E.out]
     exact ⟨rfl,B.out⟩
   ·have HR9:Hid (R=(6,0)):=Lib.hid (by
     rw [← hrun]
     show (if si ≠ (i:Int) ∨ sj ≠ (j:Int) then _ else _)=_
     exact if_pos (.inl hsi))
    clear hrun
    have m1:(si == (i:Int))=false:=by rw [beq_eq_false_iff_ne]; exact hsi
    go_wp2
    go_ret2
    rw [HR9.out,← HB2E.out]
    exact ⟨rfl,B.out⟩
  ·have hkl:k=l.length:=by omega
   subst hkl
   have hi:¬ (l.length:Int) < (l.length:Int):=by omega
   have hi2:decide ((l.length:Int) < (l.length:Int))=false:=decide_eq_false hi
   rw [List.drop_length] at hrun
   have hrun2:(if i=q.L.length∧j=q.R.length then ((0:Int),s) else (25,0))=R:=hrun
   rw [HL1.out,HL2.out] at hrun2
   have HRUN:=Lib.hid hrun2
   clear hrun hrun2
   have y0:=K2.out.at_ 0 _ rfl
   have y1:=K2.out.at_ 1 _ rfl
   have y2:=K2.out.at_ 2 _ rfl
   have y3:=K2.out.at_ 3 _ rfl
   have y4:=K2.out.at_ 4 _ rfl
   have y5:=K2.out.at_ 5 _ rfl
   by_cases hil:i=l1
   ·by_cases hjl:j=l2
    ·have HR9:Hid (R=(0,s)):=Lib.hid (by rw [← HRUN.out,if_pos ⟨hil,hjl⟩])
     subst hil hjl
     clear HRUN
     go_wp2
     go_ret2
     rw [HR9.out,← HB2E.out]
     exact ⟨rfl,B.out⟩
    ·have HR9:Hid (R=(25,0)):=Lib.hid (by rw [← HRUN.out,if_neg (fun h=>hjl h.2)])
     clear HRUN
     have m1:((i:Int) == (l1:Int))=true:=by rw [beq_iff_eq]; omega
     have m2:((j:Int) == (l2:Int))=false:=by rw [beq_eq_false_iff_ne]; omega
     go_wp2
     go_ret2
     rw [HR9.out,← HB2E.out]
     exact ⟨rfl,B.out⟩
   ·have HR9:Hid (R=(25,0)):=Lib.hid (by rw [← HRUN.out,if_neg (fun h=>hil h.1)])
    clear HRUN
    have m1:((i:Int) == (l1:Int))=false:=by rw [beq_eq_false_iff_ne]; omega
    go_wp2
    go_ret2
    rw [HR9.out,← HB2E.out]
    exact ⟨rfl,B.out⟩

end Go.Proofs.YthhkmihjnnfpgaaGreatDoor
