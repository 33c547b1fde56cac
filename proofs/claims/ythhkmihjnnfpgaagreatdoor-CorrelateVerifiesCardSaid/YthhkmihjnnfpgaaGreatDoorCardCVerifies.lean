/- CorrelateVerifies: for every input the law returns true and leaves what it reads as it was: the row proved, and its tied card closed. Conditions: those of the given row alone (the listed tables and errors of the library stand as the program's text lays them). -/
import Derived.Test.YthhkmihjnnfpgaaGreatDoorGCorW
import Derived.Test.YthhkmihjnnfpgaaGreatDoorGOpen44
import Derived.ChangeMaps5
namespace Go.Proofs.YthhkmihjnnfpgaaGreatDoor
set_option linter.all false
section
open Go.RowKit

attribute [local go_sem] Oper.semAt_some

set_option maxRecDepth 100000 in
set_option maxHeartbeats 8000000 in
theorem corVerifies_walk (p:PL) (hp:p.ok) (sk si sj:Nat) (hsk:sk < 256) (hsi:si < 256) (hsj:sj < 256) (X:ByteArray) (vl vr:Value) (w:World) (he:Env w) (hl:BAt w vl p.l) (hr:BAt w vr p.r) :
  Calls Tryz.prog 10 #[.agg #[vl,vr,.int .u8 p.c0,.int .u8 p.c1,.int .u8 p.c2,.int .u8 p.c3],.agg #[.int .u8 sk,.int .u8 si,.int .u8 sj,.string X]] w fun e w'=>e=.returned (.bool true)∧Below w.heap.size w w':=by
 obtain ⟨A1,k1,rfl,hk1⟩:=hl.cap
 obtain ⟨A2,k2,rfl,hk2⟩:=hr.cap
 have HE:=Lib.hid he
 have HL:=Lib.hid hl
 have HR:=Lib.hid hr
 have B:=Lib.hid (Below.refl w.heap.size w)
 clear he hl hr
 go_enter Tryz.func10,Tryz.ntmps10
 go_upto_region 1 with (fail)
 have hz_:(w.alloc (.cells #[.slice A1 p.l.length k1,.slice A2 p.r.length k2,.int .u8 p.c0,.int .u8 p.c1,.int .u8 p.c2,.int .u8 p.c3] 25)).heap.size=w.heap.size + 1:=by simp
 have k_:=Blk.fresh w #[.slice A1 p.l.length k1,.slice A2 p.r.length k2,.int .u8 p.c0,.int .u8 p.c1,.int .u8 p.c2,.int .u8 p.c3] 25
 have q_:=below_new w (.cells #[.slice A1 p.l.length k1,.slice A2 p.r.length k2,.int .u8 p.c0,.int .u8 p.c1,.int .u8 p.c2,.int .u8 p.c3] 25)
 generalize (w.alloc (.cells #[.slice A1 p.l.length k1,.slice A2 p.r.length k2,.int .u8 p.c0,.int .u8 p.c1,.int .u8 p.c2,.int .u8 p.c3] 25))=W1 at *
 obtain ⟨b2,hg_⟩:∃ g,w.heap.size=g:=⟨_,rfl⟩
 rw [hg_] at k_ ⊢
 rw [hg_] at hz_
 have HZ:=Lib.hid hz_
 clear hz_
 replace B:=Lib.hid (B.out.trans (q_.mono B.out.size))
 have K2:=Lib.hid k_
 clear q_ k_ hg_
 have k_:=Blk.fresh W1 #[.int .u8 sk,.int .u8 si,.int .u8 sj,.string X] 80
 have q_:=below_new W1 (.cells #[.int .u8 sk,.int .u8 si,.int .u8 sj,.string X] 80)
 generalize (W1.alloc (.cells #[.int .u8 sk,.int .u8 si,.int .u8 sj,.string X] 80))=W2 at *
 rw [HZ.out] at k_
 replace K2:=Lib.hid (K2.out.below q_)
 replace B:=Lib.hid (B.out.trans (q_.mono B.out.size))
 have K3:=Lib.hid k_
 clear q_ k_ HZ
 have HBA:Hid (BAt W2 (.slice A1 p.l.length k1) p.l∧BAt W2 (.slice A2 p.r.length k2) p.r):=Lib.hid ⟨HL.out.below B.out,HR.out.below B.out⟩
 have HKN:=Lib.hid (fun W (h:Below w.heap.size w W)=>known44_any W (HE.out.below h))
 by_cases hlen:X.size > 20
 ·have g1:(X.size:Int) > 20:=by omega
  have g2:decide ((X.size:Int) > 20)=true:=decide_eq_true g1
  have g3:20 < X.size:=hlen
  go_wp2_with (first
   | (go_at_call 13; with_reducible refine (HKN.out _ B.out).mono ?_; rintro e W3 ⟨rfl,q_W3⟩; replace K2:=Lib.hid (K2.out.below q_W3); replace K3:=Lib.hid (K3.out.below q_W3); replace B:=Lib.hid (B.out.trans (q_W3.mono B.out.size)); clear q_W3; have y3:=K3.out.at_ 3 _ rfl)
   | fail "arm")
  exact bodyPost_ret (v:=.bool true) (by kernel_rfl) rfl ⟨rfl,B.out⟩
 have g1:¬ (X.size:Int) > 20:=by omega
 have g2:decide ((X.size:Int) > 20)=false:=decide_eq_false g1
 have g3:¬ 20 < X.size:=by omega
 have HXS:Hid (X.size≤20):=Lib.hid (by omega)
 clear hlen
 go_upto_region 3 with (first
  | (go_at_call 13; with_reducible refine (HKN.out _ B.out).mono ?_; rintro e W3 ⟨rfl,q_W3⟩; replace K2:=Lib.hid (K2.out.below q_W3); replace K3:=Lib.hid (K3.out.below q_W3); replace B:=Lib.hid (B.out.trans (q_W3.mono B.out.size)); clear q_W3; have y3:=K3.out.at_ 3 _ rfl)
  | fail "arm")
 clear HKN g1 g2 g3 y3
 have y0:=K2.out.at_ 0 _ rfl
 have y1:=K2.out.at_ 1 _ rfl
 have y2:=K2.out.at_ 2 _ rfl
 have y3:=K2.out.at_ 3 _ rfl
 have y4:=K2.out.at_ 4 _ rfl
 have y5:=K2.out.at_ 5 _ rfl
 go_wp2_with (fail)
 clear HBA
 clear y0 y1 y2 y3 y4 y5
 with_reducible refine (make44_any p hp _ _ _ (HE.out.below B.out) (HL.out.below B.out) (HR.out.below B.out)).mono ?_
 rintro e W4 ⟨v1,v2,rfl,hq4,q_W4⟩
 replace K2:=Lib.hid (K2.out.below q_W4)
 replace K3:=Lib.hid (K3.out.below q_W4)
 replace B:=Lib.hid (B.out.trans (q_W4.mono B.out.size))
 clear q_W4
 obtain ⟨a1,g1,e1,_⟩:=hq4.l
 obtain ⟨a2,g2,e2,_⟩:=hq4.r
 subst e1 e2
 have HQ:=Lib.hid hq4
 clear hq4
 have OK:=Lib.hid p.qok
 generalize p.q=q at *
 clear K2
 go_upto_region 4 with (fail)
 have k_:=Blk.fresh W4 #[.slice a1 q.L.length g1,.slice a2 q.R.length g2,.string (qT (2 * q.ch)),.string (qT (2 * q.mi)),.string (qT (2 * q.ga)),.string (qT (2 * q.re))] 32
 have q_:=below_new W4 (.cells #[.slice a1 q.L.length g1,.slice a2 q.R.length g2,.string (qT (2 * q.ch)),.string (qT (2 * q.mi)),.string (qT (2 * q.ga)),.string (qT (2 * q.re))] 32)
 generalize (W4.alloc (.cells #[.slice a1 q.L.length g1,.slice a2 q.R.length g2,.string (qT (2 * q.ch)),.string (qT (2 * q.mi)),.string (qT (2 * q.ga)),.string (qT (2 * q.re))] 32))=W5 at *
 obtain ⟨b5,hg_⟩:∃ g,W4.heap.size=g:=⟨_,rfl⟩
 rw [hg_] at k_ ⊢
 replace K3:=Lib.hid (K3.out.below q_)
 replace HQ:=Lib.hid (HQ.out.below q_)
 replace B:=Lib.hid (B.out.trans (q_.mono B.out.size))
 have K5:=Lib.hid k_
 clear q_ k_ hg_
 have y0:=K5.out.at_ 0 _ rfl
 have y1:=K5.out.at_ 1 _ rfl
 have y2:=K5.out.at_ 2 _ rfl
 have y3:=K5.out.at_ 3 _ rfl
 have y4:=K5.out.at_ 4 _ rfl
 have y5:=K5.out.at_ 5 _ rfl
 go_wp2_with (fail)
 clear y0 y1 y2 y3 y4 y5
 have HQ5:=HQ
 have K55:=K5
 have K35:=K3
 have B5:=B
 with_reducible refine (potPub_any q OK.out _ _ W5 (HE.out.below B.out) HQ.out).mono ?_
 rintro e W6 ⟨ob,rb,rfl,hrb,htab,hlo,hlr,q_W6⟩
 have TAB:=Lib.hid htab
 have HRB:=Lib.hid hrb
 have HLO:Hid (W5.heap.size≤ob∧∀ g ∈ rb,W5.heap.size≤g∧g < W6.heap.size):=Lib.hid ⟨hlo,fun g hg=>⟨hlr g hg,htab.lt2 g hg⟩⟩
 have B56:=Lib.hid q_W6
 have HLO1:=Lib.hid htab.lt1
 clear htab hrb hlo hlr
 replace K3:=Lib.hid (K3.out.below q_W6)
 replace HQ:=Lib.hid (HQ.out.below q_W6)
 replace K5:=Lib.hid (K5.out.below q_W6)
 replace B:=Lib.hid (B.out.trans (q_W6.mono B.out.size))
 clear q_W6
 obtain ⟨N,hN⟩:∃ n,q.L.length + 1=n:=⟨_,rfl⟩
 obtain ⟨M,hM⟩:∃ n,q.R.length + 1=n:=⟨_,rfl⟩
 have HN:=Lib.hid hN
 have HM:=Lib.hid hM
 rw [hN]
 clear hN hM
 go_upto_region 5 with (fail)
 have y0:=K5.out.at_ 0 _ rfl
 have y1:=K5.out.at_ 1 _ rfl
 have y2:=K5.out.at_ 2 _ rfl
 have y3:=K5.out.at_ 3 _ rfl
 have y4:=K5.out.at_ 4 _ rfl
 have y5:=K5.out.at_ 5 _ rfl
 go_wp2_with (fail)
 clear y0 y1 y2 y3 y4 y5
 with_reducible refine (best_any q OK.out _ _ W6 (HE.out.below B.out) HQ.out).mono ?_
 rintro e W7 ⟨v,rfl,hrow,q_W7⟩
 obtain ⟨va,vc,e1⟩:=hrow.len_eval
 subst e1
 have HROW:=Lib.hid hrow
 have HS6:=Lib.hid q_W7.size
 clear hrow
 replace K3:=Lib.hid (K3.out.below q_W7)
 replace HQ:=Lib.hid (HQ.out.below q_W7)
 replace K5:=Lib.hid (K5.out.below q_W7)
 replace TAB:=Lib.hid (TAB.out.below q_W7)
 replace B:=Lib.hid (B.out.trans (q_W7.mono B.out.size))
 replace B56:=Lib.hid (B56.out.trans (q_W7.mono B56.out.size))
 clear q_W7
 obtain ⟨na,hna⟩:∃ n,(way q 0 0).length=n:=⟨_,rfl⟩
 have HNA:=Lib.hid hna
 rw [hna]
 rw [hna] at HROW
 clear hna
 go_upto_region 6 with (fail)
 have k_:=Blk.fresh W7 #[.slice va na vc,.string (qT (rst q 0 0))] 36
 have q_:=below_new W7 (.cells #[.slice va na vc,.string (qT (rst q 0 0))] 36)
 generalize (W7.alloc (.cells #[.slice va na vc,.string (qT (rst q 0 0))] 36))=W8 at *
 obtain ⟨b8,hg_⟩:∃ g,W7.heap.size=g:=⟨_,rfl⟩
 rw [hg_] at k_ ⊢
 have B7:=Lib.hid q_
 have HGB7:=Lib.hid hg_
 have L58:=Lib.hid K5.out.lt
 rw [hg_] at L58
 replace K3:=Lib.hid (K3.out.below q_)
 replace HQ:=Lib.hid (HQ.out.below q_)
 replace K5:=Lib.hid (K5.out.below q_)
 replace TAB:=Lib.hid (TAB.out.below q_)
 replace HROW:=Lib.hid (HROW.out.below q_)
 replace B:=Lib.hid (B.out.trans (q_.mono B.out.size))
 replace B56:=Lib.hid (B56.out.trans (q_.mono B56.out.size))
 have K8:=Lib.hid k_
 clear q_ k_ hg_
 have y0:=K5.out.at_ 0 _ rfl
 have y1:=K5.out.at_ 1 _ rfl
 have y2:=K5.out.at_ 2 _ rfl
 have y3:=K5.out.at_ 3 _ rfl
 have y4:=K5.out.at_ 4 _ rfl
 have y5:=K5.out.at_ 5 _ rfl
 go_wp2_with (fail)
 clear y0 y1 y2 y3 y4 y5
 with_reducible refine (fronts_any q OK.out _ _ W8 (HE.out.below B.out) HQ.out).mono ?_
 rintro e W9 ⟨ob2,rb2,rfl,hrb2,htab2,hlo2,hlr2,q_W9⟩
 have TAB2:=Lib.hid htab2
 have HRB2:=Lib.hid hrb2
 clear htab2 hrb2 hlo2 hlr2
 replace K3:=Lib.hid (K3.out.below q_W9)
 replace HQ:=Lib.hid (HQ.out.below q_W9)
 replace K5:=Lib.hid (K5.out.below q_W9)
 replace TAB:=Lib.hid (TAB.out.below q_W9)
 replace HROW:=Lib.hid (HROW.out.below q_W9)
 replace K8:=Lib.hid (K8.out.below q_W9)
 replace B:=Lib.hid (B.out.trans (q_W9.mono B.out.size))
 replace B56:=Lib.hid (B56.out.trans (q_W9.mono B56.out.size))
 clear q_W9
 rw [HN.out]
 rw [HM.out] at TAB TAB2
 rw [HN.out] at HRB HRB2
 go_wp2
 go_loopw [11] (fun iv wr=>∃ i:Nat,i≤N∧iv=.int .i64 i∧Below W9.heap.size W9 wr) (fun iv _=>N - (intOf iv).toNat)
 case atStart=>exact ⟨0,Nat.zero_le _,rfl,Below.refl _ _⟩
 case round =>
  obtain ⟨i,hi,rfl,hb9⟩:=hrel
  have B9:=Lib.hid hb9
  clear hb9
  by_cases hlt:i < N
  ·have hz1:(i:Int) < (N:Int):=by omega
   have hwi:IntKind.i64.wrap ((i:Int) + 1)=(i:Int) + 1:=IntWalk.i64_in _ (by have:=HN.out; have:=OK.out.hl; omega)
   have tab1:=TAB.out.below B9.out
   have tab2:=TAB2.out.below B9.out
   have l1:i < rb.length:=by rw [HRB.out]; exact hlt
   have l2:i < rb2.length:=by rw [HRB2.out]; exact hlt
   have LO:=Lib.hid tab1.lt1
   have LO2:=Lib.hid tab2.lt1
   have C1:=Lib.hid (tab1.cell1 i l1)
   have C2:=Lib.hid (tab2.cell1 i l2)
   clear tab1 tab2
   generalize rb[i]=r1 at C1
   generalize rb2[i]=r2 at C2
   clear l1 l2
   go_upto_region 12 with (fail)
   refine wp_tab (.v 59 (.slice (some ⟨ob,0,none⟩) N N) :: .v 60 (.int .i64 i) :: .v 61 (.pointer (some ⟨ob,i,none⟩)) :: .v 62 (.slice (some ⟨r1,0,none⟩) M M) :: .v 63 (.int .i64 (M:Nat)) :: .v 64 (.slice (some ⟨ob2,0,none⟩) N N) :: .v 65 (.int .i64 i) :: .v 66 (.pointer (some ⟨ob2,i,none⟩)) :: .v 67 (.slice (some ⟨r2,0,none⟩) M M) :: .v 68 (.int .i64 (M:Nat)) :: .v 69 (.bool false) :: []) [] [] [] [] [] [] [] (by kernel_rfl) (Below.refl _ _) trivial trivial ⟨pu,pu,?_,?_,?_,pu,pu,?_,?_,?_,?_,trivial⟩ ?_
   ·intro L a U ho J hn dd KK kk; refine .free rfl ?_; have r0:=J.read 0 rfl (dd.get 0 rfl); have r1:=J.read 1 rfl (dd.get 1 rfl); go_simp; exact kk.out _ _ (J.st 2 rfl rfl)
   ·intro L a U ho J hn dd KK kk; refine .free rfl ?_; have r2:=J.read 2 rfl (dd.get 2 rfl); have e0:=(J.bb.cell (p:=⟨ob,i,none⟩) LO.out).trans C1.out; go_simp; exact kk.out _ _ (J.st 3 rfl rfl)
   ·intro L a U ho J hn dd KK kk; refine .free rfl ?_; have r3:=J.read 3 rfl (dd.get 3 rfl); go_simp; exact kk.out _ _ (J.st 4 rfl rfl)
   ·intro L a U ho J hn dd KK kk; refine .free rfl ?_; have r5:=J.read 5 rfl (dd.get 5 rfl); have r6:=J.read 6 rfl (dd.get 6 rfl); go_simp; exact kk.out _ _ (J.st 7 rfl rfl)
   ·intro L a U ho J hn dd KK kk; refine .free rfl ?_; have r7:=J.read 7 rfl (dd.get 7 rfl); have e0:=(J.bb.cell (p:=⟨ob2,i,none⟩) LO2.out).trans C2.out; go_simp; exact kk.out _ _ (J.st 8 rfl rfl)
   ·intro L a U ho J hn dd KK kk; refine .free rfl ?_; have r8:=J.read 8 rfl (dd.get 8 rfl); go_simp; exact kk.out _ _ (J.st 9 rfl rfl)
   ·intro L a U ho J hn dd KK kk; refine .free rfl ?_; have r4:=J.read 4 rfl (dd.get 4 rfl); have r9:=J.read 9 rfl (dd.get 9 rfl); go_simp; exact kk.out _ _ (J.st 10 rfl rfl)
   rintro σ W10 _ _ _ _ q10
   simp only [slotsOf,finX,nval,nvalN,nvalA,Nat.reduceBEq,cond_true,cond_false,putAll,Act.put,List.setIfInBounds_toArray,List.set_cons_succ,List.set_cons_zero]
   replace B9:=Lib.hid (B9.out.trans (q10.out.mono B9.out.size))
   clear q10 LO LO2 C1 C2
   go_wp2
   go_loopw [12] (fun jv wx=>∃ j:Nat,j≤M∧jv=.int .i64 j∧Below W9.heap.size W9 wx) (fun jv _=>M - (intOf jv).toNat)
   case atStart=>exact ⟨0,Nat.zero_le _,rfl,B9.out⟩
   case round =>
    clear B9
    obtain ⟨j,hj,rfl,hb9⟩:=hrel
    have B9:=Lib.hid hb9
    clear hb9
    have tab1:=TAB.out.below B9.out
    have tab2:=TAB2.out.below B9.out
    have l1:i < rb.length:=by rw [HRB.out]; exact hlt
    have l2:i < rb2.length:=by rw [HRB2.out]; exact hlt
    have LO:=Lib.hid tab1.lt1
    have LO2:=Lib.hid tab2.lt1
    have C1:=Lib.hid (tab1.cell1 i l1)
    have C2:=Lib.hid (tab2.cell1 i l2)
    by_cases hlj:j < M
    ·have hz3:(j:Int) < (M:Int):=by omega
     have hwj:IntKind.i64.wrap ((j:Int) + 1)=(j:Int) + 1:=IntWalk.i64_in _ (by have:=HM.out; have:=OK.out.hr; omega)
     have C3:=Lib.hid (tab1.cell2 i j l1 hlj)
     have C4:=Lib.hid (tab2.cell2 i j l2 hlj)
     have LR1:=Lib.hid (tab1.lt2 _ (List.getElem_mem l1))
     have LR2:=Lib.hid (tab2.lt2 _ (List.getElem_mem l2))
     clear tab1 tab2
     generalize rb[i]=r1 at C1 C3 LR1
     generalize rb2[i]=r2 at C2 C4 LR2
     clear l1 l2
     generalize frnT q i j=tx at *
     have c1:=C1.out
     go_upto_region 17 with (fail)
     clear c1
     refine wp_tab (.v 79 (.slice (some ⟨ob,0,none⟩) N N) :: .v 80 (.int .i64 i) :: .v 81 (.pointer (some ⟨ob,i,none⟩)) :: .v 82 (.slice (some ⟨r1,0,none⟩) M M) :: .v 83 (.int .i64 j) :: .v 84 (.pointer (some ⟨r1,j,none⟩)) :: .v 85 (.string tx) :: .v 86 (.slice (some ⟨ob2,0,none⟩) N N) :: .v 87 (.int .i64 i) :: .v 88 (.pointer (some ⟨ob2,i,none⟩)) :: .v 89 (.slice (some ⟨r2,0,none⟩) M M) :: .v 90 (.int .i64 j) :: .v 91 (.pointer (some ⟨r2,j,none⟩)) :: .v 92 (.string tx) :: .v 93 (.bool false) :: []) [] [] [] [] [] [] [] (by kernel_rfl) (Below.refl _ _) trivial trivial ⟨pu,pu,?_,?_,pu,?_,?_,pu,pu,?_,?_,pu,?_,?_,?_,trivial⟩ ?_
     ·intro L a U ho J hn dd KK kk; refine .free rfl ?_; have r0:=J.read 0 rfl (dd.get 0 rfl); have r1:=J.read 1 rfl (dd.get 1 rfl); go_simp; exact kk.out _ _ (J.st 2 rfl rfl)
     ·intro L a U ho J hn dd KK kk; refine .free rfl ?_; have r2:=J.read 2 rfl (dd.get 2 rfl); have e0:=(J.bb.cell (p:=⟨ob,i,none⟩) LO.out).trans C1.out; go_simp; exact kk.out _ _ (J.st 3 rfl rfl)
     ·intro L a U ho J hn dd KK kk; refine .free rfl ?_; have r3:=J.read 3 rfl (dd.get 3 rfl); have r4:=J.read 4 rfl (dd.get 4 rfl); go_simp; exact kk.out _ _ (J.st 5 rfl rfl)
     ·intro L a U ho J hn dd KK kk; refine .free rfl ?_; have r5:=J.read 5 rfl (dd.get 5 rfl); have e0:=(J.bb.cell (p:=⟨r1,j,none⟩) LR1.out).trans C3.out; go_simp; exact kk.out _ _ (J.st 6 rfl rfl)
     ·intro L a U ho J hn dd KK kk; refine .free rfl ?_; have r7:=J.read 7 rfl (dd.get 7 rfl); have r8:=J.read 8 rfl (dd.get 8 rfl); go_simp; exact kk.out _ _ (J.st 9 rfl rfl)
     ·intro L a U ho J hn dd KK kk; refine .free rfl ?_; have r9:=J.read 9 rfl (dd.get 9 rfl); have e0:=(J.bb.cell (p:=⟨ob2,i,none⟩) LO2.out).trans C2.out; go_simp; exact kk.out _ _ (J.st 10 rfl rfl)
     ·intro L a U ho J hn dd KK kk; refine .free rfl ?_; have r10:=J.read 10 rfl (dd.get 10 rfl); have r11:=J.read 11 rfl (dd.get 11 rfl); go_simp; exact kk.out _ _ (J.st 12 rfl rfl)
     ·intro L a U ho J hn dd KK kk; refine .free rfl ?_; have r12:=J.read 12 rfl (dd.get 12 rfl); have e0:=(J.bb.cell (p:=⟨r2,j,none⟩) LR2.out).trans C4.out; go_simp; exact kk.out _ _ (J.st 13 rfl rfl)
     ·intro L a U ho J hn dd KK kk; refine .free rfl ?_; have r6:=J.read 6 rfl (dd.get 6 rfl); have r13:=J.read 13 rfl (dd.get 13 rfl); go_simp; exact kk.out _ _ (J.st 14 rfl rfl)
     rintro σ W10 _ _ _ _ q10
     simp only [slotsOf,finX,nval,nvalN,nvalA,Nat.reduceBEq,cond_true,cond_false,putAll,Act.put,List.setIfInBounds_toArray,List.set_cons_succ,List.set_cons_zero]
     replace B9:=Lib.hid (B9.out.trans (q10.out.mono B9.out.size))
     clear q10 LO LO2 C1 C2 C3 C4 LR1 LR2
     go_wp2
     exact ⟨⟨j + 1,by omega,by go_num,B9.out⟩,by simp [intOf]; omega⟩
    ·have hz3:¬ (j:Int) < (M:Int):=by omega
     have hz4:decide ((j:Int) < (M:Int))=false:=decide_eq_false hz3
     clear tab1 tab2
     generalize rb[i]=r1 at C1
     clear l1
     have c1:=C1.out
     go_wp2
     exact ⟨⟨i + 1,by omega,by go_num,B9.out⟩,by simp [intOf]; omega⟩
  have hz3:¬ (i:Int) < (N:Int):=by omega
  have hz4:decide ((i:Int) < (N:Int))=false:=decide_eq_false hz3
  clear hlt hi
  have q_wr:=B9.out
  replace K3:=Lib.hid (K3.out.below q_wr)
  replace HQ:=Lib.hid (HQ.out.below q_wr)
  replace K5:=Lib.hid (K5.out.below q_wr)
  replace TAB:=Lib.hid (TAB.out.below q_wr)
  replace HROW:=Lib.hid (HROW.out.below q_wr)
  replace K8:=Lib.hid (K8.out.below q_wr)
  replace TAB2:=Lib.hid (TAB2.out.below q_wr)
  replace B:=Lib.hid (B.out.trans (q_wr.mono B.out.size))
  replace B56:=Lib.hid (B56.out.trans (q_wr.mono B56.out.size))
  clear q_wr
  clear B9 TAB2
  have HWL:Hid ((way q 0 0).length≤12):=Lib.hid (by
   have h:=way_len q _ 0 0 rfl (Nat.zero_le _) (Nat.zero_le _)
   have h1:=OK.out.hl
   have h2:=OK.out.hr
   unfold left at h
   omega)
  have HRUN:Hid (runF q 0 0 0 (castS (way q 0 0))=(0,rst q 0 0)):=Lib.hid (by rw [way_run q _ 0 0 rfl (Nat.zero_le _) (Nat.zero_le _) 0,Int.zero_add])
  have HSA:Hid (SAt stI 3 wr (.slice va na vc) (castS (way q 0 0))):=Lib.hid (by
   have h:=HROW.out
   rw [← HNA.out] at h ⊢
   have h2:=cast_SAB (row_lookB stC_len h)
   rw [castS_len] at h2
   exact h2)
  have HTS:Hid ((qT (rst q 0 0)).size≤20):=Lib.hid (by have h:=rst_bdQ q OK.out 0 0 (Nat.zero_le _) (Nat.zero_le _); exact qT_size _ (by omega))
  have HCS:Hid (∀ i j,i≤q.L.length→j≤q.R.length→(frnT q i j).size≤20):=Lib.hid (frnT_size q OK.out)
  have hv1:=verify_any q OK.out (castS (way q 0 0)) (by rw [castS_len]; have:=HWL.out; omega) (qT (rst q 0 0)) HTS.out (frnT q) HCS.out ob rb (by rw [HRB.out,HN.out]) _ _ _ wr (HE.out.below B.out) HQ.out HSA.out (by rw [HM.out]; exact TAB.out)
  rw [HN.out] at hv1
  have HV1:Hid (Calls Tryz.prog 35 #[.agg #[.slice a1 q.L.length g1,.slice a2 q.R.length g2,.string (qT (2 * q.ch)),.string (qT (2 * q.mi)),.string (qT (2 * q.ga)),.string (qT (2 * q.re))],.agg #[.slice va na vc,.string (qT (rst q 0 0))],.slice (some ⟨ob,0,none⟩) N N] wr fun e w'=>e=.returned (.int .i64 0)∧Below wr.heap.size wr w'):=Lib.hid (hv1.mono (fun e w' ⟨⟨z,h1,h2⟩,h3⟩=>⟨by rw [h1,ver_ok q OK.out _ HRUN.out z h2],h3⟩))
  clear hv1 HTS HCS
  have y0:=K5.out.at_ 0 _ rfl
  have y1:=K5.out.at_ 1 _ rfl
  have y2:=K5.out.at_ 2 _ rfl
  have y3:=K5.out.at_ 3 _ rfl
  have y4:=K5.out.at_ 4 _ rfl
  have y5:=K5.out.at_ 5 _ rfl
  have a0:=K8.out.at_ 0 _ rfl
  have a1x:=K8.out.at_ 1 _ rfl
  go_upto_region 21 with (first
   | (go_at_call 35; with_reducible refine HV1.out.mono ?_; rintro e W12 ⟨rfl,q_W12⟩)
   | fail "arm")
  clear hz3 hz4 HV1 HSA a0 a1x
  clear y0 y1 y2 y3 y4 y5
  replace K3:=Lib.hid (K3.out.below q_W12)
  replace HQ:=Lib.hid (HQ.out.below q_W12)
  replace K5:=Lib.hid (K5.out.below q_W12)
  replace TAB:=Lib.hid (TAB.out.below q_W12)
  replace HROW:=Lib.hid (HROW.out.below q_W12)
  replace K8:=Lib.hid (K8.out.below q_W12)
  replace B:=Lib.hid (B.out.trans (q_W12.mono B.out.size))
  replace B56:=Lib.hid (B56.out.trans (q_W12.mono B56.out.size))
  clear q_W12
  have y0:=K3.out.at_ 0 _ rfl
  have y1:=K3.out.at_ 1 _ rfl
  have y2:=K3.out.at_ 2 _ rfl
  have y3:=K3.out.at_ 3 _ rfl
  have hN0:(N:Int) ≠ 0:=by have:=HN.out; omega
  have HM0:Hid (¬ M=0):=Lib.hid (by have:=HM.out; omega)
  have HWJ:Hid (IntKind.i64.wrap (sj:Int)=(sj:Int)):=Lib.hid (IntWalk.i64_in _ (by omega))
  go_upto_region 22 with (fail)
  clear hN0
  clear y0 y1 y2 y3
  obtain ⟨i0,hi0⟩:∃ n:Nat,si % N=n:=⟨_,rfl⟩
  have hi1:((si:Int) % (N:Int))=(i0:Int):=by rw [← hi0]; rfl
  have HI0:Hid (i0 < N):=Lib.hid (by rw [← hi0]; exact Nat.mod_lt _ (by have:=HN.out; omega))
  rw [hi1]
  clear hi0 hi1
  obtain ⟨j0,hj0⟩:∃ n:Nat,sj % M=n:=⟨_,rfl⟩
  have HMJ:Hid ((sj:Int).tmod (M:Int)=(j0:Int)):=Lib.hid (by rw [← hj0]; rfl)
  have HJ0:Hid (j0 < M):=Lib.hid (by rw [← hj0]; exact Nat.mod_lt _ (by have:=HM.out; omega))
  clear hj0
  have hiN:(i0:Int) < (N:Int):=by have:=HI0.out; omega
  have li:i0 < rb.length:=by rw [HRB.out]; exact HI0.out
  have LO:=Lib.hid TAB.out.lt1
  have C1:=Lib.hid (TAB.out.cell1 i0 li)
  obtain ⟨r1,hr1⟩:∃ r,rb[i0]=r:=⟨_,rfl⟩
  have HR1:Hid (∀ h:i0 < rb.length,rb[i0]=r1):=Lib.hid (fun _=>hr1)
  rw [hr1] at C1
  clear hr1 li
  refine wp_tab (.v 105 (.pointer (some ⟨b2 + 1,2,none⟩)) :: .v 106 (.int .u8 sj) :: .v 107 (.int .i64 sj) :: .v 108 (.slice (some ⟨ob,0,none⟩) N N) :: .v 109 (.int .i64 i0) :: .v 110 (.pointer (some ⟨ob,i0,none⟩)) :: .v 111 (.slice (some ⟨r1,0,none⟩) M M) :: .v 112 (.int .i64 (M:Nat)) :: .v 113 (.int .i64 j0) :: .v 14 (.int .i64 j0) :: []) [] [⟨b2 + 1,#[.int .u8 sk,.int .u8 si,.int .u8 sj,.string X],80,none⟩] [] [] [] [] [] (by kernel_rfl) (Below.refl _ _) ⟨K3.out,trivial⟩ trivial ⟨pu,ld 0 2,?_,pu,pu,?_,?_,?_,?_,pu,trivial⟩ ?_
  ·intro L a U ho J hn dd KK kk; refine .free rfl ?_; have r1:=J.read 1 rfl (dd.get 1 rfl); have h1:=HWJ.out; go_simp; exact kk.out _ _ (J.st 2 rfl rfl)
  ·intro L a U ho J hn dd KK kk; refine .free rfl ?_; have r3:=J.read 3 rfl (dd.get 3 rfl); have r4:=J.read 4 rfl (dd.get 4 rfl); go_simp; exact kk.out _ _ (J.st 5 rfl rfl)
  ·intro L a U ho J hn dd KK kk; refine .free rfl ?_; have r5:=J.read 5 rfl (dd.get 5 rfl); have e0:=(J.bb.cell (p:=⟨ob,i0,none⟩) LO.out).trans C1.out; go_simp; exact kk.out _ _ (J.st 6 rfl rfl)
  ·intro L a U ho J hn dd KK kk; refine .free rfl ?_; have r6:=J.read 6 rfl (dd.get 6 rfl); go_simp; exact kk.out _ _ (J.st 7 rfl rfl)
  ·intro L a U ho J hn dd KK kk; refine .free rfl ?_; have r2:=J.read 2 rfl (dd.get 2 rfl); have r7:=J.read 7 rfl (dd.get 7 rfl); have h1:=HM0.out; have h2:=HMJ.out; go_simp; exact kk.out _ _ (J.st 8 rfl rfl)
  rintro σ W13 _ _ _ _ q_W13
  simp only [slotsOf,finX,nval,nvalN,nvalA,Nat.reduceBEq,cond_true,cond_false,putAll,Act.put,List.setIfInBounds_toArray,List.set_cons_succ,List.set_cons_zero]
  have q_13:=q_W13.out
  clear q_W13 LO C1
  replace K3:=Lib.hid (K3.out.below q_13)
  replace HQ:=Lib.hid (HQ.out.below q_13)
  replace K5:=Lib.hid (K5.out.below q_13)
  replace TAB:=Lib.hid (TAB.out.below q_13)
  replace HROW:=Lib.hid (HROW.out.below q_13)
  replace K8:=Lib.hid (K8.out.below q_13)
  replace B:=Lib.hid (B.out.trans (q_13.mono B.out.size))
  replace B56:=Lib.hid (B56.out.trans (q_13.mono B56.out.size))
  clear q_13
  have hjM:(j0:Int) < (M:Int):=by have:=HJ0.out; omega
  have HLL:Hid ((castS (way q 0 0)).length≤1000):=Lib.hid (by rw [castS_len]; have:=HWL.out; omega)
  have HSA:Hid (SAt stI 3 W13 (.slice va na vc) (castS (way q 0 0))):=Lib.hid (by
   have h:=HROW.out
   rw [← HNA.out] at h ⊢
   have h2:=cast_SAB (row_lookB stC_len h)
   rw [castS_len] at h2
   exact h2)
  have HR0:Hid ((runF q 0 0 0 (castS (way q 0 0))).1=0):=Lib.hid (by rw [HRUN.out])
  have LO:=Lib.hid TAB.out.lt1
  have C1:Hid (W13.cell? ⟨ob,i0,none⟩=some (.slice (some ⟨r1,0,none⟩) M M)):=Lib.hid (by
   have li:i0 < rb.length:=by rw [HRB.out]; exact HI0.out
   have h:=TAB.out.cell1 i0 li
   rw [HR1.out] at h
   exact h)
  have hk4:sk % 4=0 ∨ sk % 4=1 ∨ sk % 4=2 ∨ sk % 4=3:=by omega
  rcases hk4 with hk4 | hk4 | hk4 | hk4
  ·have hz4:(sk:Int) % 4=0:=by omega
   clear hk4
   have y0:=K3.out.at_ 0 _ rfl
   have y1:=K3.out.at_ 1 _ rfl
   have y2:=K3.out.at_ 2 _ rfl
   have y3:=K3.out.at_ 3 _ rfl
   go_upto_region 25 with (fail)
   clear hz4
   clear y0 y1 y2 y3
   refine wpIn_wide.1 (wpIn_phase (n:=9) (.inl rfl) 12 8 (.v 119 (.slice (some ⟨ob,0,none⟩) N N) :: .v 120 (.int .i64 i0) :: .v 121 (.pointer (some ⟨ob,i0,none⟩)) :: .v 122 (.slice (some ⟨r1,0,none⟩) M M) :: .v 123 (.int .i64 j0) :: .v 124 (.pointer (some ⟨b2 + 1,3,none⟩)) :: .v 125 (.string X) :: .v 126 (.pointer (some ⟨r1,j0,none⟩)) :: []) [] [⟨b2 + 1,#[.int .u8 sk,.int .u8 si,.int .u8 sj,.string X],80,none⟩] [] [] [] [] [] (by kernel_rfl) (by intro hL; obtain ⟨_,_,hL⟩:=hL; first | exact absurd hL.1 (by intro h; cases h) | (obtain ⟨_,_,hv,_⟩:=hL; cases hv) | (obtain ⟨_,hv,_⟩:=hL; cases hv) | (obtain ⟨_,hv⟩:=hL; cases hv.1)) (Below.refl _ _) ⟨K3.out,trivial⟩ trivial ⟨pu,pu,?_,?_,pu,pu,ld 0 3,?_,trivial⟩ ?_)
   ·intro L a U ho J hn dd KK kk; refine .free rfl ?_; have r119:=J.read 0 rfl (dd.get 0 rfl); have r120:=J.read 1 rfl (dd.get 1 rfl); go_simp; exact kk.out _ _ (J.st 2 rfl rfl)
   ·intro L a U ho J hn dd KK kk; refine .free rfl ?_; have r121:=J.read 2 rfl (dd.get 2 rfl); have e0:=(J.bb.cell (p:=⟨ob,i0,none⟩) LO.out).trans C1.out; go_simp; exact kk.out _ _ (J.st 3 rfl rfl)
   ·intro L a U ho J hn dd KK kk; refine .free rfl ?_; have r122:=J.read 3 rfl (dd.get 3 rfl); have r123:=J.read 4 rfl (dd.get 4 rfl); go_simp; exact kk.out _ _ (J.st 7 rfl rfl)
   rintro σ W14 _ _ _ _ q_14
   simp only [slotsOf,finX,nval,nvalN,nvalA,Nat.reduceBEq,cond_true,cond_false,putAll,Act.put,List.setIfInBounds_toArray,List.set_cons_succ,List.set_cons_zero]
   simp only [List.drop_succ_cons,List.drop_zero]
   have q14:=q_14.out
   replace K3:=Lib.hid (K3.out.below q14)
   replace HQ:=Lib.hid (HQ.out.below q14)
   replace K5:=Lib.hid (K5.out.below q14)
   replace TAB:=Lib.hid (TAB.out.below q14)
   replace HROW:=Lib.hid (HROW.out.below q14)
   replace K8:=Lib.hid (K8.out.below q14)
   replace HSA:=Lib.hid (HSA.out.below q14)
   replace B:=Lib.hid (B.out.trans (q14.mono B.out.size))
   replace B56:=Lib.hid (B56.out.trans (q14.mono B56.out.size))
   clear q14
   clear q_14 LO C1
   have li:i0 < rb.length:=by rw [HRB.out]; exact HI0.out
   have hblk:Blk W14 r1 ((List.range M).map (fun j=>Value.string (frnT q i0 j))).toArray 28:=by
    have h:=TAB.out.row i0 li
    rw [HR1.out] at h
    exact h
   have f1:=hblk.free j0
   have f2:=hblk.at_ j0 (.string (frnT q i0 j0)) (by
    rw [List.getElem?_toArray,List.getElem?_map,List.getElem?_range HJ0.out]; rfl)
   have wr9:=Wrote.set hblk j0 (.string X)
   have hmem:r1 ∈ rb:=by have h:=List.getElem_mem li; rw [HR1.out] at h; exact h
   have hlo:=HLO.out.2 r1 hmem
   have tab9:=TAB.out.set i0 j0 li (.string X)
   rw [HR1.out] at tab9
   have row9:=HROW.out.set_ty hblk (by decide) j0 (.string X)
   have HK:=Lib.hid hblk
   clear hblk
   gi_wp2
   generalize (W14.setCell ⟨r1,j0,none⟩ (.string X))=W15 at *
   replace B:=Lib.hid (B.out.trans (wr9.below.mono (by have:=B5.out.size; omega)))
   replace K5:=Lib.hid (K5.out.keptC wr9.kept (by have:=K55.out.lt; omega))
   replace K8:=Lib.hid (K8.out.keptC wr9.kept (by have:=HGB7.out; have:=HS6.out; omega))
   replace HQ:=Lib.hid (HQ5.out.below (B56.out.trans (wr9.below.mono hlo.1)))
   replace HSA:Hid (SAt stI 3 W15 (.slice va na vc) (castS (way q 0 0))):=Lib.hid (by
    have h:=row9
    rw [← HNA.out] at h ⊢
    have h2:=cast_SAB (row_lookB stC_len h)
    rw [castS_len] at h2
    exact h2)
   replace TAB:Hid (TabT W15 ob rb M (fun p r=>if p=i0∧r=j0 then X else frnT q p r) 71 28):=Lib.hid (tab9.congr (fun p r _ _=>by
    unfold updV
    show (if p=i0∧r=j0 then Value.string X else Value.string (frnT q p r))=Value.string (if p=i0∧r=j0 then X else frnT q p r)
    by_cases h:p=i0∧r=j0
    ·rw [if_pos h,if_pos h]
    ·rw [if_neg h,if_neg h]))
   have HTS:Hid ((qT (rst q 0 0)).size≤20):=Lib.hid (by have h:=rst_bdQ q OK.out 0 0 (Nat.zero_le _) (Nat.zero_le _); exact qT_size _ (by omega))
   have HCS:Hid (∀ i j,i≤q.L.length→j≤q.R.length→((fun p r=>if p=i0∧r=j0 then X else frnT q p r) i j).size≤20):=Lib.hid (fun i j hi hj=>by
    show (if i=i0∧j=j0 then X else frnT q i j).size≤20
    split
    ·exact HXS.out
    ·exact frnT_size q OK.out i j hi hj)
   clear wr9 row9 tab9 hmem hlo li HK f1 f2
   obtain ⟨z,hz⟩:=PrfS.ex q (qT (rst q 0 0)) (fun p r=>if p=i0∧r=j0 then X else frnT q p r) ((qT (rst q 0 0)) ≠ totX (runF q 0 0 0 (castS (way q 0 0))))
   have HZ9:=Lib.hid hz
   clear hz
   have HV2:Hid (Ret Tryz.prog W15 35 #[.agg #[.slice a1 q.L.length g1,.slice a2 q.R.length g2,.string (qT (2 * q.ch)),.string (qT (2 * q.mi)),.string (qT (2 * q.ga)),.string (qT (2 * q.re))],.agg #[.slice va na vc,.string (qT (rst q 0 0))],.slice (some ⟨ob,0,none⟩) N N] (.int .i64 z)):=Lib.hid (fun U hU=>by
    have h:=verify_any q OK.out (castS (way q 0 0)) HLL.out (qT (rst q 0 0)) HTS.out (fun p r=>if p=i0∧r=j0 then X else frnT q p r) HCS.out ob rb (by rw [HRB.out,HN.out]) _ _ _ U (HE.out.below (B.out.trans (hU.mono B.out.size))) (HQ.out.below hU) (HSA.out.below hU) (by rw [HM.out]; exact TAB.out.below hU)
    rw [HN.out] at h
    exact h.mono (fun e w' ⟨⟨y,h1,h2⟩,h3⟩=>⟨by rw [h1,ver_prf HR0.out h2 HZ9.out],h3⟩))
   have HV3:Hid (Ret Tryz.prog W15 36 #[.agg #[.slice a1 q.L.length g1,.slice a2 q.R.length g2,.string (qT (2 * q.ch)),.string (qT (2 * q.mi)),.string (qT (2 * q.ga)),.string (qT (2 * q.re))],.agg #[.slice va na vc,.string (qT (rst q 0 0))],.slice (some ⟨ob,0,none⟩) N N] (.int .i64 z)):=Lib.hid (fun U hU=>by
    have h:=proves_any q OK.out (castS (way q 0 0)) HLL.out (qT (rst q 0 0)) HTS.out (fun p r=>if p=i0∧r=j0 then X else frnT q p r) HCS.out ob rb (by rw [HRB.out,HN.out]) _ _ _ U (HE.out.below (B.out.trans (hU.mono B.out.size))) (HQ.out.below hU) (HSA.out.below hU) (by rw [HM.out]; exact TAB.out.below hU)
    rw [HN.out] at h
    exact h.mono (fun e w' ⟨⟨y,h1,h2⟩,h3⟩=>⟨by rw [h1,h2.uni HZ9.out],h3⟩))
   go_upto_region 39 with (fail)
   refine wp_tab (.v 188 (.agg #[.slice a1 q.L.length g1,.slice a2 q.R.length g2,.string (qT (2 * q.ch)),.string (qT (2 * q.mi)),.string (qT (2 * q.ga)),.string (qT (2 * q.re))]) :: .v 189 (.agg #[.slice va na vc,.string (qT (rst q 0 0))]) :: .v 190 (.slice (some ⟨ob,0,none⟩) N N) :: .v 191 (.int .i64 z) :: .v 192 (.agg #[.slice a1 q.L.length g1,.slice a2 q.R.length g2,.string (qT (2 * q.ch)),.string (qT (2 * q.mi)),.string (qT (2 * q.ga)),.string (qT (2 * q.re))]) :: .v 193 (.agg #[.slice va na vc,.string (qT (rst q 0 0))]) :: .v 194 (.slice (some ⟨ob,0,none⟩) N N) :: .v 195 (.int .i64 z) :: .v 196 (.bool true) :: .v 4 (.bool true) :: []) [] [⟨b5,#[.slice a1 q.L.length g1,.slice a2 q.R.length g2,.string (qT (2 * q.ch)),.string (qT (2 * q.mi)),.string (qT (2 * q.ga)),.string (qT (2 * q.re))],32,none⟩,⟨b8,#[.slice va na vc,.string (qT (rst q 0 0))],36,none⟩] [] [] [] [] [] (by kernel_rfl) (Below.refl _ _) ⟨K5.out,K8.out,trivial⟩ trivial ⟨ld 0 0,ld 1 0,pu,cl HV2.out,ld 0 0,ld 1 0,pu,cl HV3.out,?_,pu,trivial⟩ ?_
   ·intro L a U ho J hn dd KK kk; refine .free rfl ?_; have r3:=J.read 3 rfl (dd.get 3 rfl); have r7:=J.read 7 rfl (dd.get 7 rfl); go_simp; exact kk.out _ _ (J.st 8 rfl rfl)
   rintro σ W40 _ _ _ _ q40
   simp only [slotsOf,finX,nval,nvalN,nvalA,Nat.reduceBEq,cond_true,cond_false,putAll,Act.put,List.setIfInBounds_toArray,List.set_cons_succ,List.set_cons_zero]
   have BF:=Lib.hid (B.out.trans (q40.out.mono B.out.size))
   go_wp2
   exact bodyPost_ret (v:=.bool true) (by kernel_rfl) rfl ⟨rfl,BF.out⟩
  ·have hz4:(sk:Int) % 4=1:=by omega
   clear hk4
   have y0:=K3.out.at_ 0 _ rfl
   have y1:=K3.out.at_ 1 _ rfl
   have y2:=K3.out.at_ 2 _ rfl
   have y3:=K3.out.at_ 3 _ rfl
   have f1:=K8.out.free 1
   have f2:=K8.out.at_ 1 _ rfl
   have wr9:=Wrote.set K8.out 1 (.string X)
   have k89:=K8.out.set 1 (.string X)
   have row9:=HROW.out.set_ty K8.out (by decide) 1 (.string X)
   have hb8:W6.heap.size≤b8:=by have:=HGB7.out; have:=HS6.out; omega
   have hw56:W5.heap.size≤W6.heap.size:=by have:=HLO.out.1; have:=HLO1.out; omega
   have hb5s:=B5.out.size
   clear K8
   go_wp2
   clear hz4 f1 f2
   clear y0 y1 y2 y3
   dsimp only [Array.setIfInBounds] at k89
   generalize (W13.setCell ⟨b8,1,none⟩ (.string X))=W15 at *
   have K8:=Lib.hid k89
   replace B:=Lib.hid (B.out.trans (wr9.below.mono (by omega)))
   replace K5:=Lib.hid (K5.out.keptC wr9.kept (by have:=K55.out.lt; omega))
   replace HQ:=Lib.hid (HQ5.out.below (B56.out.trans (wr9.below.mono (by omega))))
   replace TAB:=Lib.hid (TAB.out.keptC wr9.kept (by have:=HLO1.out; omega) (fun g hg=>by have:=(HLO.out.2 g hg).2; omega))
   replace HSA:Hid (SAt stI 3 W15 (.slice va na vc) (castS (way q 0 0))):=Lib.hid (by
    have h:=row9
    rw [← HNA.out] at h ⊢
    have h2:=cast_SAB (row_lookB stC_len h)
    rw [castS_len] at h2
    exact h2)
   have HTS:=HXS
   have HCS:Hid (∀ i j,i≤q.L.length→j≤q.R.length→(frnT q i j).size≤20):=Lib.hid (frnT_size q OK.out)
   clear wr9 row9 k89 hb8 LO C1
   obtain ⟨z,hz⟩:=PrfS.ex q X (frnT q) (X ≠ totX (runF q 0 0 0 (castS (way q 0 0))))
   have HZ9:=Lib.hid hz
   clear hz
   have HV2:Hid (Ret Tryz.prog W15 35 #[.agg #[.slice a1 q.L.length g1,.slice a2 q.R.length g2,.string (qT (2 * q.ch)),.string (qT (2 * q.mi)),.string (qT (2 * q.ga)),.string (qT (2 * q.re))],.agg #[.slice va na vc,.string X],.slice (some ⟨ob,0,none⟩) N N] (.int .i64 z)):=Lib.hid (fun U hU=>by
    have h:=verify_any q OK.out (castS (way q 0 0)) HLL.out X HTS.out (frnT q) HCS.out ob rb (by rw [HRB.out,HN.out]) _ _ _ U (HE.out.below (B.out.trans (hU.mono B.out.size))) (HQ.out.below hU) (HSA.out.below hU) (by rw [HM.out]; exact TAB.out.below hU)
    rw [HN.out] at h
    exact h.mono (fun e w' ⟨⟨y,h1,h2⟩,h3⟩=>⟨by rw [h1,ver_prf HR0.out h2 HZ9.out],h3⟩))
   have HV3:Hid (Ret Tryz.prog W15 36 #[.agg #[.slice a1 q.L.length g1,.slice a2 q.R.length g2,.string (qT (2 * q.ch)),.string (qT (2 * q.mi)),.string (qT (2 * q.ga)),.string (qT (2 * q.re))],.agg #[.slice va na vc,.string X],.slice (some ⟨ob,0,none⟩) N N] (.int .i64 z)):=Lib.hid (fun U hU=>by
    have h:=proves_any q OK.out (castS (way q 0 0)) HLL.out X HTS.out (frnT q) HCS.out ob rb (by rw [HRB.out,HN.out]) _ _ _ U (HE.out.below (B.out.trans (hU.mono B.out.size))) (HQ.out.below hU) (HSA.out.below hU) (by rw [HM.out]; exact TAB.out.below hU)
    rw [HN.out] at h
    exact h.mono (fun e w' ⟨⟨y,h1,h2⟩,h3⟩=>⟨by rw [h1,h2.uni HZ9.out],h3⟩))
   go_upto_region 39 with (fail)
   refine wp_tab (.v 188 (.agg #[.slice a1 q.L.length g1,.slice a2 q.R.length g2,.string (qT (2 * q.ch)),.string (qT (2 * q.mi)),.string (qT (2 * q.ga)),.string (qT (2 * q.re))]) :: .v 189 (.agg #[.slice va na vc,.string X]) :: .v 190 (.slice (some ⟨ob,0,none⟩) N N) :: .v 191 (.int .i64 z) :: .v 192 (.agg #[.slice a1 q.L.length g1,.slice a2 q.R.length g2,.string (qT (2 * q.ch)),.string (qT (2 * q.mi)),.string (qT (2 * q.ga)),.string (qT (2 * q.re))]) :: .v 193 (.agg #[.slice va na vc,.string X]) :: .v 194 (.slice (some ⟨ob,0,none⟩) N N) :: .v 195 (.int .i64 z) :: .v 196 (.bool true) :: .v 4 (.bool true) :: []) [] [⟨b5,#[.slice a1 q.L.length g1,.slice a2 q.R.length g2,.string (qT (2 * q.ch)),.string (qT (2 * q.mi)),.string (qT (2 * q.ga)),.string (qT (2 * q.re))],32,none⟩,⟨b8,#[.slice va na vc,.string X],36,none⟩] [] [] [] [] [] (by kernel_rfl) (Below.refl _ _) ⟨K5.out,K8.out,trivial⟩ trivial ⟨ld 0 0,ld 1 0,pu,cl HV2.out,ld 0 0,ld 1 0,pu,cl HV3.out,?_,pu,trivial⟩ ?_
   ·intro L a U ho J hn dd KK kk; refine .free rfl ?_; have r3:=J.read 3 rfl (dd.get 3 rfl); have r7:=J.read 7 rfl (dd.get 7 rfl); go_simp; exact kk.out _ _ (J.st 8 rfl rfl)
   rintro σ W40 _ _ _ _ q40
   simp only [slotsOf,finX,nval,nvalN,nvalA,Nat.reduceBEq,cond_true,cond_false,putAll,Act.put,List.setIfInBounds_toArray,List.set_cons_succ,List.set_cons_zero]
   have BF:=Lib.hid (B.out.trans (q40.out.mono B.out.size))
   go_wp2
   exact bodyPost_ret (v:=.bool true) (by kernel_rfl) rfl ⟨rfl,BF.out⟩
  ·have hz4:(sk:Int) % 4=2:=by omega
   clear hk4
   have f1:=TAB.out.out.free i0
   have c1:=C1.out
   have wr9:=Wrote.set TAB.out.out i0 (.slice (some ⟨r1,0,none⟩) j0 M)
   have row9:=HROW.out.set_ty TAB.out.out (by decide) i0 (.slice (some ⟨r1,0,none⟩) j0 M)
   have hj1:j0≤M:=Nat.le_of_lt HJ0.out
   have hj2:(j0:Int)≤(M:Int):=by omega
   have hj3:(0:Int)≤(j0:Int):=by omega
   have y0:=K3.out.at_ 0 _ rfl
   have y1:=K3.out.at_ 1 _ rfl
   have y2:=K3.out.at_ 2 _ rfl
   have y3:=K3.out.at_ 3 _ rfl
   go_upto_region 30 with (fail)
   clear hz4 f1 c1 hj2 hj3
   clear y0 y1 y2 y3
   have HCL:Hid (∀ p',p' < q.L.length + 1→∃ b m cp,(W13.setCell ⟨ob,i0,none⟩ (.slice (some ⟨r1,0,none⟩) j0 M)).cell? ⟨ob,p',none⟩=some (.slice (some ⟨b,0,none⟩) m cp)∧m≤q.R.length + 1∧(p' ≠ i0→m=q.R.length + 1)∧(p'=i0→m < q.R.length + 1)):=Lib.hid (fun p' hp'=>by
    rw [HN.out] at hp'
    rw [HM.out]
    by_cases e:p'=i0
    ·subst e
     exact ⟨r1,j0,M,World.cell?_setCell_same _ _ _ C1.out,hj1,fun h=>absurd rfl h,fun _=>HJ0.out⟩
    ·have lp:p' < rb.length:=by rw [HRB.out]; exact hp'
     exact ⟨rb[p'],M,M,(World.cell?_setCell_other _ _ _ _ (by intro h; simp only [Addr.mk.injEq] at h; omega)).trans (TAB.out.cell1 p' lp),Nat.le_refl _,fun _=>rfl,fun h=>absurd h e⟩)
   generalize (W13.setCell ⟨ob,i0,none⟩ (.slice (some ⟨r1,0,none⟩) j0 M))=W15 at *
   have hlo:=HLO.out.1
   replace B:=Lib.hid (B.out.trans (wr9.below.mono (by have:=B5.out.size; omega)))
   replace K5:=Lib.hid (K5.out.keptC wr9.kept (by have:=K55.out.lt; omega))
   replace K8:=Lib.hid (K8.out.keptC wr9.kept (by have:=HGB7.out; have:=HS6.out; have:=HLO1.out; omega))
   replace HQ:=Lib.hid (HQ5.out.below (B56.out.trans (wr9.below.mono hlo)))
   have hobl:ob < W15.heap.size:=Nat.lt_of_lt_of_le LO.out wr9.below.size
   replace HSA:Hid (SAt stI 3 W15 (.slice va na vc) (castS (way q 0 0))):=Lib.hid (by
    have h:=row9
    rw [← HNA.out] at h ⊢
    have h2:=cast_SAB (row_lookB stC_len h)
    rw [castS_len] at h2
    exact h2)
   have hv:=verifyZ_any q OK.out (castS (way q 0 0)) HLL.out HR0.out (qT (rst q 0 0)) ob i0 (by have:=HN.out; have:=HI0.out; omega) _ _ _ W15 (HE.out.below B.out) HQ.out HSA.out ⟨hobl,HCL.out⟩
   rw [HN.out] at hv
   have HVZ:=Lib.hid hv
   clear hv wr9 row9 hobl hlo hj1 HCL
   have y0:=K5.out.at_ 0 _ rfl
   have y1:=K5.out.at_ 1 _ rfl
   have y2:=K5.out.at_ 2 _ rfl
   have y3:=K5.out.at_ 3 _ rfl
   have y4:=K5.out.at_ 4 _ rfl
   have y5:=K5.out.at_ 5 _ rfl
   have a0:=K8.out.at_ 0 _ rfl
   have a1x:=K8.out.at_ 1 _ rfl
   go_wp2_with (first
    | (go_at_call 35; with_reducible refine HVZ.out.mono ?_; rintro e W16 ⟨rfl,q16⟩; replace B:=Lib.hid (B.out.trans (q16.mono B.out.size)); clear q16)
    | fail "arm")
   exact bodyPost_ret (v:=.bool true) (by kernel_rfl) rfl ⟨rfl,B.out⟩
  ·have hz4:(sk:Int) % 4=3:=by omega
   clear hk4
   have a0:=K8.out.at_ 0 _ rfl
   have y0:=K3.out.at_ 0 _ rfl
   have y1:=K3.out.at_ 1 _ rfl
   have y2:=K3.out.at_ 2 _ rfl
   have y3:=K3.out.at_ 3 _ rfl
   by_cases hna:na=0
   ·have hz5:((na:Int) == 0)=true:=by rw [beq_iff_eq]; omega
    clear hna
    go_wp2
    exact bodyPost_ret (v:=.bool true) (by kernel_rfl) rfl ⟨rfl,B.out⟩
   have hz5:((na:Int) == 0)=false:=by rw [beq_eq_false_iff_ne]; omega
   have hrow:=HROW.out
   rcases hrow with ⟨h9,_⟩ | ⟨d,c9,r9,hv9,_,hne9,hb9,_⟩
   ·exact absurd (by rw [← HNA.out,h9]; rfl) hna
   injection hv9 with hv9a hv9b hv9c
   subst hv9a hv9c
   clear hv9b
   have HB9:=Lib.hid hb9
   have HN9:=Lib.hid hne9
   clear hb9 hne9
   obtain ⟨i0',z0,hi',hz0,hz1,hz2,hz3⟩:=StrElem.parts ElT
   have HFL:=Lib.hid (flat_len stC_len (way q 0 0))
   have hone:∀ u ∈ (way q 0 0).flatMap stC,u.oneCell'=true:=fun u hu=>by
    obtain ⟨x,_,hx⟩:=List.mem_flatMap.1 hu
    exact stC_one x u hx
   have HON:=Lib.hid hone
   clear hone
   have a0b:=(K8.out.below (below_new W13 (.cells #[] 56))).at_ 0 (.slice (some ⟨d,0,none⟩) na vc) rfl
   have HB13:=Lib.hid K8.out.lt
   have hna13:na≤12:=by rw [← HNA.out]; exact HWL.out
   go_wp2_with (at_builtin; go_loud (refine wpList_append_own_at _ rfl (.tmp 154) (.tmp 156) 34 rfl W13.heap.size 56 i0' z0 3 24 ElT.ht hi' hz0 hz2 hz3 hz1 (by decide) (.slice (some ⟨W13.heap.size,0,none⟩) 0 0) 0 [] rfl (World.ownsRow_made W13 #[] 0 (Nat.le_refl _) (Nat.zero_le _) rfl) ⟨d,0,none⟩ na vc ((way q 0 0).flatMap stC) rfl ?qc1 ?qc2 ?qc3 ?qc4 ?qc5 ?qc6 ?_))
   case qc1=>rw [HFL.out,HNA.out]
   case qc2 =>
    intro j u hj
    rw [Addr.add_lit]
    refine Lib.cell?_alloc_some _ ?_
    rw [Nat.zero_add]
    exact HB9.out.atL j u (by rw [List.getElem?_append_left (List.getElem?_eq_some_iff.1 hj).1]; exact hj)
   case qc3=>exact HON.out
   case qc4=>unfold maxLen; omega
   case qc5=>omega
   case qc6=>simp
   intro v' w1 hown hgrow hnil hblk
   have hT:SRow stC 3 56 w1 W13.heap.size v' (way q 0 0):=SRow.of_own (by rw [HNA.out]; simpa using hown) HN9.out
   have hB:Below W13.heap.size W13 w1:=((Below.refl _ W13).alloc (Nat.le_refl _) _).grown hgrow (by simp) (by intro k hk; simp [Value.ownBlock] at hk; omega)
   rcases hT with ⟨h9,_⟩ | ⟨d2,c2,r2,hv9,hd2,_,hb2,_⟩
   ·exact absurd h9 HN9.out
   rw [HNA.out] at hv9
   subst hv9
   have HB2:=Lib.hid hb2
   have HD2:=Lib.hid hd2
   have q_w1:=hB
   clear hown hgrow hnil hblk hB hb2 hd2 a0 a0b hi' hz0 hz1 hz2 hz3 HFL HON HB9
   clear y0 y1 y2 y3
   replace K3:=Lib.hid (K3.out.below q_w1)
   replace HQ:=Lib.hid (HQ.out.below q_w1)
   replace K5:=Lib.hid (K5.out.below q_w1)
   replace TAB:=Lib.hid (TAB.out.below q_w1)
   replace K8:=Lib.hid (K8.out.below q_w1)
   replace B:=Lib.hid (B.out.trans (q_w1.mono B.out.size))
   replace B56:=Lib.hid (B56.out.trans (q_w1.mono B56.out.size))
   clear q_w1
   have f1:=K8.out.free 0
   have f2:=K8.out.at_ 0 _ rfl
   have hb813:b8 < W13.heap.size:=HB13.out
   have hd213:=HD2.out
   have wr8:=Wrote.set K8.out 0 (.slice (some ⟨d2,0,none⟩) na c2)
   have k89:=K8.out.set 0 (.slice (some ⟨d2,0,none⟩) na c2)
   have n38:b2 + 1 ≠ b8:=fun e=>absurd (Blk.type_eq (e ▸ K3.out) K8.out) (by decide)
   have hw56:W5.heap.size≤W6.heap.size:=by have:=HLO.out.1; have:=HLO1.out; omega
   have hb8:W6.heap.size≤b8:=by have:=HGB7.out; have:=HS6.out; omega
   have hws:=B5.out.size
   replace K5:=Lib.hid (K5.out.keptC wr8.kept (by have:=K55.out.lt; omega))
   replace K3:=Lib.hid (K3.out.keptC wr8.kept n38)
   replace HB2:=Lib.hid (HB2.out.keptC wr8.kept (show d2 ≠ b8 by omega))
   replace TAB:=Lib.hid (TAB.out.keptC wr8.kept (by have:=HLO1.out; omega) (fun g hg=>by have:=(HLO.out.2 g hg).2; omega))
   replace B:=Lib.hid (B.out.trans (wr8.below.mono (by omega)))
   replace B56:=Lib.hid (B56.out.trans (wr8.below.mono (by omega)))
   clear K8
   dsimp only [Array.setIfInBounds] at k89
   go_wp2
   generalize (w1.setCell ⟨b8,0,none⟩ (.slice (some ⟨d2,0,none⟩) na c2))=w2 at *
   have K8:=Lib.hid k89
   obtain ⟨e0,he0⟩:∃ n:Nat,i0 % na=n:=⟨_,rfl⟩
   have HME:Hid ((i0:Int).tmod (na:Int)=(e0:Int)):=Lib.hid (by rw [← he0]; rfl)
   have HNZ:Hid (¬ na=0):=Lib.hid hna
   have HE0:Hid (e0 < na):=Lib.hid (by rw [← he0]; exact Nat.mod_lt _ (by omega))
   obtain ⟨s5,hs5⟩:∃ n:Int,(sj:Int) % 5=n:=⟨_,rfl⟩
   obtain ⟨kk,hkk⟩:∃ n:Nat,1 + sj % 5=n:=⟨_,rfl⟩
   have HS5:Hid ((sj:Int) % 5=s5∧(sj:Int).tmod 5=s5∧IntKind.i64.wrap s5=s5∧IntKind.i64.wrap (1 + s5)=(kk:Int)):=Lib.hid ⟨hs5,by rw [← hs5]; rfl,IntWalk.i64_in _ (by omega),by rw [IntWalk.i64_in _ (by omega)]; omega⟩
   have z1:(e0:Int) < (na:Int):=by have:=HE0.out; omega
   have z2:e0 < na:=HE0.out
   clear f1 f2 hs5 hkk he0 wr8 k89 n38 hna hz5 hz4
   refine wpIn_wide.1 (wpIn_phase (n:=9) (.inl rfl) 18 14 (.v 159 (.pointer (some ⟨b8,0,none⟩)) :: .v 160 (.slice (some ⟨d2,0,none⟩) na c2) :: .v 161 (.int .i64 i0) :: .v 162 (.pointer (some ⟨b8,0,none⟩)) :: .v 163 (.slice (some ⟨d2,0,none⟩) na c2) :: .v 164 (.int .i64 (na:Nat)) :: .v 165 (.int .i64 e0) :: .v 166 (.pointer (some ⟨b2 + 1,2,none⟩)) :: .v 167 (.int .u8 sj) :: .v 168 (.int .u8 s5) :: .v 169 (.int .i64 s5) :: .v 170 (.int .i64 (kk:Nat)) :: .v 171 (.pointer (some ⟨d2,e0 * 3,none⟩)) :: .v 172 (.pointer (some ⟨d2,e0 * 3,none⟩)) :: []) [] [⟨b8,#[.slice (some ⟨d2,0,none⟩) na c2,.string (qT (rst q 0 0))],36,none⟩,⟨b2 + 1,#[.int .u8 sk,.int .u8 si,.int .u8 sj,.string X],80,none⟩] [] [] [] [] [] (by kernel_rfl) (by intro hL; obtain ⟨_,_,hL⟩:=hL; first | exact absurd hL.1 (by intro h; cases h) | (obtain ⟨_,_,hv,_⟩:=hL; cases hv) | (obtain ⟨_,hv,_⟩:=hL; cases hv) | (obtain ⟨_,hv⟩:=hL; cases hv.1)) (Below.refl _ _) ⟨K8.out,K3.out,trivial⟩ trivial ⟨pu,ld 0 0,pu,pu,ld 0 0,?_,?_,pu,ld 1 2,?_,?_,?_,?_,?_,trivial⟩ ?_)
   ·intro L a U ho J hn dd KK kk; refine .free rfl ?_; have r163:=J.read 4 rfl (dd.get 4 rfl); go_simp; exact kk.out _ _ (J.st 5 rfl rfl)
   ·intro L a U ho J hn dd KK kk; refine .free rfl ?_; have r161:=J.read 2 rfl (dd.get 2 rfl); have r164:=J.read 5 rfl (dd.get 5 rfl); have h1:=HNZ.out; have h2:=HME.out; go_simp; exact kk.out _ _ (J.st 6 rfl rfl)
   ·intro L a U ho J hn dd KK kk; refine .free rfl ?_; have r167:=J.read 8 rfl (dd.get 8 rfl); have h1:=HS5.out.1; have h2:=HS5.out.2.1; go_simp; exact kk.out _ _ (J.st 9 rfl rfl)
   ·intro L a U ho J hn dd KK kk; refine .free rfl ?_; have r168:=J.read 9 rfl (dd.get 9 rfl); have h1:=HS5.out.2.2.1; go_simp; exact kk.out _ _ (J.st 10 rfl rfl)
   ·intro L a U ho J hn dd KK kk; refine .free rfl ?_; have r169:=J.read 10 rfl (dd.get 10 rfl); have h1:=HS5.out.2.2.2; go_simp; exact kk.out _ _ (J.st 11 rfl rfl)
   ·intro L a U ho J hn dd KK kk; refine .free rfl ?_; have r160:=J.read 1 rfl (dd.get 1 rfl); have r165:=J.read 6 rfl (dd.get 6 rfl); have h1:=HNZ.out; go_simp; exact kk.out _ _ (J.st 12 rfl rfl)
   ·intro L a U ho J hn dd KK kk; refine .free rfl ?_; have r171:=J.read 12 rfl (dd.get 12 rfl); go_simp; exact kk.out _ _ (J.st 13 rfl rfl)
   rintro σ W14 _ _ _ _ q_14
   simp only [slotsOf,finX,nval,nvalN,nvalA,Nat.reduceBEq,cond_true,cond_false,putAll,Act.put,List.setIfInBounds_toArray,List.set_cons_succ,List.set_cons_zero]
   simp only [List.drop_succ_cons,List.drop_zero]
   have q14:=q_14.out
   replace K3:=Lib.hid (K3.out.below q14)
   replace K5:=Lib.hid (K5.out.below q14)
   replace K8:=Lib.hid (K8.out.below q14)
   replace TAB:=Lib.hid (TAB.out.below q14)
   replace HB2:=Lib.hid (HB2.out.below q14)
   replace B:=Lib.hid (B.out.trans (q14.mono B.out.size))
   replace B56:=Lib.hid (B56.out.trans (q14.mono B56.out.size))
   clear q14
   clear q_14
   have f1:=HB2.out.free (e0 * 3)
   have hcel:=flat_get stC_len (way q 0 0) e0 0 _ _ (List.getElem?_eq_getElem (by rw [HNA.out]; exact HE0.out)) rfl
   rw [Nat.add_zero] at hcel
   have f2:=HB2.out.atL (e0 * 3) _ (by rw [List.getElem?_append_left (List.getElem?_eq_some_iff.1 hcel).1]; exact hcel)
   have wr9:=Wrote.set HB2.out (e0 * 3) (.int .i64 (kk:Nat))
   have hsa:=row_setK HB2.out e0 kk (by rw [HNA.out]; exact HE0.out) c2
   rw [HNA.out] at hsa
   have HSA0:=Lib.hid hsa
   clear hcel hsa
   gi_wp2
   generalize (W14.setCell ⟨d2,e0 * 3,none⟩ (.int .i64 (kk:Nat)))=W15 at *
   clear f1 f2 z1 z2
   replace K5:=Lib.hid (K5.out.keptC wr9.kept (by have:=K55.out.lt; omega))
   replace K8:=Lib.hid (K8.out.keptC wr9.kept (by omega))
   replace TAB:=Lib.hid (TAB.out.keptC wr9.kept (by have:=HLO1.out; omega) (fun g hg=>by have:=(HLO.out.2 g hg).2; omega))
   replace B:=Lib.hid (B.out.trans (wr9.below.mono (by omega)))
   replace B56:=Lib.hid (B56.out.trans (wr9.below.mono (by omega)))
   replace HQ:=Lib.hid (HQ5.out.below B56.out)
   clear HSA HB2 K3 LO C1
   have HSA:=HSA0
   clear HSA0 HLL
   obtain ⟨lst,hlst⟩:∃ l,castS (setK (way q 0 0) e0 kk)=l:=⟨_,rfl⟩
   have HLL:Hid (lst.length≤1000):=Lib.hid (by rw [← hlst,castS_len,setK_len]; have:=HWL.out; omega)
   have hle:lst.length=na:=by rw [← hlst,castS_len,setK_len,HNA.out]
   rw [hlst] at HSA
   clear hlst wr9
   obtain ⟨rr,hrr⟩:∃ r,runF q 0 0 0 lst=r:=⟨_,rfl⟩
   obtain ⟨er,her⟩:∃ e,rr.1=e:=⟨_,rfl⟩
   obtain ⟨sX,hsX⟩:∃ e,totX rr=e:=⟨_,rfl⟩
   have htv:totV rr=.tuple #[.string sX,.int .i64 er]:=by unfold totV; rw [← hsX,← her]; rfl
   have hto:=ltotal_any q OK.out lst HLL.out _ _ (.slice (some ⟨d2,0,none⟩) na c2) W15 (HE.out.below B.out) HQ.out HSA.out
   rw [hrr,htv] at hto
   have HTO:=Lib.hid hto
   have HRR:=Lib.hid hrr
   have HER:=Lib.hid her
   clear hto hrr her hsX htv hle
   have y0:=K5.out.at_ 0 _ rfl
   have y1:=K5.out.at_ 1 _ rfl
   have y2:=K5.out.at_ 2 _ rfl
   have y3:=K5.out.at_ 3 _ rfl
   have y4:=K5.out.at_ 4 _ rfl
   have y5:=K5.out.at_ 5 _ rfl
   have a0:=K8.out.at_ 0 _ rfl
   go_upto_region 37 with (first
    | (go_at_call 27; with_reducible refine HTO.out.mono ?_; rintro e W16 ⟨rfl,q16⟩)
    | fail "arm")
   clear a0 HTO
   clear y0 y1 y2 y3 y4 y5
   replace K5:=Lib.hid (K5.out.below q16)
   replace K8:=Lib.hid (K8.out.below q16)
   replace TAB:=Lib.hid (TAB.out.below q16)
   replace HQ:=Lib.hid (HQ.out.below q16)
   replace HSA:=Lib.hid (HSA.out.below q16)
   replace B:=Lib.hid (B.out.trans (q16.mono B.out.size))
   replace B56:=Lib.hid (B56.out.trans (q16.mono B56.out.size))
   clear q16
   have HTS:Hid ((qT (rst q 0 0)).size≤20):=Lib.hid (by have h:=rst_bdQ q OK.out 0 0 (Nat.zero_le _) (Nat.zero_le _); exact qT_size _ (by omega))
   have HCS:Hid (∀ i j,i≤q.L.length→j≤q.R.length→(frnT q i j).size≤20):=Lib.hid (frnT_size q OK.out)
   by_cases he9:er=0
   ·have hn:(er == 0)=true:=by rw [beq_iff_eq]; exact he9
    have HR9:Hid ((runF q 0 0 0 lst).1=0):=Lib.hid (by rw [HRR.out,HER.out,he9])
    subst he9
    clear HR0
    obtain ⟨z,hz⟩:=PrfS.ex q (qT (rst q 0 0)) (frnT q) ((qT (rst q 0 0)) ≠ totX (runF q 0 0 0 lst))
    have HZ9:=Lib.hid hz
    clear hz
    have HV2:Hid (Ret Tryz.prog W16 35 #[.agg #[.slice a1 q.L.length g1,.slice a2 q.R.length g2,.string (qT (2 * q.ch)),.string (qT (2 * q.mi)),.string (qT (2 * q.ga)),.string (qT (2 * q.re))],.agg #[.slice (some ⟨d2,0,none⟩) na c2,.string (qT (rst q 0 0))],.slice (some ⟨ob,0,none⟩) N N] (.int .i64 z)):=Lib.hid (fun U hU=>by
     have h:=verify_any q OK.out lst HLL.out (qT (rst q 0 0)) HTS.out (frnT q) HCS.out ob rb (by rw [HRB.out,HN.out]) _ _ _ U (HE.out.below (B.out.trans (hU.mono B.out.size))) (HQ.out.below hU) (HSA.out.below hU) (by rw [HM.out]; exact TAB.out.below hU)
     rw [HN.out] at h
     exact h.mono (fun e w' ⟨⟨y,h1,h2⟩,h3⟩=>⟨by rw [h1,ver_prf HR9.out h2 HZ9.out],h3⟩))
    have HV3:Hid (Ret Tryz.prog W16 36 #[.agg #[.slice a1 q.L.length g1,.slice a2 q.R.length g2,.string (qT (2 * q.ch)),.string (qT (2 * q.mi)),.string (qT (2 * q.ga)),.string (qT (2 * q.re))],.agg #[.slice (some ⟨d2,0,none⟩) na c2,.string (qT (rst q 0 0))],.slice (some ⟨ob,0,none⟩) N N] (.int .i64 z)):=Lib.hid (fun U hU=>by
     have h:=proves_any q OK.out lst HLL.out (qT (rst q 0 0)) HTS.out (frnT q) HCS.out ob rb (by rw [HRB.out,HN.out]) _ _ _ U (HE.out.below (B.out.trans (hU.mono B.out.size))) (HQ.out.below hU) (HSA.out.below hU) (by rw [HM.out]; exact TAB.out.below hU)
     rw [HN.out] at h
     exact h.mono (fun e w' ⟨⟨y,h1,h2⟩,h3⟩=>⟨by rw [h1,h2.uni HZ9.out],h3⟩))
    go_upto_region 39 with (fail)
    refine wp_tab (.v 188 (.agg #[.slice a1 q.L.length g1,.slice a2 q.R.length g2,.string (qT (2 * q.ch)),.string (qT (2 * q.mi)),.string (qT (2 * q.ga)),.string (qT (2 * q.re))]) :: .v 189 (.agg #[.slice (some ⟨d2,0,none⟩) na c2,.string (qT (rst q 0 0))]) :: .v 190 (.slice (some ⟨ob,0,none⟩) N N) :: .v 191 (.int .i64 z) :: .v 192 (.agg #[.slice a1 q.L.length g1,.slice a2 q.R.length g2,.string (qT (2 * q.ch)),.string (qT (2 * q.mi)),.string (qT (2 * q.ga)),.string (qT (2 * q.re))]) :: .v 193 (.agg #[.slice (some ⟨d2,0,none⟩) na c2,.string (qT (rst q 0 0))]) :: .v 194 (.slice (some ⟨ob,0,none⟩) N N) :: .v 195 (.int .i64 z) :: .v 196 (.bool true) :: .v 4 (.bool true) :: []) [] [⟨b5,#[.slice a1 q.L.length g1,.slice a2 q.R.length g2,.string (qT (2 * q.ch)),.string (qT (2 * q.mi)),.string (qT (2 * q.ga)),.string (qT (2 * q.re))],32,none⟩,⟨b8,#[.slice (some ⟨d2,0,none⟩) na c2,.string (qT (rst q 0 0))],36,none⟩] [] [] [] [] [] (by kernel_rfl) (Below.refl _ _) ⟨K5.out,K8.out,trivial⟩ trivial ⟨ld 0 0,ld 1 0,pu,cl HV2.out,ld 0 0,ld 1 0,pu,cl HV3.out,?_,pu,trivial⟩ ?_
    ·intro L a U ho J hn dd KK kk; refine .free rfl ?_; have r3:=J.read 3 rfl (dd.get 3 rfl); have r7:=J.read 7 rfl (dd.get 7 rfl); go_simp; exact kk.out _ _ (J.st 8 rfl rfl)
    rintro σ W40 _ _ _ _ q40
    simp only [slotsOf,finX,nval,nvalN,nvalA,Nat.reduceBEq,cond_true,cond_false,putAll,Act.put,List.setIfInBounds_toArray,List.set_cons_succ,List.set_cons_zero]
    have BF:=Lib.hid (B.out.trans (q40.out.mono B.out.size))
    go_wp2
    exact bodyPost_ret (v:=.bool true) (by kernel_rfl) rfl ⟨rfl,BF.out⟩
   have hn:(er == 0)=false:=by rw [beq_eq_false_iff_ne]; exact he9
   have HR9:Hid ((runF q 0 0 0 lst).1 ≠ 0):=Lib.hid (by rw [HRR.out,HER.out]; exact he9)
   have hv:=verify_any q OK.out lst HLL.out (qT (rst q 0 0)) HTS.out (frnT q) HCS.out ob rb (by rw [HRB.out,HN.out]) _ _ _ W16 (HE.out.below B.out) HQ.out HSA.out (by rw [HM.out]; exact TAB.out)
   rw [HN.out] at hv
   have HV9:Hid (Calls Tryz.prog 35 #[.agg #[.slice a1 q.L.length g1,.slice a2 q.R.length g2,.string (qT (2 * q.ch)),.string (qT (2 * q.mi)),.string (qT (2 * q.ga)),.string (qT (2 * q.re))],.agg #[.slice (some ⟨d2,0,none⟩) na c2,.string (qT (rst q 0 0))],.slice (some ⟨ob,0,none⟩) N N] W16 fun e w'=>e=.returned (.int .i64 er)∧Below W16.heap.size W16 w'):=Lib.hid (hv.mono (fun e w' ⟨⟨y,h1,h2⟩,h3⟩=>⟨by rw [h1,ver_err HR9.out h2,HRR.out,HER.out],h3⟩))
   clear hv he9
   have y0:=K5.out.at_ 0 _ rfl
   have y1:=K5.out.at_ 1 _ rfl
   have y2:=K5.out.at_ 2 _ rfl
   have y3:=K5.out.at_ 3 _ rfl
   have y4:=K5.out.at_ 4 _ rfl
   have y5:=K5.out.at_ 5 _ rfl
   have a0:=K8.out.at_ 0 _ rfl
   have a1x:=K8.out.at_ 1 _ rfl
   go_wp2_with (first
    | (go_at_call 35; with_reducible refine HV9.out.mono ?_; rintro e W17 ⟨rfl,q17⟩; replace B:=Lib.hid (B.out.trans (q17.mono B.out.size)); clear q17)
    | fail "arm")
   exact bodyPost_ret (v:=.bool true) (by kernel_rfl) rfl ⟨rfl,B.out⟩

end
open Go.ChangeShapes Go.WideShapes Go.ChangeAt Go.RowKit Go.ChangeMaps

set_option maxRecDepth 100000 in
theorem correlateVerifies_lifted (os:Os) (started:os.Started) (H:Type) (enc:TypeId × Value→H) :
  ReturnsInHanded {} Tryz.checked os 10 .any (fun w args=>(Rows.correlateVerifiesSpec.pre enc Tryz.prog Tryz.f10 [] false w args∧laidMetH Tryz.prog laidAll7 w)∧sizedMet enc Tryz.prog Tryz.f10 (OpenSpec.ofChange Rows.correlateVerifiesSpec) false w args)
   (Rows.correlateVerifiesSpec.post enc Tryz.prog Tryz.f10 false true false false):=by
 refine handed_shaped_and (C:=Tryz.checked) (X:=fun w _=>laidMetH Tryz.prog laidAll7 w) (fun _ _ _ hh h=>h.of_heap hh) ownNone started (by kernel_rfl) Tryz.func10
  (ChangeSpec.witness_shaped (enc:=enc) (C:=Tryz.checked) (os:=os) (X:=fun w _=>laidMetH Tryz.prog laidAll7 w) false (World.laidAll Tryz.prog os laidAll7) #[.agg #[.slice none 0 0,.slice none 0 0,.int .u8 0,.int .u8 0,.int .u8 0,.int .u8 0],.agg #[.int .u8 0,.int .u8 0,.int .u8 0,.string ⟨#[]⟩]] 8 (World.laidAll_os _ _ _)
   (World.shaped_of_ZipB (by kernel_rfl) (by kernel_rfl)) (by kernel_rfl) (by kernel_rfl) (by kernel_rfl)
   (by rw [MakeChecks.laidMetH_plain _ _ _ (by kernel_rfl)]; exact laidMet_laidAll _ (by kernel_rfl) (by kernel_rfl))) ?_
 intro W base args ds gs before hval0 hW _ _ hL hS _
 have hval:∀ (j:Nat) t v,Tryz.f10.params[j]?=some t→args[j]?=some v→Value.okWide Tryz.prog W .any base t v:=hval0
 have hW':=hW
 obtain ⟨p,q,hA0,hV,rfl,_,_⟩:=hW
 have hA:DataW.TrodAll enc Tryz.prog W 0 (fun _=>true) true Tryz.f10.params.toList args.toList ds p:=hA0
 rw [Tryz.params10] at hA hval
 obtain ⟨v0,v1,d0,d1,q0,q1,rfl,rfl,rfl,h0,h1⟩:=trodAll_two hA
 obtain ⟨rfl,rfl⟩:=trodVars_none hV
 have hP:Env W:=⟨pow10_of_laid hL,maxL_of_shaped hS⟩
 simp only [List.append_nil,List.append_assoc] at hW'
 have hlt:∀ x ∈ q0 ++ q1,x.block < W.heap.size:=fun x hx=>hW'.lt x hx
 obtain ⟨P0,vl0,vr0,e0,hp0,bl0,br0⟩:=open_plan44 (hval 0 25 v0 rfl rfl) h0
 subst e0
 obtain ⟨sk,si,sj,X9,e1,hk1,hi1,hj1⟩:=open_slip44 (hval 1 80 v1 rfl rfl) h1
 subst e1
 refine (corVerifies_walk (hl:=bl0) (hr:=br0) P0 hp0 sk si sj hk1 hi1 hj1 X9 vl0 vr0 W hP).mono fun e W' ⟨he,hb⟩=>?_
 subst he
 exact ⟨_,rfl,post_of_below (pa:=q0 ++ q1) (pv:=[]) hW' (fun _ _ _=>trodAll_mk1 (shut_bool Tryz.underlying4 _)) (fun sp hsp=>trodAll_mk2 (WideElems.Trod_stays (by kernel_rfl) (by kernel_rfl) (of_decide_eq_true (by kernel_rfl)) h0 (fun x hx=>hb.same (hlt x (List.mem_append_left _ hx))) (fun x hx=>hsp x (List.mem_append_left _ hx))) (WideElems.Trod_stays (by kernel_rfl) (by kernel_rfl) (of_decide_eq_true (by kernel_rfl)) h1 (fun x hx=>hb.same (hlt x (List.mem_append_right _ hx))) (fun x hx=>hsp x (List.mem_append_right _ hx)))) (fun _ _=>rfl) (by simp) hb (ok_one (by kernel_rfl) rfl (okWide_bool_mk Tryz.underlying4 _))⟩

theorem correlateVerifies_holds:Rows.CorrelateVerifiesSaid :=
 OpenClaim.holds_of_wide 10 Tryz.f10 rfl rfl rfl rfl rfl rfl rfl ⟨rfl,rfl,rfl,rfl,rfl⟩ rfl rfl rfl rfl rfl (by kernel_rfl) Tryz.func10 (by kernel_rfl)
  (of_decide_eq_true (by kernel_rfl)) (by unfold Func.isWrapper; first | (rw [if_pos (by decide +kernel)]; kernel_rfl) | (rw [if_neg (by decide +kernel)]; exact ⟨rfl,rfl⟩))
  (fun os started H enc _=>correlateVerifies_lifted os started H enc)

theorem correlateVerifies_card:Rows.CorrelateVerifiesCardSaid :=
 Claim7.holds_tied_plain_at .later [] [.data,.data,.data,.sentinel,.sentinel] true Rows.correlateVerifiesCard.stood.harness true correlateVerifies_holds (fun _ h=>by cases h) (by kernel_rfl) (fun _ h=>by cases h) correlateVerifies_row_tie rfl ⟨rfl,rfl⟩ (by kernel_rfl) rfl
  (fun f fn hf hfn=>by
   obtain rfl:f=10:=Option.some.inj ((show Tryz.prog.funcNamed "klippe/klippelaw44.CorrelateVerifies" = some 10 by kernel_rfl).symm.trans hf) |>.symm
   obtain rfl:fn=Tryz.f10:=(Option.some.inj (Tryz.func10.symm.trans hfn)).symm
   exact ⟨by kernel_rfl,fun j t ht=>by
    rw [Tryz.params10] at ht
    have hm:t ∈ [25,80]:=by simpa using Array.mem_of_getElem? ht
    have hall:([25,80].all fun u=>!Tryz.prog.wantsStandIn u)=true:=by kernel_rfl
    exact (show Tryz.prog.wantsStandIn t=false by simpa using List.all_eq_true.1 hall t hm)⟩)
  (by kernel_rfl)
#print axioms correlateVerifies_card

end Go.Proofs.YthhkmihjnnfpgaaGreatDoor
