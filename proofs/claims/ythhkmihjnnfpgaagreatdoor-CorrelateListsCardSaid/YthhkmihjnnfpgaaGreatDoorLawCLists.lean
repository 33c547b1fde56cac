/- CorrelateLists: the walk. -/
import Derived.Test.YthhkmihjnnfpgaaGreatDoorGCorG
import Derived.Test.YthhkmihjnnfpgaaGreatDoorGCorTh
import Derived.Test.YthhkmihjnnfpgaaGreatDoorGCorB
import Derived.Test.YthhkmihjnnfpgaaGreatDoorGCorU
import Derived.Test.YthhkmihjnnfpgaaGreatDoorGCorY
namespace Go.Proofs.YthhkmihjnnfpgaaGreatDoor
set_option linter.all false
open Go.RowKit

attribute [local go_sem] Oper.semAt_some

theorem allW_slen (q:CQ) (ok:OkQ q):∀ s ∈ allW q 0 0,s.length≤12:=by
 have h:∀ (d i j:Nat),left q i j=d→i≤q.L.length→j≤q.R.length→∀ s ∈ allW q i j,s.length≤d:=by
  intro d
  induction d using Nat.strongRecOn with
  | ind d ih =>
  intro i j hd hi hj s hs
  by_cases hne:i=q.L.length∧j=q.R.length
  ·obtain ⟨rfl,rfl⟩:=hne
   rw [allW_end] at hs
   simp at hs
   subst hs
   exact Nat.zero_le _
  ·rw [allW_eq q i j hi hj hne,List.mem_flatMap] at hs
   obtain ⟨k,hk,hs⟩:=hs
   obtain ⟨h1,h2⟩:=List.mem_filter.1 hk
   have ho:=(of_decide_eq_true h2).1
   have h3:=left_nx h1 ho
   obtain ⟨s',hs',rfl⟩:=List.mem_map.1 hs
   have h4:=ih _ (by omega) _ _ rfl ho.1 ho.2.1 s' hs'
   rw [List.length_cons]
   omega
 intro s hs
 have h1:=h _ 0 0 rfl (Nat.zero_le _) (Nat.zero_le _) s hs
 have:=ok.hl
 have:=ok.hr
 unfold left at h1
 omega
set_option maxRecDepth 100000 in
set_option maxHeartbeats 8000000 in
theorem corLists_walk (p:PL) (hp:p.ok) (lim:Int) (vl vr:Value) (w:World) (he:Env w) (hl:BAt w vl p.l) (hr:BAt w vr p.r) :
  Calls Tryz.prog 8 #[.agg #[vl,vr,.int .u8 p.c0,.int .u8 p.c1,.int .u8 p.c2,.int .u8 p.c3],.int .i64 lim] w fun e w'=>e=.returned (.bool true)∧Below w.heap.size w w':=by
 obtain ⟨A1,k1,rfl,hk1⟩:=hl.cap
 obtain ⟨A2,k2,rfl,hk2⟩:=hr.cap
 have HE:=Lib.hid he
 have HL:=Lib.hid hl
 have HR:=Lib.hid hr
 have B:=Lib.hid (Below.refl w.heap.size w)
 clear he hl hr
 go_enter Tryz.func8, Tryz.ntmps8
 go_upto_region 1 with (fail)
 rename_i Kr hKr Kc hKc
 have k_:=Blk.fresh w #[.slice A1 p.l.length k1,.slice A2 p.r.length k2,.int .u8 p.c0,.int .u8 p.c1,.int .u8 p.c2,.int .u8 p.c3] 25
 have q_:=below_new w (.cells #[.slice A1 p.l.length k1,.slice A2 p.r.length k2,.int .u8 p.c0,.int .u8 p.c1,.int .u8 p.c2,.int .u8 p.c3] 25)
 generalize (w.alloc (.cells #[.slice A1 p.l.length k1,.slice A2 p.r.length k2,.int .u8 p.c0,.int .u8 p.c1,.int .u8 p.c2,.int .u8 p.c3] 25))=W1 at *
 obtain ⟨b2,hg_⟩:∃ g,w.heap.size=g:=⟨_,rfl⟩
 rw [hg_] at k_ ⊢
 replace B:=Lib.hid (B.out.trans (q_.mono B.out.size))
 have K2:=Lib.hid k_
 clear q_ k_ hg_
 have HKN:=Lib.hid (fun W (h:Below w.heap.size w W)=>known44_any W (HE.out.below h))
 by_cases h40:40 < lim∧lim≤1000
 ·obtain ⟨h1,h2⟩:=h40
  have g1:lim > 40:=h1
  have g2:decide (lim > 40)=true:=decide_eq_true g1
  have g3:decide (lim≤1000)=true:=decide_eq_true h2
  go_wp2_with (first
 | (go_at_call 13; with_reducible refine (HKN.out _ B.out).mono ?_; rintro e W3 ⟨rfl,q_W3⟩; replace K2:=Lib.hid (K2.out.below q_W3); replace B:=Lib.hid (B.out.trans (q_W3.mono B.out.size)); clear q_W3)
 | fail "arm")
  exact bodyPost_ret (v:=.bool true) (by kernel_rfl) rfl ⟨rfl,B.out⟩
 have KEY:∀ (W3:World) (A:Act),(∃ fv:Nat→Value,A={ tmps:=(fv 0 :: .int .i64 lim :: .pointer (some ⟨b2,0,none⟩) :: fv 3 :: fv 4 :: fv 5 :: fv 6 :: fv 7 :: fv 8 :: fv 9 :: fv 10 :: fv 11 :: fv 12 :: fv 13 :: fv 14 :: fv 15 :: fv 16 :: fv 17 :: fv 18 :: fv 19 :: fv 20 :: fv 21 :: fv 22 :: fv 23 :: fv 24 :: fv 25 :: fv 26 :: fv 27 :: fv 28 :: fv 29 :: fv 30 :: fv 31 :: fv 32 :: fv 33 :: fv 34 :: fv 35 :: fv 36 :: fv 37 :: fv 38 :: fv 39 :: fv 40 :: fv 41 :: fv 42 :: fv 43 :: fv 44 :: fv 45 :: fv 46 :: fv 47 :: fv 48 :: fv 49 :: fv 50 :: fv 51 :: fv 52 :: fv 53 :: fv 54 :: fv 55 :: fv 56 :: fv 57 :: fv 58 :: fv 59 :: fv 60 :: fv 61 :: fv 62 :: fv 63 :: fv 64 :: fv 65 :: fv 66 :: fv 67 :: fv 68 :: fv 69 :: fv 70 :: fv 71 :: fv 72 :: fv 73 :: fv 74 :: fv 75 :: fv 76 :: fv 77 :: fv 78 :: fv 79 :: fv 80 :: fv 81 :: fv 82 :: fv 83 :: fv 84 :: fv 85 :: fv 86 :: fv 87 :: fv 88 :: fv 89 :: fv 90 :: fv 91 :: fv 92 :: fv 93 :: fv 94 :: fv 95 :: fv 96 :: fv 97 :: fv 98 :: fv 99 :: fv 100 :: fv 101 :: fv 102 :: fv 103 :: fv 104 :: fv 105 :: fv 106 :: fv 107 :: fv 108 :: fv 109 :: fv 110 :: fv 111 :: fv 112 :: fv 113 :: fv 114 :: fv 115 :: fv 116 :: fv 117 :: fv 118 :: fv 119 :: fv 120 :: fv 121 :: fv 122 :: fv 123 :: fv 124 :: fv 125 :: fv 126 :: fv 127 :: fv 128 :: fv 129 :: fv 130 :: []).toArray,defers:=[] })→Blk W3 b2 #[.slice A1 p.l.length k1,.slice A2 p.r.length k2,.int .u8 p.c0,.int .u8 p.c1,.int .u8 p.c2,.int .u8 p.c3] 25 → Below w.heap.size w W3→Kr A W3:=by
  clear hKc B K2 HKN
  rintro W3 A ⟨fv,rfl⟩ hk2 hb
  refine hKr _ _ ?_
  clear hKr
  have K2:=Lib.hid hk2
  have B:=Lib.hid hb
  have H40:=Lib.hid h40
  clear hk2 hb h40
  have y0:=K2.out.at_ 0 _ rfl
  have y1:=K2.out.at_ 1 _ rfl
  have y2:=K2.out.at_ 2 _ rfl
  have y3:=K2.out.at_ 3 _ rfl
  have y4:=K2.out.at_ 4 _ rfl
  have y5:=K2.out.at_ 5 _ rfl
  go_wp2_with (fail)
  clear y0 y1 y2 y3 y4 y5
  with_reducible refine (make44_any p hp _ _ W3 (HE.out.below B.out) (HL.out.below B.out) (HR.out.below B.out)).mono ?_
  rintro e W4 ⟨v1,v2,rfl,hq4,q_W4⟩
  replace K2:=Lib.hid (K2.out.below q_W4)
  replace B:=Lib.hid (B.out.trans (q_W4.mono B.out.size))
  clear q_W4
  obtain ⟨a1,g1,e1,_⟩:=hq4.l
  obtain ⟨a2,g2,e2,_⟩:=hq4.r
  subst e1 e2
  have HQ:=Lib.hid hq4
  clear hq4
  have OK:=Lib.hid p.qok
  generalize p.q=q at *
  clear K2 HL HR
  go_upto_region 4 with (fail)
  have k_:=Blk.fresh W4 #[.slice a1 q.L.length g1,.slice a2 q.R.length g2,.string (qT (2 * q.ch)),.string (qT (2 * q.mi)),.string (qT (2 * q.ga)),.string (qT (2 * q.re))] 32
  have q_:=below_new W4 (.cells #[.slice a1 q.L.length g1,.slice a2 q.R.length g2,.string (qT (2 * q.ch)),.string (qT (2 * q.mi)),.string (qT (2 * q.ga)),.string (qT (2 * q.re))] 32)
  generalize (W4.alloc (.cells #[.slice a1 q.L.length g1,.slice a2 q.R.length g2,.string (qT (2 * q.ch)),.string (qT (2 * q.mi)),.string (qT (2 * q.ga)),.string (qT (2 * q.re))] 32))=W5 at *
  obtain ⟨b5,hg_⟩:∃ g,W4.heap.size=g:=⟨_,rfl⟩
  rw [hg_] at k_ ⊢
  replace HQ:=Lib.hid (HQ.out.below q_)
  replace B:=Lib.hid (B.out.trans (q_.mono B.out.size))
  have K5:=Lib.hid k_
  clear q_ k_ hg_
  have y0:=K5.out.at_ 0 _ rfl
  have y1:=K5.out.at_ 1 _ rfl
  have y2:=K5.out.at_ 2 _ rfl
  have y3:=K5.out.at_ 3 _ rfl
  have y4:=K5.out.at_ 4 _ rfl
  have y5:=K5.out.at_ 5 _ rfl
  go_wp2_with (fail)
  clear y0 y1 y2 y3 y4 y5
  by_cases hr0:lim < 0 ∨ 1000 < lim
  ·clear H40
   with_reducible refine (all_range q OK.out _ _ W5 (HE.out.below B.out) HQ.out lim hr0).mono ?_
   rintro e W6 ⟨rfl,q_W6⟩
   replace K5:=Lib.hid (K5.out.below q_W6)
   replace HQ:=Lib.hid (HQ.out.below q_W6)
   replace B:=Lib.hid (B.out.trans (q_W6.mono B.out.size))
   clear q_W6
   have y0:=K5.out.at_ 0 _ rfl
   have y1:=K5.out.at_ 1 _ rfl
   have y2:=K5.out.at_ 2 _ rfl
   have y3:=K5.out.at_ 3 _ rfl
   have y4:=K5.out.at_ 4 _ rfl
   have y5:=K5.out.at_ 5 _ rfl
   go_wp2_with (fail)
   clear y0 y1 y2 y3 y4 y5
   with_reducible refine (lrests_any q OK.out _ _ W6 (HE.out.below B.out) HQ.out).mono ?_
   rintro e W7 ⟨lb,wb,rl,rw_,rfl,htl,htw,hs1,hs2,hs3,q_W7⟩
   clear hs1 hs2 hs3
   have TL:=Lib.hid htl
   have TW:=Lib.hid htw
   clear htl htw
   replace K5:=Lib.hid (K5.out.below q_W7)
   replace HQ:=Lib.hid (HQ.out.below q_W7)
   replace B:=Lib.hid (B.out.trans (q_W7.mono B.out.size))
   clear q_W7
   by_cases hl:lim < 0
   ·have n1:decide (lim < 0)=true:=decide_eq_true hl
    go_wp2
    exact bodyPost_ret (v:=.bool true) (by kernel_rfl) rfl ⟨rfl,B.out⟩
   ·have n1:decide (lim < 0)=false:=decide_eq_false hl
    have hg:lim > 1000:=by omega
    have n2:decide (lim > 1000)=true:=decide_eq_true hg
    have n3:1000 < lim:=hg
    go_wp2
    exact bodyPost_ret (v:=.bool true) (by kernel_rfl) rfl ⟨rfl,B.out⟩
  obtain ⟨nlim,hnl⟩:∃ n:Nat,lim=n:=⟨lim.toNat,by omega⟩
  subst hnl
  have h40:nlim≤40:=by have:=H40.out; omega
  clear H40 hr0
  with_reducible refine (all_any q OK.out _ _ W5 (HE.out.below B.out) HQ.out nlim (by omega)).mono ?_
  rintro e W6 ⟨hall,q_W6⟩
  replace K5:=Lib.hid (K5.out.below q_W6)
  replace HQ:=Lib.hid (HQ.out.below q_W6)
  replace B:=Lib.hid (B.out.trans (q_W6.mono B.out.size))
  clear q_W6
  rcases hall with ⟨hle,v,xs,rfl,hals⟩ | ⟨hgt,rfl⟩
  ·have HALS:=Lib.hid hals
   obtain ⟨va,vc,hve⟩:=hals.row.len_eval
   obtain ⟨nx,hnx⟩:∃ n,xs.length=n:=⟨_,rfl⟩
   rw [hnx] at hve
   subst hve
   have HNX:=Lib.hid hnx
   have hle2:nx≤nlim:=by rw [← hnx,hals.len]; exact hle
   clear hals hnx hle
   have y0:=K5.out.at_ 0 _ rfl
   have y1:=K5.out.at_ 1 _ rfl
   have y2:=K5.out.at_ 2 _ rfl
   have y3:=K5.out.at_ 3 _ rfl
   have y4:=K5.out.at_ 4 _ rfl
   have y5:=K5.out.at_ 5 _ rfl
   go_wp2_with (fail)
   clear y0 y1 y2 y3 y4 y5
   with_reducible refine (lrests_any q OK.out _ _ W6 (HE.out.below B.out) HQ.out).mono ?_
   rintro e W7 ⟨lb,wb,rl,rw_,rfl,htl,htw,hs1,hs2,hs3,q_W7⟩
   clear hs1 hs2 hs3
   have TL:=Lib.hid htl
   have TW:=Lib.hid htw
   clear htl htw
   replace K5:=Lib.hid (K5.out.below q_W7)
   replace HQ:=Lib.hid (HQ.out.below q_W7)
   replace HALS:=Lib.hid (HALS.out.below q_W7)
   replace B:=Lib.hid (B.out.trans (q_W7.mono B.out.size))
   clear q_W7
   have x1:=TW.out.cell1 0 (Nat.le_refl _) (Nat.succ_pos _)
   have x2:=TW.out.cell2 0 0 (Nat.le_refl _) (Nat.succ_pos _) (Nat.succ_pos _)
   generalize rw_ 0=r0 at x1 x2
   have t1:(0:Int) < (q.L.length:Int) + 1:=by omega
   have t2:(0:Int) < (q.R.length:Int) + 1:=by omega
   have n1:decide (((nlim:Nat):Int) < 0)=false:=decide_eq_false (by omega)
   have n2:decide (((nlim:Nat):Int) > 1000)=false:=decide_eq_false (by omega)
   have n3:¬ 1000 < nlim:=by omega
   have hcn:=allW_len q _ 0 0 rfl (Nat.zero_le _) (Nat.zero_le _)
   rw [← hcn] at x2
   have hnw:(allW q 0 0).length=nx:=by rw [← HALS.out.len,HNX.out]
   rw [hnw] at x2
   have n4:¬ ((nx:Nat):Int) > ((nlim:Nat):Int):=by omega
   have n5:decide (((nx:Nat):Int) > ((nlim:Nat):Int))=false:=decide_eq_false n4
   have n6:¬ nlim < nx:=by omega
   have HNW:=Lib.hid hnw
   clear hcn hnw
   have hll:=OK.out.hl
   have hrr:=OK.out.hr
   go_upto_region 12 with (fail)
   clear x1 x2 n1 n2 n3 n4 n5 n6
   obtain ⟨N,hN⟩:∃ n,q.L.length + 1=n:=⟨_,rfl⟩
   obtain ⟨M,hM⟩:∃ n,q.R.length + 1=n:=⟨_,rfl⟩
   have c5:=TL.out.cell1 0 (Nat.zero_le _) (Nat.succ_pos _)
   have c6:=TL.out.cell2 0 0 (Nat.zero_le _) (Nat.succ_pos _) (Nat.succ_pos _)
   have l5:=TL.out.out.lt
   have l6:=(TL.out.row 0 (Nat.zero_le _) (Nat.succ_pos _)).lt
   have HEF:=Lib.hid (HE.out.below B.out)
   have BF:=Lib.hid (Below.refl W7.heap.size W7)
   have HAX:=Lib.hid (row_lookB (alC_len _) HALS.out.row)
   obtain ⟨tx,htx⟩:∃ x,qT (rst q 0 0)=x:=⟨_,rfl⟩
   have HTX:=Lib.hid htx
   rw [htx] at c6
   have N0:0 < N:=by omega
   have M0:0 < M:=by omega
   have N1:(0:Int) < (N:Int):=by omega
   have M1:(0:Int) < (M:Int):=by omega
   rw [hN,hM]
   rw [hM] at c5
   generalize rl 0=r3 at c5 c6 l6
   have C5:=Lib.hid c5
   have C6:=Lib.hid c6
   have L5:=Lib.hid l5
   have L6:=Lib.hid l6
   clear c5 c6 l5 l6 hN hM htx t1 t2
   go_wp2
   go_loopw [10] (fun iv wr=>∃ i:Nat,i≤nx∧iv=.int .i64 i∧Below W7.heap.size W7 wr) (fun iv _=>nx - (intOf iv).toNat)
   case atStart=>exact ⟨0,Nat.zero_le _,rfl,BF.out⟩
   case round =>
    clear BF
    obtain ⟨i,hi,rfl,b3⟩:=hrel
    have BF:=Lib.hid b3
    clear b3
    by_cases hlt:i < nx
    case neg =>
     have hz1:¬ (i:Int) < (nx:Int):=by omega
     have hz2:decide ((i:Int) < (nx:Int))=false:=decide_eq_false hz1
     have HB9:=Lib.hid (B.out.trans (BF.out.mono B.out.size))
     go_wp2
     exact bodyPost_ret (v:=.bool true) (by kernel_rfl) rfl ⟨rfl,HB9.out⟩
    have hz1:(i:Int) < (nx:Int):=by omega
    have hwi:IntKind.i64.wrap ((i:Int) + 1)=(i:Int) + 1:=IntWalk.i64_in _ (by omega)
    have HI:=Lib.hid (And.intro hz1 hlt)
    have hix:i < xs.length:=by rw [HNX.out]; exact hlt
    have his:i < (allW q 0 0).length:=by rw [HNW.out]; exact hlt
    obtain ⟨dp,op,cc,ep,hdp,hpc⟩:=(HAX.out.below BF.out).cell i hix
    rw [HNX.out] at ep
    injection ep with ep1 ep2 ep3
    subst ep1 ep3
    clear ep2
    have hrow:=HALS.out.at_ i xs[i] (allW q 0 0)[i] (List.getElem?_eq_getElem hix) (List.getElem?_eq_getElem his)
    have hmem:=List.getElem_mem his
    have hrun:=allW_run q _ 0 0 rfl (Nat.zero_le _) (Nat.zero_le _) _ hmem 0
    have hsl:=allW_slen q OK.out _ hmem
    have HPR:Hid (∀ k,k < i→∃ (h1:k < xs.length) (h2:k < (allW q 0 0).length),lessS (allW q 0 0)[k] (allW q 0 0)[i]=true∧SRow stC 3 56 W7 0 (.slice xs[k].1 xs[k].2.1 xs[k].2.2) (allW q 0 0)[k]∧(allW q 0 0)[k].length≤12):=Lib.hid (fun k hk=>by
     have h1:k < xs.length:=by omega
     have h2:k < (allW q 0 0).length:=by omega
     exact ⟨h1,h2,(List.pairwise_iff_getElem.1 (allW_sorted q _ 0 0 rfl (Nat.zero_le _) (Nat.zero_le _))) k i h2 his hk,HALS.out.at_ k xs[k] (allW q 0 0)[k] (List.getElem?_eq_getElem h1) (List.getElem?_eq_getElem h2),allW_slen q OK.out _ (List.getElem_mem h2)⟩)
    have HQC:Hid (∀ k,k < i→∀ h:k < xs.length,wr.cell? ⟨dp,op + k * 2,none⟩=some (.slice xs[k].1 xs[k].2.1 xs[k].2.2)):=Lib.hid (fun k hk h=>by
     obtain ⟨dp',op',cc',ep',_,hpc'⟩:=(HAX.out.below BF.out).cell k h
     injection ep' with e1 _ _
     injection e1 with e1
     injection e1 with e1 e2 _
     subst e1 e2
     exact hpc' 0 _ rfl)
    have P0:Hid (wr.cell? ⟨dp,op + i * 2,none⟩=some (.slice xs[i].1 xs[i].2.1 xs[i].2.2)):=Lib.hid (hpc 0 _ rfl)
    have P1:Hid (wr.cell? ⟨dp,op + i * 2 + 1,none⟩=some (.string (qT (rst q 0 0)))):=Lib.hid (hpc 1 _ rfl)
    rw [HTX.out] at P1
    generalize (allW q 0 0)[i]=s at *
    generalize xs[i]=xi at *
    obtain ⟨xa,n,xc⟩:=xi
    try dsimp only at P0 hrow
    have hn:n=s.length:=by
     obtain ⟨a',c',e⟩:=hrow.len_eval
     injection e
    subst hn
    have HSR:=Lib.hid (row_lookB stC_len hrow)
    rw [show (0:Int) + rst q 0 0=rst q 0 0 by omega] at hrun
    have hto:=fun W (hW:Below W7.heap.size W7 W)=>ltotal_any q OK.out (castS s) (by rw [castS_len]; omega) _ _ (.slice xa s.length xc) W (HEF.out.below hW) (HQ.out.below hW) (by have h:=cast_SAB (row_lookB stC_len (hrow.below hW)); rw [castS_len] at h; exact h)
    rw [hrun] at hto
    have hX:totV ((0:Int),rst q 0 0)=.tuple #[.string tx,.int .i64 0]:=by rw [← HTX.out]; rfl
    rw [hX] at hto
    have HTO0:=Lib.hid hto
    have HSL:=Lib.hid hsl
    obtain ⟨n,hn⟩:∃ n,s.length=n:=⟨_,rfl⟩
    rw [hn] at P0 HTO0 HSR
    have HN:=Lib.hid hn
    clear hrow hmem hrun hsl hto hX hpc hix his hn
    have KQ:=Lib.hid (K5.out.below BF.out)
    have HTO:Hid (Ret Tryz.prog wr 27 #[.agg #[.slice a1 q.L.length g1,.slice a2 q.R.length g2,.string (qT (2 * q.ch)),.string (qT (2 * q.mi)),.string (qT (2 * q.ga)),.string (qT (2 * q.re))],.slice xa n xc] (.tuple #[.string tx,.int .i64 0])):=Lib.hid (fun W hW=>HTO0.out W (BF.out.trans (hW.mono BF.out.size)))
    clear HTO0
    go_upto_region 15 with (fail)
    refine wp_tab (.v 83 (.agg #[.slice a1 q.L.length g1,.slice a2 q.R.length g2,.string (qT (2 * q.ch)),.string (qT (2 * q.mi)),.string (qT (2 * q.ga)),.string (qT (2 * q.re))]) :: .v 84 (.slice (some ⟨dp,op,none⟩) nx vc) :: .v 85 (.int .i64 i) :: .v 86 (.pointer (some ⟨dp,op + i * 2,none⟩)) :: .v 87 (.pointer (some ⟨dp,op + i * 2,none⟩)) :: .v 88 (.slice xa n xc) :: .v 89 (.tuple #[.string tx,.int .i64 0]) :: .v 82 (.tuple #[.string tx,.int .i64 0]) :: .v 90 (.string tx) :: .v 91 (.int .i64 0) :: .v 11 (.string tx) :: .v 12 (.int .i64 0) :: []) [] [⟨b5,#[.slice a1 q.L.length g1,.slice a2 q.R.length g2,.string (qT (2 * q.ch)),.string (qT (2 * q.mi)),.string (qT (2 * q.ga)),.string (qT (2 * q.re))], 32, none⟩] [] [] [] [] [] (by kernel_rfl) (Below.refl _ _) ⟨KQ.out,trivial⟩ trivial ⟨ld 0 0,pu,pu,?_,pu,?_,cl HTO.out,pu,pu,pu,pu,pu,trivial⟩ ?_
    ·intro L a U ho J hn dd KK kk; refine .free rfl ?_; have r84:=J.read 1 rfl (dd.get 1 rfl); have r85:=J.read 2 rfl (dd.get 2 rfl); have hm:=HI.out; go_simp; exact kk.out _ _ (J.st 3 rfl rfl)
    ·intro L a U ho J hn dd KK kk; refine .free rfl ?_; have r87:=J.read 4 rfl (dd.get 4 rfl); have e0:=(J.bb.cell (p:=⟨dp,op + i * 2,none⟩) hdp).trans P0.out; go_simp; exact kk.out _ _ (J.st 5 rfl rfl)
    clear HTO KQ
    rintro σ V2 _ _ _ _ q9
    simp only [slotsOf,finX,nval,nvalN,nvalA,Nat.reduceBEq,cond_true,cond_false,putAll,Act.put,List.setIfInBounds_toArray,List.set_cons_succ,List.set_cons_zero]
    have hdp2:=Nat.lt_of_lt_of_le hdp q9.size
    replace P0:Hid (V2.cell? ⟨dp,op + i * 2,none⟩=some (.slice xa n xc)):=Lib.hid ((q9.cell (p:=⟨dp,op + i * 2,none⟩) hdp).trans P0.out)
    replace P1:Hid (V2.cell? ⟨dp,op + i * 2 + 1,none⟩=some (.string tx)):=Lib.hid ((q9.cell (p:=⟨dp,op + i * 2 + 1,none⟩) hdp).trans P1.out)
    replace HQC:Hid (∀ k,k < i→∀ h:k < xs.length,V2.cell? ⟨dp,op + k * 2,none⟩=some (.slice xs[k].1 xs[k].2.1 xs[k].2.2)):=Lib.hid (fun k hk h=>(q9.cell (p:=⟨dp,op + k * 2,none⟩) hdp).trans (HQC.out k hk h))
    replace BF:=Lib.hid (BF.out.trans (q9.mono BF.out.size))
    clear hdp q9
    have hdp:=hdp2
    clear hdp2
    have C5':=Lib.hid ((BF.out.cell (p:=⟨lb,0,none⟩) L5.out).trans C5.out)
    have C6':=Lib.hid ((BF.out.cell (p:=⟨r3,0,none⟩) L6.out).trans C6.out)
    have LC5:=Lib.hid (Nat.lt_of_lt_of_le L5.out BF.out.size)
    have LC6:=Lib.hid (Nat.lt_of_lt_of_le L6.out BF.out.size)
    go_upto_region 16 with (fail)
    by_cases hp:0 < i
    ·obtain ⟨im,him⟩:∃ m,i=m + 1:=⟨i - 1,by omega⟩
     obtain ⟨h1,h2,hls,hro,hln⟩:=HPR.out im (by omega)
     have Q0:=HQC.out im (by omega) h1
     generalize (allW q 0 0)[im]=y at *
     generalize xs[im]=yi at *
     obtain ⟨ya,yn,yc⟩:=yi
     try dsimp only at Q0 hro
     replace Q0:=Lib.hid Q0
     have hyn:yn=y.length:=by
      obtain ⟨a',c',e⟩:=hro.len_eval
      injection e
     have HLS:Hid (Ret Tryz.prog V2 29 #[.slice ya yn yc,.slice xa n xc] (.bool true)):=Lib.hid (fun W hW=>by
      have h:=lesser_any y s (by omega) (by have:=HSL.out; omega) (.slice ya yn yc) (.slice xa n xc) W7 (row_lookB stC_len hro) HSR.out W (BF.out.trans (hW.mono BF.out.size))
      rw [hls] at h
      exact h)
     have p1:(i:Int) > 0:=by omega
     have HP:Hid (decide ((i:Int) > 0)=true∧0 < i∧IntKind.i64.wrap ((i:Int) - 1)=((im:Nat):Int)):=Lib.hid ⟨decide_eq_true p1,hp,by rw [IntWalk.i64_in _ (by omega)]; omega⟩
     have HIM:Hid (((im:Nat):Int) < ((nx:Nat):Int)∧im < nx):=Lib.hid (by omega)
     clear HQC HPR hls hro hln hyn h1 h2 hp him p1 hlt hz1
     refine wp_tab (.v 92 (.int .i64 0) :: .v 93 (.bool false) :: .v 94 (.bool false) :: .v 95 (.string tx) :: .v 96 (.slice (some ⟨lb,0,none⟩) N N) :: .v 97 (.pointer (some ⟨lb,0,none⟩)) :: .v 98 (.slice (some ⟨r3,0,none⟩) M M) :: .v 99 (.pointer (some ⟨r3,0,none⟩)) :: .v 100 (.string tx) :: .v 101 (.bool false) :: .v 102 (.bool false) :: .v 103 (.bool false) :: .v 104 (.slice (some ⟨dp,op,none⟩) nx vc) :: .v 105 (.int .i64 i) :: .v 106 (.pointer (some ⟨dp,op + i * 2,none⟩)) :: .v 107 (.pointer (some ⟨dp,op + i * 2 + 1,none⟩)) :: .v 108 (.string tx) :: .v 109 (.string tx) :: .v 110 (.bool false) :: .v 111 (.bool false) :: .v 112 (.bool false) :: .v 113 (.int .i64 i) :: .v 114 (.bool true) :: .v 115 (.bool true) :: .v 116 (.slice (some ⟨dp,op,none⟩) nx vc) :: .v 117 (.int .i64 i) :: .v 118 (.int .i64 (im:Nat)) :: .v 119 (.pointer (some ⟨dp,op + im * 2,none⟩)) :: .v 120 (.pointer (some ⟨dp,op + im * 2,none⟩)) :: .v 121 (.slice ya yn yc) :: .v 122 (.slice (some ⟨dp,op,none⟩) nx vc) :: .v 123 (.int .i64 i) :: .v 124 (.pointer (some ⟨dp,op + i * 2,none⟩)) :: .v 125 (.pointer (some ⟨dp,op + i * 2,none⟩)) :: .v 126 (.slice xa n xc) :: .v 127 (.bool true) :: .v 128 (.bool false) :: .v 129 (.bool false) :: .v 130 (.bool false) :: []) [] [] [] [] [] [] [] (by kernel_rfl) (Below.refl _ _) trivial trivial ⟨pu,?_,pu,pu,pu,?_,?_,?_,?_,?_,pu,pu,pu,pu,?_,pu,?_,pu,?_,pu,pu,pu,?_,pu,pu,pu,?_,?_,pu,?_,pu,pu,?_,pu,?_,cl HLS.out,pu,pu,pu,trivial⟩ ?_
     ·intro L a U ho J hn dd KK kk; refine .free rfl ?_; have r92:=J.read 0 rfl (dd.get 0 rfl); go_simp; exact kk.out _ _ (J.st 1 rfl rfl)
     ·intro L a U ho J hn dd KK kk; refine .pos (s:=94) rfl rfl (J.vals 2 _ _ rfl (dd.get 2 rfl)) ?_; have r96:=J.read 4 rfl (dd.get 4 rfl); go_simp; exact kk.out _ _ (J.st 5 rfl rfl)
     ·intro L a U ho J hn dd KK kk; refine .pos (s:=94) rfl rfl (J.vals 2 _ _ rfl (dd.get 2 rfl)) ?_; have r97:=J.read 5 rfl (dd.get 5 rfl); have e0:=(J.bb.cell (p:=⟨lb,0,none⟩) LC5.out).trans C5'.out; go_simp; exact kk.out _ _ (J.st 6 rfl rfl)
     ·intro L a U ho J hn dd KK kk; refine .pos (s:=94) rfl rfl (J.vals 2 _ _ rfl (dd.get 2 rfl)) ?_; have r98:=J.read 6 rfl (dd.get 6 rfl); go_simp; exact kk.out _ _ (J.st 7 rfl rfl)
     ·intro L a U ho J hn dd KK kk; refine .pos (s:=94) rfl rfl (J.vals 2 _ _ rfl (dd.get 2 rfl)) ?_; have r99:=J.read 7 rfl (dd.get 7 rfl); have e0:=(J.bb.cell (p:=⟨r3,0,none⟩) LC6.out).trans C6'.out; go_simp; exact kk.out _ _ (J.st 8 rfl rfl)
     ·intro L a U ho J hn dd KK kk; refine .pos (s:=94) rfl rfl (J.vals 2 _ _ rfl (dd.get 2 rfl)) ?_; have r95:=J.read 3 rfl (dd.get 3 rfl); have r100:=J.read 8 rfl (dd.get 8 rfl); go_simp; exact kk.out _ _ (J.st 9 rfl rfl)
     ·intro L a U ho J hn dd KK kk; refine .pos (s:=103) rfl rfl (J.vals 11 _ _ rfl (dd.get 11 rfl)) ?_; have r104:=J.read 12 rfl (dd.get 12 rfl); have r105:=J.read 13 rfl (dd.get 13 rfl); have hm:=HI.out; go_simp; exact kk.out _ _ (J.st 14 rfl rfl)
     ·intro L a U ho J hn dd KK kk; refine .pos (s:=103) rfl rfl (J.vals 11 _ _ rfl (dd.get 11 rfl)) ?_; have r107:=J.read 15 rfl (dd.get 15 rfl); have e0:=(J.bb.cell (p:=⟨dp,op + i * 2 + 1,none⟩) hdp).trans P1.out; go_simp; exact kk.out _ _ (J.st 16 rfl rfl)
     ·intro L a U ho J hn dd KK kk; refine .pos (s:=103) rfl rfl (J.vals 11 _ _ rfl (dd.get 11 rfl)) ?_; have r108:=J.read 16 rfl (dd.get 16 rfl); have r109:=J.read 17 rfl (dd.get 17 rfl); go_simp; exact kk.out _ _ (J.st 18 rfl rfl)
     ·intro L a U ho J hn dd KK kk; refine .pos (s:=112) rfl rfl (J.vals 20 _ _ rfl (dd.get 20 rfl)) ?_; have r113:=J.read 21 rfl (dd.get 21 rfl); have hm:=HP.out.1; have hm2:=HP.out.2.1; go_simp; exact kk.out _ _ (J.st 22 rfl rfl)
     ·intro L a U ho J hn dd KK kk; refine .pos (s:=115) rfl rfl (J.vals 23 _ _ rfl (dd.get 23 rfl)) ?_; have r117:=J.read 25 rfl (dd.get 25 rfl); have hm:=HP.out.2.2; go_simp; exact kk.out _ _ (J.st 26 rfl rfl)
     ·intro L a U ho J hn dd KK kk; refine .pos (s:=115) rfl rfl (J.vals 23 _ _ rfl (dd.get 23 rfl)) ?_; have r116:=J.read 24 rfl (dd.get 24 rfl); have r118:=J.read 26 rfl (dd.get 26 rfl); have hm:=HIM.out; go_simp; exact kk.out _ _ (J.st 27 rfl rfl)
     ·intro L a U ho J hn dd KK kk; refine .pos (s:=115) rfl rfl (J.vals 23 _ _ rfl (dd.get 23 rfl)) ?_; have r120:=J.read 28 rfl (dd.get 28 rfl); have e0:=(J.bb.cell (p:=⟨dp,op + im * 2,none⟩) hdp).trans Q0.out; go_simp; exact kk.out _ _ (J.st 29 rfl rfl)
     ·intro L a U ho J hn dd KK kk; refine .pos (s:=115) rfl rfl (J.vals 23 _ _ rfl (dd.get 23 rfl)) ?_; have r122:=J.read 30 rfl (dd.get 30 rfl); have r123:=J.read 31 rfl (dd.get 31 rfl); have hm:=HI.out; go_simp; exact kk.out _ _ (J.st 32 rfl rfl)
     ·intro L a U ho J hn dd KK kk; refine .pos (s:=115) rfl rfl (J.vals 23 _ _ rfl (dd.get 23 rfl)) ?_; have r125:=J.read 33 rfl (dd.get 33 rfl); have e0:=(J.bb.cell (p:=⟨dp,op + i * 2,none⟩) hdp).trans P0.out; go_simp; exact kk.out _ _ (J.st 34 rfl rfl)
     rintro σ V3 _ _ _ _ q8
     simp only [slotsOf,finX,nval,nvalN,nvalA,Nat.reduceBEq,cond_true,cond_false,putAll,Act.put,List.setIfInBounds_toArray,List.set_cons_succ,List.set_cons_zero]
     replace BF:=Lib.hid (BF.out.trans (q8.mono BF.out.size))
     clear C5' C6' LC5 LC6 P0 P1 Q0 HLS HP HIM q8
     have HI1:=HI.out.2
     go_wp2
     exact ⟨⟨i + 1,by omega,by go_num,BF.out⟩,by simp [intOf]; omega⟩
    ·have hi0:i=0:=by omega
     have HP:Hid (decide ((i:Int) > 0)=false∧¬ 0 < i):=Lib.hid ⟨decide_eq_false (by omega),hp⟩
     clear HQC HPR hp hi0
     refine wp_tab (.v 92 (.int .i64 0) :: .v 93 (.bool false) :: .v 94 (.bool false) :: .v 95 (.string tx) :: .v 96 (.slice (some ⟨lb,0,none⟩) N N) :: .v 97 (.pointer (some ⟨lb,0,none⟩)) :: .v 98 (.slice (some ⟨r3,0,none⟩) M M) :: .v 99 (.pointer (some ⟨r3,0,none⟩)) :: .v 100 (.string tx) :: .v 101 (.bool false) :: .v 102 (.bool false) :: .v 103 (.bool false) :: .v 104 (.slice (some ⟨dp,op,none⟩) nx vc) :: .v 105 (.int .i64 i) :: .v 106 (.pointer (some ⟨dp,op + i * 2,none⟩)) :: .v 107 (.pointer (some ⟨dp,op + i * 2 + 1,none⟩)) :: .v 108 (.string tx) :: .v 109 (.string tx) :: .v 110 (.bool false) :: .v 111 (.bool false) :: .v 112 (.bool false) :: .v 113 (.int .i64 i) :: .v 114 (.bool false) :: .v 115 (.bool false) :: .v 116 undef :: .v 117 undef :: .v 118 undef :: .v 119 undef :: .v 120 undef :: .v 121 undef :: .v 122 undef :: .v 123 undef :: .v 124 undef :: .v 125 undef :: .v 126 undef :: .v 127 undef :: .v 128 undef :: .v 129 (.bool false) :: .v 130 (.bool false) :: []) [] [] [] [] [] [] [] (by kernel_rfl) (Below.refl _ _) trivial trivial ⟨pu,?_,pu,pu,pu,?_,?_,?_,?_,?_,pu,pu,pu,pu,?_,pu,?_,pu,?_,pu,pu,pu,?_,pu,sk,sk,sk,sk,sk,sk,sk,sk,sk,sk,sk,sk,sk,pu,pu,trivial⟩ ?_
     ·intro L a U ho J hn dd KK kk; refine .free rfl ?_; have r92:=J.read 0 rfl (dd.get 0 rfl); go_simp; exact kk.out _ _ (J.st 1 rfl rfl)
     ·intro L a U ho J hn dd KK kk; refine .pos (s:=94) rfl rfl (J.vals 2 _ _ rfl (dd.get 2 rfl)) ?_; have r96:=J.read 4 rfl (dd.get 4 rfl); go_simp; exact kk.out _ _ (J.st 5 rfl rfl)
     ·intro L a U ho J hn dd KK kk; refine .pos (s:=94) rfl rfl (J.vals 2 _ _ rfl (dd.get 2 rfl)) ?_; have r97:=J.read 5 rfl (dd.get 5 rfl); have e0:=(J.bb.cell (p:=⟨lb,0,none⟩) LC5.out).trans C5'.out; go_simp; exact kk.out _ _ (J.st 6 rfl rfl)
     ·intro L a U ho J hn dd KK kk; refine .pos (s:=94) rfl rfl (J.vals 2 _ _ rfl (dd.get 2 rfl)) ?_; have r98:=J.read 6 rfl (dd.get 6 rfl); go_simp; exact kk.out _ _ (J.st 7 rfl rfl)
     ·intro L a U ho J hn dd KK kk; refine .pos (s:=94) rfl rfl (J.vals 2 _ _ rfl (dd.get 2 rfl)) ?_; have r99:=J.read 7 rfl (dd.get 7 rfl); have e0:=(J.bb.cell (p:=⟨r3,0,none⟩) LC6.out).trans C6'.out; go_simp; exact kk.out _ _ (J.st 8 rfl rfl)
     ·intro L a U ho J hn dd KK kk; refine .pos (s:=94) rfl rfl (J.vals 2 _ _ rfl (dd.get 2 rfl)) ?_; have r95:=J.read 3 rfl (dd.get 3 rfl); have r100:=J.read 8 rfl (dd.get 8 rfl); go_simp; exact kk.out _ _ (J.st 9 rfl rfl)
     ·intro L a U ho J hn dd KK kk; refine .pos (s:=103) rfl rfl (J.vals 11 _ _ rfl (dd.get 11 rfl)) ?_; have r104:=J.read 12 rfl (dd.get 12 rfl); have r105:=J.read 13 rfl (dd.get 13 rfl); have hm:=HI.out; go_simp; exact kk.out _ _ (J.st 14 rfl rfl)
     ·intro L a U ho J hn dd KK kk; refine .pos (s:=103) rfl rfl (J.vals 11 _ _ rfl (dd.get 11 rfl)) ?_; have r107:=J.read 15 rfl (dd.get 15 rfl); have e0:=(J.bb.cell (p:=⟨dp,op + i * 2 + 1,none⟩) hdp).trans P1.out; go_simp; exact kk.out _ _ (J.st 16 rfl rfl)
     ·intro L a U ho J hn dd KK kk; refine .pos (s:=103) rfl rfl (J.vals 11 _ _ rfl (dd.get 11 rfl)) ?_; have r108:=J.read 16 rfl (dd.get 16 rfl); have r109:=J.read 17 rfl (dd.get 17 rfl); go_simp; exact kk.out _ _ (J.st 18 rfl rfl)
     ·intro L a U ho J hn dd KK kk; refine .pos (s:=112) rfl rfl (J.vals 20 _ _ rfl (dd.get 20 rfl)) ?_; have r113:=J.read 21 rfl (dd.get 21 rfl); have hm:=HP.out.1; have hm2:=HP.out.2; go_simp; exact kk.out _ _ (J.st 22 rfl rfl)
     rintro σ V3 _ _ _ _ q8
     simp only [slotsOf,finX,nval,nvalN,nvalA,Nat.reduceBEq,cond_true,cond_false,putAll,Act.put,List.setIfInBounds_toArray,List.set_cons_succ,List.set_cons_zero]
     replace BF:=Lib.hid (BF.out.trans (q8.mono BF.out.size))
     clear C5' C6' LC5 LC6 P0 P1 HP q8
     go_wp2
     exact ⟨⟨i + 1,by omega,by go_num,BF.out⟩,by simp [intOf]; omega⟩
  ·have y0:=K5.out.at_ 0 _ rfl
   have y1:=K5.out.at_ 1 _ rfl
   have y2:=K5.out.at_ 2 _ rfl
   have y3:=K5.out.at_ 3 _ rfl
   have y4:=K5.out.at_ 4 _ rfl
   have y5:=K5.out.at_ 5 _ rfl
   go_wp2_with (fail)
   clear y0 y1 y2 y3 y4 y5
   with_reducible refine (lrests_any q OK.out _ _ W6 (HE.out.below B.out) HQ.out).mono ?_
   rintro e W7 ⟨lb,wb,rl,rw_,rfl,htl,htw,hs1,hs2,hs3,q_W7⟩
   clear hs1 hs2 hs3
   have TL:=Lib.hid htl
   have TW:=Lib.hid htw
   clear htl htw
   replace K5:=Lib.hid (K5.out.below q_W7)
   replace HQ:=Lib.hid (HQ.out.below q_W7)
   replace B:=Lib.hid (B.out.trans (q_W7.mono B.out.size))
   clear q_W7
   have x1:=TW.out.cell1 0 (Nat.le_refl _) (Nat.succ_pos _)
   have x2:=TW.out.cell2 0 0 (Nat.le_refl _) (Nat.succ_pos _) (Nat.succ_pos _)
   generalize rw_ 0=r0 at x1 x2
   have t1:(0:Int) < (q.L.length:Int) + 1:=by omega
   have t2:(0:Int) < (q.R.length:Int) + 1:=by omega
   have n1:decide (((nlim:Nat):Int) < 0)=false:=decide_eq_false (by omega)
   have n2:decide (((nlim:Nat):Int) > 1000)=false:=decide_eq_false (by omega)
   have n3:¬ 1000 < nlim:=by omega
   have hcn:=allW_len q _ 0 0 rfl (Nat.zero_le _) (Nat.zero_le _)
   rw [← hcn] at x2
   obtain ⟨nx,hnx⟩:∃ n,(allW q 0 0).length=n:=⟨_,rfl⟩
   rw [hnx] at x2 hgt
   have n4:((nx:Nat):Int) > ((nlim:Nat):Int):=by omega
   have n5:decide (((nx:Nat):Int) > ((nlim:Nat):Int))=true:=decide_eq_true n4
   have n6:nlim < nx:=hgt
   clear hcn hnx
   go_wp2
   exact bodyPost_ret (v:=.bool true) (by kernel_rfl) rfl ⟨rfl,B.out⟩
 clear hKr
 have HKEY:=Lib.hid KEY
 clear KEY
 by_cases h1:lim > 40
 ·have g2:decide (lim > 40)=true:=decide_eq_true h1
  have h2:¬ lim≤1000:=by omega
  have g3:decide (lim≤1000)=false:=decide_eq_false h2
  have g4:40 < lim:=h1
  clear h40
  go_wp2_with (first
 | (go_at_call 13; with_reducible refine (HKN.out _ B.out).mono ?_; rintro e W3 ⟨rfl,q_W3⟩; replace K2:=Lib.hid (K2.out.below q_W3); replace B:=Lib.hid (B.out.trans (q_W3.mono B.out.size)); clear q_W3)
 | fail "arm")
  exact HKEY.out _ _ (ex_frame (by kernel_rfl)) K2.out B.out
 ·have g2:decide (lim > 40)=false:=decide_eq_false h1
  have g4:¬ 40 < lim:=h1
  clear h40
  go_wp2_with (first
 | (go_at_call 13; with_reducible refine (HKN.out _ B.out).mono ?_; rintro e W3 ⟨rfl,q_W3⟩; replace K2:=Lib.hid (K2.out.below q_W3); replace B:=Lib.hid (B.out.trans (q_W3.mono B.out.size)); clear q_W3)
 | fail "arm")
  exact HKEY.out _ _ (ex_frame (by kernel_rfl)) K2.out B.out

end Go.Proofs.YthhkmihjnnfpgaaGreatDoor
