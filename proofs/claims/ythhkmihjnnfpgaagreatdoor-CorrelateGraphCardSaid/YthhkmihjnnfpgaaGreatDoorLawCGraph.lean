/- CorrelateGraph: the walk. -/
import Derived.Test.YthhkmihjnnfpgaaGreatDoorGCorG
import Derived.Test.YthhkmihjnnfpgaaGreatDoorGCorW
import Derived.Test.YthhkmihjnnfpgaaGreatDoorGCorB
import Derived.Test.YthhkmihjnnfpgaaGreatDoorGCorU
import Derived.Test.YthhkmihjnnfpgaaGreatDoorGCorY
namespace Go.Proofs.YthhkmihjnnfpgaaGreatDoor
set_option linter.all false
open Go.RowKit

attribute [local go_sem] Oper.semAt_some

set_option maxRecDepth 100000 in
set_option maxHeartbeats 8000000 in
theorem corGraph_walk (p:PL) (hp:p.ok) (vl vr:Value) (w:World) (he:Env w) (hl:BAt w vl p.l) (hr:BAt w vr p.r) :
  Calls Tryz.prog 9 #[.agg #[vl,vr,.int .u8 p.c0,.int .u8 p.c1,.int .u8 p.c2,.int .u8 p.c3]] w fun e w'=>e=.returned (.bool true)∧Below w.heap.size w w':=by
 obtain ⟨A1,k1,rfl,hk1⟩:=hl.cap
 obtain ⟨A2,k2,rfl,hk2⟩:=hr.cap
 have HE:=Lib.hid he
 have HL:=Lib.hid hl
 have HR:=Lib.hid hr
 have B:=Lib.hid (Below.refl w.heap.size w)
 clear he hl hr
 go_enter Tryz.func9,Tryz.ntmps9
 go_upto_region 1 with (fail)
 have k_:=Blk.fresh w #[.slice A1 p.l.length k1,.slice A2 p.r.length k2,.int .u8 p.c0,.int .u8 p.c1,.int .u8 p.c2,.int .u8 p.c3] 25
 have q_:=below_new w (.cells #[.slice A1 p.l.length k1,.slice A2 p.r.length k2,.int .u8 p.c0,.int .u8 p.c1,.int .u8 p.c2,.int .u8 p.c3] 25)
 generalize (w.alloc (.cells #[.slice A1 p.l.length k1,.slice A2 p.r.length k2,.int .u8 p.c0,.int .u8 p.c1,.int .u8 p.c2,.int .u8 p.c3] 25))=W1 at *
 obtain ⟨b2,hg_⟩:∃ g,w.heap.size=g:=⟨_,rfl⟩
 rw [hg_] at k_ ⊢
 replace B:=Lib.hid (B.out.trans (q_.mono B.out.size))
 have K2:=Lib.hid k_
 clear q_ k_ hg_
 have HKN:=Lib.hid (known44_any W1 (HE.out.below B.out))
 go_upto_region 3 with (first
  | (go_at_call 13; with_reducible refine HKN.out.mono ?_; rintro e W3 ⟨rfl,q_W3⟩)
  | fail "arm")
 replace K2:=Lib.hid (K2.out.below q_W3)
 replace B:=Lib.hid (B.out.trans (q_W3.mono B.out.size))
 clear q_W3
 clear HKN
 have y0:=K2.out.at_ 0 _ rfl
 have y1:=K2.out.at_ 1 _ rfl
 have y2:=K2.out.at_ 2 _ rfl
 have y3:=K2.out.at_ 3 _ rfl
 have y4:=K2.out.at_ 4 _ rfl
 have y5:=K2.out.at_ 5 _ rfl
 go_wp2_with (fail)
 clear y0 y1 y2 y3 y4 y5
 with_reducible refine (make44_any p hp _ _ W3 (HE.out.below B.out) (HL.out.below B.out) (HR.out.below B.out)).mono ?_
 rintro e W4 ⟨v1,v2,rfl,hq4,q_W4⟩
 replace K2:=Lib.hid (K2.out.below q_W4)
 replace B:=Lib.hid (B.out.trans (q_W4.mono B.out.size))
 clear q_W4
 obtain ⟨a1,g1,e1,_⟩:=hq4.l
 obtain ⟨a2,g2,e2,_⟩:=hq4.r
 subst e1 e2
 have HQ:=Lib.hid hq4
 clear hq4
 have OK:=Lib.hid p.qok
 generalize p.q=q at *
 clear K2 HL HR
 go_upto_region 4 with (fail)
 have k_:=Blk.fresh W4 #[.slice a1 q.L.length g1,.slice a2 q.R.length g2,.string (qT (2 * q.ch)),.string (qT (2 * q.mi)),.string (qT (2 * q.ga)),.string (qT (2 * q.re))] 32
 have q_:=below_new W4 (.cells #[.slice a1 q.L.length g1,.slice a2 q.R.length g2,.string (qT (2 * q.ch)),.string (qT (2 * q.mi)),.string (qT (2 * q.ga)),.string (qT (2 * q.re))] 32)
 generalize (W4.alloc (.cells #[.slice a1 q.L.length g1,.slice a2 q.R.length g2,.string (qT (2 * q.ch)),.string (qT (2 * q.mi)),.string (qT (2 * q.ga)),.string (qT (2 * q.re))] 32))=W5 at *
 obtain ⟨b5,hg_⟩:∃ g,W4.heap.size=g:=⟨_,rfl⟩
 rw [hg_] at k_ ⊢
 replace HQ:=Lib.hid (HQ.out.below q_)
 replace B:=Lib.hid (B.out.trans (q_.mono B.out.size))
 have K5:=Lib.hid k_
 clear q_ k_ hg_
 have y0:=K5.out.at_ 0 _ rfl
 have y1:=K5.out.at_ 1 _ rfl
 have y2:=K5.out.at_ 2 _ rfl
 have y3:=K5.out.at_ 3 _ rfl
 have y4:=K5.out.at_ 4 _ rfl
 have y5:=K5.out.at_ 5 _ rfl
 go_wp2_with (fail)
 clear y0 y1 y2 y3 y4 y5
 with_reducible refine (graph_any q OK.out _ _ W5 (HE.out.below B.out) HQ.out).mono ?_
 rintro e W6 ⟨v,rfl,hrow,q_W6⟩
 obtain ⟨va,vc,e1⟩:=hrow.len_eval
 subst e1
 have HROW:=Lib.hid (row_lookB stC_len hrow)
 clear hrow
 replace HQ:=Lib.hid (HQ.out.below q_W6)
 replace K5:=Lib.hid (K5.out.below q_W6)
 replace B:=Lib.hid (B.out.trans (q_W6.mono B.out.size))
 clear q_W6
 obtain ⟨nl,hnl⟩:∃ n,(gpos q (potE q)).length=n:=⟨_,rfl⟩
 have HNL:=Lib.hid hnl
 rw [hnl]
 rw [hnl] at HROW
 clear hnl
 have y0:=K5.out.at_ 0 _ rfl
 have y1:=K5.out.at_ 1 _ rfl
 have y2:=K5.out.at_ 2 _ rfl
 have y3:=K5.out.at_ 3 _ rfl
 have y4:=K5.out.at_ 4 _ rfl
 have y5:=K5.out.at_ 5 _ rfl
 go_wp2_with (fail)
 clear y0 y1 y2 y3 y4 y5
 with_reducible refine (lrests_any q OK.out _ _ W6 (HE.out.below B.out) HQ.out).mono ?_
 rintro e W7 ⟨lb,wb,rl,rw_,rfl,htl,htw,hs1,hs2,hs3,q_W7⟩
 clear htw hs1 hs2 hs3
 have TL:=Lib.hid htl
 clear htl
 replace HQ:=Lib.hid (HQ.out.below q_W7)
 replace K5:=Lib.hid (K5.out.below q_W7)
 replace HROW:=Lib.hid (HROW.out.below q_W7)
 replace B:=Lib.hid (B.out.trans (q_W7.mono B.out.size))
 clear q_W7
 have y0:=K5.out.at_ 0 _ rfl
 have y1:=K5.out.at_ 1 _ rfl
 have y2:=K5.out.at_ 2 _ rfl
 have y3:=K5.out.at_ 3 _ rfl
 have y4:=K5.out.at_ 4 _ rfl
 have y5:=K5.out.at_ 5 _ rfl
 go_wp2_with (fail)
 clear y0 y1 y2 y3 y4 y5
 with_reducible refine (fronts_any q OK.out _ _ W7 (HE.out.below B.out) HQ.out).mono ?_
 rintro e WF ⟨of,rb,rfl,hrb,htf,hs1,hs2,q_WF⟩
 clear hs1 hs2
 have TF:=Lib.hid htf
 have HRB:=Lib.hid hrb
 clear htf hrb
 replace HQ:=Lib.hid (HQ.out.below q_WF)
 replace K5:=Lib.hid (K5.out.below q_WF)
 replace HROW:=Lib.hid (HROW.out.below q_WF)
 replace TL:=Lib.hid (TL.out.below q_WF)
 replace B:=Lib.hid (B.out.trans (q_WF.mono B.out.size))
 clear q_WF
 obtain ⟨N,hN⟩:∃ n,q.L.length + 1=n:=⟨_,rfl⟩
 obtain ⟨M,hM⟩:∃ n,q.R.length + 1=n:=⟨_,rfl⟩
 have HN:=Lib.hid hN
 have HM:=Lib.hid hM
 have hll:=OK.out.hl
 have hrr:=OK.out.hr
 rw [hN]
 clear hN hM
 have HEF:=Lib.hid (HE.out.below B.out)
 have BF:=Lib.hid (Below.refl WF.heap.size WF)
 have HCL:Hid (∀ p,p≤potE q→(gpos q p).length≤300):=Lib.hid (fun p hp=>by
  have h1:=gpos_len q p
  have h3:potE q≤7 * 7:=Nat.mul_le_mul (by omega) (by omega)
  omega)
 have HNB:Hid (nl≤300):=Lib.hid (by rw [← HNL.out]; exact HCL.out _ (Nat.le_refl _))
 go_wp2
 go_loopw [9,10] (fun cv iv wr=>∃ i:Nat,i≤N∧cv=.int .i64 ((gpos q (i * M)).length:Nat)∧iv=.int .i64 i∧Below WF.heap.size WF wr) (fun _ iv _=>N - (intOf iv).toNat)
 case atStart=>exact ⟨0,Nat.zero_le _,by rw [Nat.zero_mul]; rfl,rfl,BF.out⟩
 case round =>
  clear BF
  obtain ⟨i,hi,rfl,rfl,b3⟩:=hrel
  have BF:=Lib.hid b3
  clear b3
  have kq:=K5.out.below BF.out
  have y0:=kq.at_ 0 _ rfl
  clear kq
  by_cases hlt:i < N
  case neg =>
   have hz1:¬ (i:Int)≤(q.L.length:Int):=by have:=HN.out; omega
   have hz2:decide ((i:Int)≤(q.L.length:Int))=false:=decide_eq_false hz1
   obtain rfl:i=N:=by omega
   have hgl:(gpos q (i * M)).length=nl:=by rw [← HNL.out,show i * M=potE q by rw [← HN.out,← HM.out]; rfl]
   rw [hgl]
   have HB9:=Lib.hid (B.out.trans (BF.out.mono B.out.size))
   clear hgl hlt hi
   go_wp2
   exact bodyPost_ret (v:=.bool true) (by kernel_rfl) rfl ⟨rfl,HB9.out⟩
  have hz1:(i:Int)≤(q.L.length:Int):=by have:=HN.out; omega
  have hz2:decide ((i:Int)≤(q.L.length:Int))=true:=decide_eq_true hz1
  have hiQ:i≤q.L.length:=by have:=HN.out; omega
  have hwi:IntKind.i64.wrap ((i:Int) + 1)=(i:Int) + 1:=IntWalk.i64_in _ (by have:=HN.out; omega)
  go_wp2
  clear y0
  go_loopw [9,11] (fun cv jv wr=>∃ j:Nat,j≤M∧cv=.int .i64 ((gpos q (i * M + j)).length:Nat)∧jv=.int .i64 j∧Below WF.heap.size WF wr) (fun _ jv _=>M - (intOf jv).toNat)
  case atStart=>exact ⟨0,Nat.zero_le _,rfl,rfl,BF.out⟩
  case round =>
   clear BF
   obtain ⟨j,hj,rfl,rfl,b3⟩:=hrel
   have BF:=Lib.hid b3
   clear b3
   have kq:=K5.out.below BF.out
   have y1:=kq.at_ 1 _ rfl
   clear kq
   by_cases hlj:j < M
   case neg =>
    have hz3:¬ (j:Int)≤(q.R.length:Int):=by have:=HM.out; omega
    have hz4:decide ((j:Int)≤(q.R.length:Int))=false:=decide_eq_false hz3
    have hgl:Hid ((gpos q (i * M + j)).length=(gpos q ((i + 1) * M)).length):=Lib.hid (by rw [Nat.succ_mul,show j=M by omega])
    go_wp2
    exact ⟨⟨i + 1,by omega,by rw [hgl.out],by go_num,BF.out⟩,by simp [intOf]; omega⟩
   have hz3:(j:Int)≤(q.R.length:Int):=by have:=HM.out; omega
   have hz4:decide ((j:Int)≤(q.R.length:Int))=true:=decide_eq_true hz3
   have hjQ:j≤q.R.length:=by have:=HM.out; omega
   have hwj:IntKind.i64.wrap ((j:Int) + 1)=(j:Int) + 1:=IntWalk.i64_in _ (by have:=HM.out; omega)
   have HIJ:=Lib.hid (And.intro hiQ hjQ)
   have hidx:i * M + j=idx q i j:=by unfold idx; rw [HM.out]
   have HIDX:=Lib.hid hidx
   clear hidx
   rw [HIDX.out]
   go_wp2
   clear y1
   go_loopw [9,12] (fun cv kv wk=>∃ k:Nat,1≤k∧k≤6∧cv=.int .i64 ((gpos q (idx q i j) ++ grK q i j (k - 1)).length:Nat)∧kv=.int .i64 k∧Below WF.heap.size WF wk) (fun _ kv _=>(6 - intOf kv).toNat)
   case atStart=>exact ⟨1,by omega,by omega,by rw [List.length_append]; rfl,rfl,BF.out⟩
   case round =>
    clear BF
    obtain ⟨k,hk1,hk6,rfl,rfl,b3⟩:=hrel
    have BF:=Lib.hid b3
    clear b3
    by_cases hk5:k≤5
    case neg =>
     obtain rfl:k=6:=by omega
     have HGL:Hid ((gpos q (idx q i j) ++ grK q i j (6 - 1)).length=(gpos q (i * M + (j + 1))).length):=Lib.hid (by rw [← Nat.add_assoc,HIDX.out,gpos_next q i j hjQ])
     rw [HGL.out]
     go_wp2
     exact ⟨⟨j + 1,by omega,rfl,by go_num,BF.out⟩,by simp [intOf]; omega⟩
    have hkz:(k:Int)≤5:=by omega
    have hkd:decide ((k:Int)≤5)=true:=decide_eq_true hkz
    have hwk:IntKind.i64.wrap ((k:Int) + 1)=(k:Int) + 1:=IntWalk.i64_in _ (by omega)
    have HKK:=Lib.hid (And.intro hk1 hk5)
    have hX:∃ X er,costV q k i j=.tuple #[.string X,.int .i64 er]∧(okS q k i j→X=qT (cst q k i j)∧er=0)∧(¬ okS q k i j→er ≠ 0):=by
     by_cases ho:okS q k i j
     ·exact ⟨_,_,costV_ok HKK.out hiQ hjQ ho,fun _=>⟨rfl,rfl⟩,fun h=>absurd ho h⟩
     ·obtain ⟨er,h1,h2⟩:=costV_no HKK.out hiQ hjQ ho
      exact ⟨_,_,h2,fun h=>absurd h ho,fun _=>h1⟩
    obtain ⟨X,er,hcv,hxo,hxn⟩:=hX
    have HXO:=Lib.hid hxo
    have HXN:=Lib.hid hxn
    have hlc:=lcost_any q OK.out k i j _ _ WF HEF.out HQ.out
    rw [hcv] at hlc
    have HLC0:=Lib.hid hlc
    have HNX:Hid (∀ b:Bool,decide (grP q i j k)=b→(gpos q (idx q i j) ++ grK q i j (k + 1 - 1)).length=(gpos q (idx q i j) ++ grK q i j (k - 1)).length + (if b=true then 1 else 0)):=Lib.hid (fun b hb=>by
     have h:=grK_next q i j (k - 1) (by omega)
     rw [show k - 1 + 1=k by omega] at h
     rw [Nat.add_sub_cancel,h,← hb]
     by_cases hp:grP q i j k
     ·rw [if_pos hp,decide_eq_true hp,if_pos rfl,← List.append_assoc,List.length_append]; rfl
     ·rw [if_neg hp,decide_eq_false hp,List.append_nil]; rfl)
    have HGT:Hid (grP q i j k→(gpos q (potE q))[(gpos q (idx q i j) ++ grK q i j (k - 1)).length]?=some (k,i,j)):=Lib.hid (fun hp=>by
     have h:=gr_get q i j (k - 1) hiQ hjQ (by omega)
     rw [show k - 1 + 1=k by omega] at h
     exact h hp)
    have HCB:Hid ((gpos q (idx q i j) ++ grK q i j (k - 1)).length≤400):=Lib.hid (by
     rw [List.length_append]
     have h1:=HCL.out _ (Nat.le_of_lt (idx_lt q hiQ hjQ))
     have h2:=grK_len q i j (k - 1) (by omega)
     omega)
    clear hcv hxo hxn hlc
    generalize (gpos q (idx q i j) ++ grK q i j (k - 1)).length=c at *
    go_upto_region 18 with (fail)
    have KS:=Lib.hid (Blk.fresh wr #[.int .i64 k,.int .i64 i,.int .i64 j] 56)
    have qs:=below_new wr (.cells #[.int .i64 k,.int .i64 i,.int .i64 j] 56)
    replace BF:=Lib.hid (BF.out.trans (qs.mono BF.out.size))
    clear qs
    generalize (wr.alloc (.cells #[.int .i64 k,.int .i64 i,.int .i64 j] 56))=V1 at *
    obtain ⟨bs,hbs⟩:∃ b,wr.heap.size=b:=⟨_,rfl⟩
    rw [hbs] at KS ⊢
    clear hbs
    have KQ:=Lib.hid (K5.out.below BF.out)
    have HLC:Hid (Ret Tryz.prog V1 24 #[.agg #[.slice a1 q.L.length g1,.slice a2 q.R.length g2,.string (qT (2 * q.ch)),.string (qT (2 * q.mi)),.string (qT (2 * q.ga)),.string (qT (2 * q.re))],.agg #[.int .i64 k,.int .i64 i,.int .i64 j]] (.tuple #[.string X,.int .i64 er])):=Lib.hid (fun W hW=>HLC0.out W (BF.out.trans (hW.mono BF.out.size)))
    refine wp_tab (.v 57 (.agg #[.slice a1 q.L.length g1,.slice a2 q.R.length g2,.string (qT (2 * q.ch)),.string (qT (2 * q.mi)),.string (qT (2 * q.ga)),.string (qT (2 * q.re))]) :: .v 58 (.agg #[.int .i64 k,.int .i64 i,.int .i64 j]) :: .v 59 (.tuple #[.string X,.int .i64 er]) :: .v 56 (.tuple #[.string X,.int .i64 er]) :: .v 60 (.string X) :: .v 61 (.int .i64 er) :: .v 14 (.string X) :: .v 15 (.int .i64 er) :: []) [] [⟨b5,#[.slice a1 q.L.length g1,.slice a2 q.R.length g2,.string (qT (2 * q.ch)),.string (qT (2 * q.mi)),.string (qT (2 * q.ga)),.string (qT (2 * q.re))],32,none⟩,⟨bs,#[.int .i64 k,.int .i64 i,.int .i64 j],56,none⟩] [] [] [] [] [] (by kernel_rfl) (Below.refl _ _) ⟨KQ.out,KS.out,trivial⟩ trivial ⟨ld 0 0,ld 1 0,cl HLC.out,pu,pu,pu,pu,pu,trivial⟩ ?_
    clear HLC KQ
    rintro σ V2 _ ⟨_,KS2,_⟩ _ _ q9
    simp only [slotsOf,finX,nval,nvalN,nvalA,Nat.reduceBEq,cond_true,cond_false,putAll,Act.put,List.setIfInBounds_toArray,List.set_cons_succ,List.set_cons_zero]
    replace BF:=Lib.hid (BF.out.trans (q9.mono BF.out.size))
    clear KS q9 HLC0
    have KS:=Lib.hid KS2
    clear KS2
    by_cases ho:okS q k i j
    case neg =>
     have hn0:=HXN.out ho
     have hn:(er == 0)=false:=by rw [beq_eq_false_iff_ne]; exact hn0
     have S9:=Lib.hid (HNX.out false (decide_eq_false (fun h=>ho h.1)))
     clear HXO HXN KS
     go_wp2
     exact ⟨⟨k + 1,by omega,by omega,by rw [S9.out]; rfl,rfl,BF.out⟩,by simp [intOf]; omega⟩
    obtain ⟨rfl,rfl⟩:=HXO.out ho
    have d0:=KS.out.at_ 0 _ rfl
    have d1:=KS.out.at_ 1 _ rfl
    have d2:=KS.out.at_ 2 _ rfl
    have hnx:=lafter_any k i j (by omega) (by omega) V2
    rw [nzI_nat,nzJ_nat k j HKK.out] at hnx
    have HAF:=Lib.hid hnx
    clear hnx HXO HXN
    go_upto_region 21 with (first
     | (go_at_call 32; with_reducible refine (HAF.out _ (Below.refl _ _)).mono ?_; rintro e V3 ⟨rfl,q3⟩)
     | fail "arm")
    clear d0 d1 d2 HAF
    replace BF:=Lib.hid (BF.out.trans (q3.mono BF.out.size))
    replace KS:=Lib.hid (KS.out.below q3)
    clear q3
    have hoa:=ho.1
    have hob:=ho.2.1
    have l1:i < rb.length:=by have:=HRB.out; have:=HN.out; omega
    have hr1:=HRB.out
    have c1:=TF.out.cell1 i l1
    have c2:WF.cell? ⟨rb[i],j,none⟩=some (.string (qT (frn q i j))):=TF.out.cell2 i j l1 (by omega)
    have c3:=TL.out.cell1 (nxI k i) (Nat.zero_le _) (by omega)
    have c4:=TL.out.cell2 (nxI k i) (nxJ k j) (Nat.zero_le _) (by omega) (by omega)
    have c5:=TL.out.cell1 0 (Nat.zero_le _) (by omega)
    have c6:=TL.out.cell2 0 0 (Nat.zero_le _) (by omega) (by omega)
    have d1:=TF.out.lt1
    have d2:=TF.out.lt2 rb[i] (List.getElem_mem l1)
    have d3:=TL.out.out.lt
    have d4:=(TL.out.row (nxI k i) (Nat.zero_le _) (by omega)).lt
    have d6:=(TL.out.row 0 (Nat.zero_le _) (by omega)).lt
    rw [HM.out] at c1 c3 c5
    generalize rb[i]=r1 at c1 c2 d2
    generalize rl (nxI k i)=r2 at c3 c4 d4
    generalize rl 0=r3 at c5 c6 d6
    have hb1:=frn_bdQ q OK.out hiQ hjQ
    have hb2:=rst_bdQ q OK.out (nxI k i) (nxJ k j) hoa hob
    have hb3:=cst_bd q OK.out k i j
    have HSUM:Hid (∀ (W:World) (b:Nat),Blk W b #[.string (qT (frn q i j)),.string (qT (cst q k i j)),.string (qT (rst q (nxI k i) (nxJ k j)))] 28→Below V3.heap.size V3 W→Calls Tryz.prog 33 #[.slice (some ⟨b,0,none⟩) 3 3] W fun e w'=>e=.returned (.string (qT (frn q i j + cst q k i j + rst q (nxI k i) (nxJ k j))))∧Below W.heap.size W w'):=Lib.hid (fun W b hb hW=>rSum3Q _ _ _ (by omega) (by omega) (by omega) WF HEF.out W b hb (BF.out.trans (hW.mono BF.out.size)))
    have heq:((qT (frn q i j + cst q k i j + rst q (nxI k i) (nxJ k j))).toList == (qT (rst q 0 0)).toList)=decide (grP q i j k):=by
     rw [ba_beq,decide_eq_decide]
     exact ⟨fun h=>⟨ho,qT_inj h⟩,fun h=>by rw [h.2]⟩
    have C1:=Lib.hid ((BF.out.cell (p:=⟨of,i,none⟩) d1).trans c1)
    have C2:=Lib.hid ((BF.out.cell (p:=⟨r1,j,none⟩) d2).trans c2)
    have C3:=Lib.hid ((BF.out.cell (p:=⟨lb,nxI k i,none⟩) d3).trans c3)
    have C4:=Lib.hid ((BF.out.cell (p:=⟨r2,nxJ k j,none⟩) d4).trans c4)
    have C5:=Lib.hid ((BF.out.cell (p:=⟨lb,0,none⟩) d3).trans c5)
    have C6:=Lib.hid ((BF.out.cell (p:=⟨r3,0,none⟩) d6).trans c6)
    have hsz:=BF.out.size
    have LC1:=Lib.hid (Nat.lt_of_lt_of_le d1 hsz)
    have LC2:=Lib.hid (Nat.lt_of_lt_of_le d2 hsz)
    have LC3:=Lib.hid (Nat.lt_of_lt_of_le d3 hsz)
    have LC4:=Lib.hid (Nat.lt_of_lt_of_le d4 hsz)
    have LC6:=Lib.hid (Nat.lt_of_lt_of_le d6 hsz)
    have t1:(i:Int) < (N:Int):=by omega
    have t2:(j:Int) < (M:Int):=by omega
    have t3:(nxI k i:Int) < (N:Int):=by have:=HN.out; omega
    have t4:(nxJ k j:Int) < (M:Int):=by have:=HM.out; omega
    have t5:(0:Int) < (N:Int):=by omega
    have t6:(0:Int) < (M:Int):=by omega
    have t7:0 < N:=by omega
    have t8:0 < M:=by omega
    have t9:nxI k i < N:=by omega
    have t10:nxJ k j < M:=by omega
    clear c1 c2 c3 c4 c5 c6 d1 d2 d3 d4 d6 hb1 hb2 hb3 hoa hob l1 hsz ho hr1
    generalize qT (frn q i j + cst q k i j + rst q (nxI k i) (nxJ k j))=ts at *
    generalize qT (frn q i j)=tf at *
    generalize qT (cst q k i j)=tk at *
    generalize qT (rst q (nxI k i) (nxJ k j))=tr at *
    generalize qT (rst q 0 0)=tz at *
    generalize nxI k i=am at *
    generalize nxJ k j=bm at *
    by_cases hg:grP q i j k
    ·rw [decide_eq_true hg] at heq
     have S9:=Lib.hid (HNX.out true (decide_eq_true hg))
     have hgt:=HGT.out hg
     have hcl:c < nl:=by rw [← HNL.out]; exact (List.getElem?_eq_some_iff.1 hgt).1
     clear hg HNX HGT
     refine wp_tab (.v 69 (.slice (some ⟨of,0,none⟩) N N) :: .v 70 (.int .i64 i) :: .v 71 (.pointer (some ⟨of,i,none⟩)) :: .v 72 (.slice (some ⟨r1,0,none⟩) M M) :: .v 73 (.int .i64 j) :: .v 74 (.pointer (some ⟨r1,j,none⟩)) :: .v 75 (.string tf) :: .v 76 (.string tk) :: .v 77 (.slice (some ⟨lb,0,none⟩) N N) :: .v 78 (.int .i64 am) :: .v 79 (.pointer (some ⟨lb,am,none⟩)) :: .v 80 (.slice (some ⟨r2,0,none⟩) M M) :: .v 81 (.int .i64 bm) :: .v 82 (.pointer (some ⟨r2,bm,none⟩)) :: .v 83 (.string tr) :: .n 84 :: .v 85 (.string ts) :: .v 86 (.slice (some ⟨lb,0,none⟩) N N) :: .v 87 (.pointer (some ⟨lb,0,none⟩)) :: .v 88 (.slice (some ⟨r3,0,none⟩) M M) :: .v 89 (.pointer (some ⟨r3,0,none⟩)) :: .v 90 (.string tz) :: .v 91 (.bool false) :: []) [⟨15,84,fun g=>.slice (some ⟨g,0,none⟩) 3 3,#[.string tf,.string tk,.string tr],28,none⟩] [] [] [] [] [] [] (by kernel_rfl) (Below.refl _ _) trivial trivial ⟨pu,pu,?_,?_,pu,?_,?_,pu,pu,pu,?_,?_,pu,?_,?_,ml 0,c1 0 HSUM.out,pu,?_,?_,?_,?_,?_,trivial⟩ ?_
     ·intro L a U ho J hn dd KK kk; refine .free rfl ?_; have r69:=J.read 0 rfl (dd.get 0 rfl); have r70:=J.read 1 rfl (dd.get 1 rfl); go_simp; exact kk.out _ _ (J.st 2 rfl rfl)
     ·intro L a U ho J hn dd KK kk; refine .free rfl ?_; have r71:=J.read 2 rfl (dd.get 2 rfl); have e0:=(J.bb.cell (p:=⟨of,i,none⟩) LC1.out).trans C1.out; go_simp; exact kk.out _ _ (J.st 3 rfl rfl)
     ·intro L a U ho J hn dd KK kk; refine .free rfl ?_; have r72:=J.read 3 rfl (dd.get 3 rfl); have r73:=J.read 4 rfl (dd.get 4 rfl); go_simp; exact kk.out _ _ (J.st 5 rfl rfl)
     ·intro L a U ho J hn dd KK kk; refine .free rfl ?_; have r74:=J.read 5 rfl (dd.get 5 rfl); have e0:=(J.bb.cell (p:=⟨r1,j,none⟩) LC2.out).trans C2.out; go_simp; exact kk.out _ _ (J.st 6 rfl rfl)
     ·intro L a U ho J hn dd KK kk; refine .free rfl ?_; have r77:=J.read 8 rfl (dd.get 8 rfl); have r78:=J.read 9 rfl (dd.get 9 rfl); go_simp; exact kk.out _ _ (J.st 10 rfl rfl)
     ·intro L a U ho J hn dd KK kk; refine .free rfl ?_; have r79:=J.read 10 rfl (dd.get 10 rfl); have e0:=(J.bb.cell (p:=⟨lb,am,none⟩) LC3.out).trans C3.out; go_simp; exact kk.out _ _ (J.st 11 rfl rfl)
     ·intro L a U ho J hn dd KK kk; refine .free rfl ?_; have r80:=J.read 11 rfl (dd.get 11 rfl); have r81:=J.read 12 rfl (dd.get 12 rfl); go_simp; exact kk.out _ _ (J.st 13 rfl rfl)
     ·intro L a U ho J hn dd KK kk; refine .free rfl ?_; have r82:=J.read 13 rfl (dd.get 13 rfl); have e0:=(J.bb.cell (p:=⟨r2,bm,none⟩) LC4.out).trans C4.out; go_simp; exact kk.out _ _ (J.st 14 rfl rfl)
     ·intro L a U ho J hn dd KK kk; refine .free rfl ?_; have r86:=J.read 17 rfl (dd.get 17 rfl); go_simp; exact kk.out _ _ (J.st 18 rfl rfl)
     ·intro L a U ho J hn dd KK kk; refine .free rfl ?_; have r87:=J.read 18 rfl (dd.get 18 rfl); have e0:=(J.bb.cell (p:=⟨lb,0,none⟩) LC3.out).trans C5.out; go_simp; exact kk.out _ _ (J.st 19 rfl rfl)
     ·intro L a U ho J hn dd KK kk; refine .free rfl ?_; have r88:=J.read 19 rfl (dd.get 19 rfl); go_simp; exact kk.out _ _ (J.st 20 rfl rfl)
     ·intro L a U ho J hn dd KK kk; refine .free rfl ?_; have r89:=J.read 20 rfl (dd.get 20 rfl); have e0:=(J.bb.cell (p:=⟨r3,0,none⟩) LC6.out).trans C6.out; go_simp; exact kk.out _ _ (J.st 21 rfl rfl)
     ·intro L a U ho J hn dd KK kk; refine .free rfl ?_; have r85:=J.read 16 rfl (dd.get 16 rfl); have r90:=J.read 21 rfl (dd.get 21 rfl); go_simp; exact kk.out _ _ (J.st 22 rfl rfl)
     rintro σ V4 _ _ _ _ q4
     simp only [slotsOf,finX,nval,nvalN,nvalA,Nat.reduceBEq,cond_true,cond_false,putAll,Act.put,List.setIfInBounds_toArray,List.set_cons_succ,List.set_cons_zero]
     replace BF:=Lib.hid (BF.out.trans (q4.mono BF.out.size))
     replace KS:=Lib.hid (KS.out.below q4)
     clear C1 C2 C3 C4 C5 C6 LC1 LC2 LC3 LC4 LC6 HSUM heq t1 t2 t3 t4 t5 t6 t7 t8 t9 t10 q4
     obtain ⟨pa',pc',ep,hp9⟩:=HROW.out.below BF.out
     injection ep with ep1 ep2 ep3
     subst ep1 ep3
     clear ep2
     obtain ⟨dp,op,ep,hdp,hpc⟩:=hp9 c (k,i,j) hgt
     subst ep
     have P0:Hid (V4.cell? ⟨dp,op + c * 3,none⟩=some (.int .i64 k)):=Lib.hid (hpc 0 _ rfl)
     have P1:Hid (V4.cell? ⟨dp,op + c * 3 + 1,none⟩=some (.int .i64 i)):=Lib.hid (hpc 1 _ rfl)
     have P2:Hid (V4.cell? ⟨dp,op + c * 3 + 2,none⟩=some (.int .i64 j)):=Lib.hid (hpc 2 _ rfl)
     have HG:Hid (decide (((c:Nat):Int) ≥ ((nl:Nat):Int))=false∧¬ nl≤c):=Lib.hid ⟨decide_eq_false (by omega),by omega⟩
     have HC2:Hid (((c:Nat):Int) < ((nl:Nat):Int)):=Lib.hid (by omega)
     have hwc:IntKind.i64.wrap (((c:Nat):Int) + 1)=((c:Nat):Int) + 1:=IntWalk.i64_in _ (by have:=HCB.out; omega)
     clear hp9 hpc hgt hcl
     go_upto_region 22 with (fail)
     refine wp_tab (.v 92 (.int .i64 (c:Nat)) :: .v 93 (.slice (some ⟨dp,op,none⟩) nl vc) :: .v 94 (.int .i64 (nl:Nat)) :: .v 95 (.bool false) :: .v 96 (.bool false) :: .v 97 (.slice (some ⟨dp,op,none⟩) nl vc) :: .v 98 (.int .i64 (c:Nat)) :: .v 99 (.pointer (some ⟨dp,op + c * 3,none⟩)) :: .v 100 (.agg #[.int .i64 k,.int .i64 i,.int .i64 j]) :: .v 101 (.agg #[.int .i64 k,.int .i64 i,.int .i64 j]) :: .v 102 (.bool false) :: .v 103 (.bool false) :: []) [] [⟨bs,#[.int .i64 k,.int .i64 i,.int .i64 j],56,none⟩] [] [] [] [] [] (by kernel_rfl) (Below.refl _ _) ⟨KS.out,trivial⟩ trivial ⟨pu,pu,pu,?_,pu,pu,pu,?_,?_,ld 0 0,?_,pu,trivial⟩ ?_
     ·intro L a U ho J hn dd KK kk; refine .free rfl ?_; have r92:=J.read 0 rfl (dd.get 0 rfl); have r94:=J.read 2 rfl (dd.get 2 rfl); have hg1:=HG.out.1; have hg2:=HG.out.2; go_simp; exact kk.out _ _ (J.st 3 rfl rfl)
     ·intro L a U ho J hn dd KK kk; refine .pos (s:=96) rfl rfl (J.vals 4 _ _ rfl (dd.get 4 rfl)) ?_; have r97:=J.read 5 rfl (dd.get 5 rfl); have r98:=J.read 6 rfl (dd.get 6 rfl); have hm2:=HC2.out; go_simp; exact kk.out _ _ (J.st 7 rfl rfl)
     ·intro L a U ho J hn dd KK kk; refine .pos (s:=96) rfl rfl (J.vals 4 _ _ rfl (dd.get 4 rfl)) ?_; have r99:=J.read 7 rfl (dd.get 7 rfl); have e0:=(J.bb.cell (p:=⟨dp,op + c * 3,none⟩) hdp).trans P0.out; have e1:=(J.bb.cell (p:=⟨dp,op + c * 3 + 1,none⟩) hdp).trans P1.out; have e2:=(J.bb.cell (p:=⟨dp,op + c * 3 + 2,none⟩) hdp).trans P2.out; go_simp; exact kk.out _ _ (J.st 8 rfl rfl)
     ·intro L a U ho J hn dd KK kk; refine .pos (s:=96) rfl rfl (J.vals 4 _ _ rfl (dd.get 4 rfl)) ?_; have r100:=J.read 8 rfl (dd.get 8 rfl); have r101:=J.read 9 rfl (dd.get 9 rfl); go_simp; exact kk.out _ _ (J.st 10 rfl rfl)
     rintro σ V5 _ _ _ _ q5
     simp only [slotsOf,finX,nval,nvalN,nvalA,Nat.reduceBEq,cond_true,cond_false,putAll,Act.put,List.setIfInBounds_toArray,List.set_cons_succ,List.set_cons_zero]
     replace BF:=Lib.hid (BF.out.trans (q5.mono BF.out.size))
     clear P0 P1 P2 HG HC2 KS q5
     go_wp2
     exact ⟨⟨k + 1,by omega,by omega,by rw [S9.out]; rfl,rfl,BF.out⟩,by simp [intOf]; omega⟩
    ·rw [decide_eq_false hg] at heq
     have S9:=Lib.hid (HNX.out false (decide_eq_false hg))
     clear hg HNX HGT
     refine wp_tab (.v 69 (.slice (some ⟨of,0,none⟩) N N) :: .v 70 (.int .i64 i) :: .v 71 (.pointer (some ⟨of,i,none⟩)) :: .v 72 (.slice (some ⟨r1,0,none⟩) M M) :: .v 73 (.int .i64 j) :: .v 74 (.pointer (some ⟨r1,j,none⟩)) :: .v 75 (.string tf) :: .v 76 (.string tk) :: .v 77 (.slice (some ⟨lb,0,none⟩) N N) :: .v 78 (.int .i64 am) :: .v 79 (.pointer (some ⟨lb,am,none⟩)) :: .v 80 (.slice (some ⟨r2,0,none⟩) M M) :: .v 81 (.int .i64 bm) :: .v 82 (.pointer (some ⟨r2,bm,none⟩)) :: .v 83 (.string tr) :: .n 84 :: .v 85 (.string ts) :: .v 86 (.slice (some ⟨lb,0,none⟩) N N) :: .v 87 (.pointer (some ⟨lb,0,none⟩)) :: .v 88 (.slice (some ⟨r3,0,none⟩) M M) :: .v 89 (.pointer (some ⟨r3,0,none⟩)) :: .v 90 (.string tz) :: .v 91 (.bool true) :: []) [⟨15,84,fun g=>.slice (some ⟨g,0,none⟩) 3 3,#[.string tf,.string tk,.string tr],28,none⟩] [] [] [] [] [] [] (by kernel_rfl) (Below.refl _ _) trivial trivial ⟨pu,pu,?_,?_,pu,?_,?_,pu,pu,pu,?_,?_,pu,?_,?_,ml 0,c1 0 HSUM.out,pu,?_,?_,?_,?_,?_,trivial⟩ ?_
     ·intro L a U ho J hn dd KK kk; refine .free rfl ?_; have r69:=J.read 0 rfl (dd.get 0 rfl); have r70:=J.read 1 rfl (dd.get 1 rfl); go_simp; exact kk.out _ _ (J.st 2 rfl rfl)
     ·intro L a U ho J hn dd KK kk; refine .free rfl ?_; have r71:=J.read 2 rfl (dd.get 2 rfl); have e0:=(J.bb.cell (p:=⟨of,i,none⟩) LC1.out).trans C1.out; go_simp; exact kk.out _ _ (J.st 3 rfl rfl)
     ·intro L a U ho J hn dd KK kk; refine .free rfl ?_; have r72:=J.read 3 rfl (dd.get 3 rfl); have r73:=J.read 4 rfl (dd.get 4 rfl); go_simp; exact kk.out _ _ (J.st 5 rfl rfl)
     ·intro L a U ho J hn dd KK kk; refine .free rfl ?_; have r74:=J.read 5 rfl (dd.get 5 rfl); have e0:=(J.bb.cell (p:=⟨r1,j,none⟩) LC2.out).trans C2.out; go_simp; exact kk.out _ _ (J.st 6 rfl rfl)
     ·intro L a U ho J hn dd KK kk; refine .free rfl ?_; have r77:=J.read 8 rfl (dd.get 8 rfl); have r78:=J.read 9 rfl (dd.get 9 rfl); go_simp; exact kk.out _ _ (J.st 10 rfl rfl)
     ·intro L a U ho J hn dd KK kk; refine .free rfl ?_; have r79:=J.read 10 rfl (dd.get 10 rfl); have e0:=(J.bb.cell (p:=⟨lb,am,none⟩) LC3.out).trans C3.out; go_simp; exact kk.out _ _ (J.st 11 rfl rfl)
     ·intro L a U ho J hn dd KK kk; refine .free rfl ?_; have r80:=J.read 11 rfl (dd.get 11 rfl); have r81:=J.read 12 rfl (dd.get 12 rfl); go_simp; exact kk.out _ _ (J.st 13 rfl rfl)
     ·intro L a U ho J hn dd KK kk; refine .free rfl ?_; have r82:=J.read 13 rfl (dd.get 13 rfl); have e0:=(J.bb.cell (p:=⟨r2,bm,none⟩) LC4.out).trans C4.out; go_simp; exact kk.out _ _ (J.st 14 rfl rfl)
     ·intro L a U ho J hn dd KK kk; refine .free rfl ?_; have r86:=J.read 17 rfl (dd.get 17 rfl); go_simp; exact kk.out _ _ (J.st 18 rfl rfl)
     ·intro L a U ho J hn dd KK kk; refine .free rfl ?_; have r87:=J.read 18 rfl (dd.get 18 rfl); have e0:=(J.bb.cell (p:=⟨lb,0,none⟩) LC3.out).trans C5.out; go_simp; exact kk.out _ _ (J.st 19 rfl rfl)
     ·intro L a U ho J hn dd KK kk; refine .free rfl ?_; have r88:=J.read 19 rfl (dd.get 19 rfl); go_simp; exact kk.out _ _ (J.st 20 rfl rfl)
     ·intro L a U ho J hn dd KK kk; refine .free rfl ?_; have r89:=J.read 20 rfl (dd.get 20 rfl); have e0:=(J.bb.cell (p:=⟨r3,0,none⟩) LC6.out).trans C6.out; go_simp; exact kk.out _ _ (J.st 21 rfl rfl)
     ·intro L a U ho J hn dd KK kk; refine .free rfl ?_; have r85:=J.read 16 rfl (dd.get 16 rfl); have r90:=J.read 21 rfl (dd.get 21 rfl); go_simp; exact kk.out _ _ (J.st 22 rfl rfl)
     rintro σ V4 _ _ _ _ q4
     simp only [slotsOf,finX,nval,nvalN,nvalA,Nat.reduceBEq,cond_true,cond_false,putAll,Act.put,List.setIfInBounds_toArray,List.set_cons_succ,List.set_cons_zero]
     replace BF:=Lib.hid (BF.out.trans (q4.mono BF.out.size))
     clear C1 C2 C3 C4 C5 C6 LC1 LC2 LC3 LC4 LC6 HSUM heq t1 t2 t3 t4 t5 t6 t7 t8 t9 t10 q4 KS
     go_wp2
     exact ⟨⟨k + 1,by omega,by omega,by rw [S9.out]; rfl,rfl,BF.out⟩,by simp [intOf]; omega⟩

end Go.Proofs.YthhkmihjnnfpgaaGreatDoor
