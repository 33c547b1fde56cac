/- CorrelateGrows: the walk. -/
import Derived.Test.YthhkmihjnnfpgaaGreatDoorLawCLists
import Derived.Test.YthhkmihjnnfpgaaGreatDoorGCorG
import Derived.Test.YthhkmihjnnfpgaaGreatDoorGCorW
namespace Go.Proofs.YthhkmihjnnfpgaaGreatDoor
set_option linter.all false
open Go.RowKit

attribute [local go_sem] Oper.semAt_some

set_option maxRecDepth 100000 in
set_option maxHeartbeats 8000000 in
theorem corGrows_walk (p:PL) (hp:p.ok) (un hv:Nat) (hun:un < 256) (hhv:hv < 256) (vl vr:Value) (w:World) (he:Env w) (hl:BAt w vl p.l) (hr:BAt w vr p.r) :
  Calls Tryz.prog 11 #[.agg #[vl,vr,.int .u8 p.c0,.int .u8 p.c1,.int .u8 p.c2,.int .u8 p.c3],.int .u8 un,.int .u8 hv] w fun e w'=>e=.returned (.bool true)∧Below w.heap.size w w':=by
 obtain ⟨A1,k1,rfl,hk1⟩:=hl.cap
 obtain ⟨A2,k2,rfl,hk2⟩:=hr.cap
 have HE:=Lib.hid he
 have HL:=Lib.hid hl
 have HR:=Lib.hid hr
 have B:=Lib.hid (Below.refl w.heap.size w)
 clear he hl hr
 go_enter Tryz.func11, Tryz.ntmps11
 go_upto_region 1 with (fail)
 have k_:=Blk.fresh w #[.slice A1 p.l.length k1,.slice A2 p.r.length k2,.int .u8 p.c0,.int .u8 p.c1,.int .u8 p.c2,.int .u8 p.c3] 25
 have q_:=below_new w (.cells #[.slice A1 p.l.length k1,.slice A2 p.r.length k2,.int .u8 p.c0,.int .u8 p.c1,.int .u8 p.c2,.int .u8 p.c3] 25)
 generalize (w.alloc (.cells #[.slice A1 p.l.length k1,.slice A2 p.r.length k2,.int .u8 p.c0,.int .u8 p.c1,.int .u8 p.c2,.int .u8 p.c3] 25))=W1 at *
 obtain ⟨b2,hg_⟩:∃ g,w.heap.size=g:=⟨_,rfl⟩
 rw [hg_] at k_ ⊢
 replace B:=Lib.hid (B.out.trans (q_.mono B.out.size))
 have K2:=Lib.hid k_
 clear q_ k_ hg_
 have HKN:=Lib.hid (known44_any W1 (HE.out.below B.out))
 go_upto_region 3 with (first
  | (go_at_call 13; with_reducible refine HKN.out.mono ?_; rintro e W3 ⟨rfl,q_W3⟩)
  | fail "arm")
 replace K2:=Lib.hid (K2.out.below q_W3)
 replace B:=Lib.hid (B.out.trans (q_W3.mono B.out.size))
 clear q_W3
 clear HKN
 have y0:=K2.out.at_ 0 _ rfl
 have y1:=K2.out.at_ 1 _ rfl
 have y2:=K2.out.at_ 2 _ rfl
 have y3:=K2.out.at_ 3 _ rfl
 have y4:=K2.out.at_ 4 _ rfl
 have y5:=K2.out.at_ 5 _ rfl
 go_wp2_with (fail)
 clear y0 y1 y2 y3 y4 y5
 with_reducible refine (make44_any p hp _ _ W3 (HE.out.below B.out) (HL.out.below B.out) (HR.out.below B.out)).mono ?_
 rintro e W4 ⟨v1,v2,rfl,hq4,q_W4⟩
 replace K2:=Lib.hid (K2.out.below q_W4)
 replace B:=Lib.hid (B.out.trans (q_W4.mono B.out.size))
 clear q_W4
 obtain ⟨a1,g1,e1,_⟩:=hq4.l
 obtain ⟨a2,g2,e2,_⟩:=hq4.r
 subst e1 e2
 have HQ:=Lib.hid hq4
 have HQ4:=Lib.hid hq4
 clear hq4
 have OK:=Lib.hid p.qok
 have HR5:Hid (p.q.R.length≤5):=Lib.hid (by show (logP p.r).length≤5; rw [logP_len]; omega)
 have HEN:Hid (0≤endI p.q.R p.q.R.length∧endI p.q.R p.q.R.length≤40):=Lib.hid (logP_end p.r)
 generalize p.q=q at *
 clear K2 HL HR
 have BQ:=Lib.hid (Below.refl W4.heap.size W4)
 go_upto_region 4 with (fail)
 have HBW0:=Lib.hid B.out.size
 have k_:=Blk.fresh W4 #[.slice a1 q.L.length g1,.slice a2 q.R.length g2,.string (qT (2 * q.ch)),.string (qT (2 * q.mi)),.string (qT (2 * q.ga)),.string (qT (2 * q.re))] 32
 have q_:=below_new W4 (.cells #[.slice a1 q.L.length g1,.slice a2 q.R.length g2,.string (qT (2 * q.ch)),.string (qT (2 * q.mi)),.string (qT (2 * q.ga)),.string (qT (2 * q.re))] 32)
 generalize (W4.alloc (.cells #[.slice a1 q.L.length g1,.slice a2 q.R.length g2,.string (qT (2 * q.ch)),.string (qT (2 * q.mi)),.string (qT (2 * q.ga)),.string (qT (2 * q.re))] 32))=W5 at *
 obtain ⟨b5,hg_⟩:∃ g,W4.heap.size=g:=⟨_,rfl⟩
 rw [hg_] at k_ ⊢
 have MK:=Lib.hid q_
 have HGMK:=Lib.hid hg_
 replace HQ:=Lib.hid (HQ.out.below q_)
 replace B:=Lib.hid (B.out.trans (q_.mono B.out.size))
 replace BQ:=Lib.hid (BQ.out.trans (q_.mono BQ.out.size))
 have K5:=Lib.hid k_
 clear q_ k_ hg_
 have HB5:Hid (W4.heap.size=b5):=Lib.hid HGMK.out
 have HBW:Hid (w.heap.size≤b5):=Lib.hid (by have:=HBW0.out; have:=HGMK.out; omega)
 clear HGMK MK HBW0
 have y0:=K5.out.at_ 0 _ rfl
 have y1:=K5.out.at_ 1 _ rfl
 have y2:=K5.out.at_ 2 _ rfl
 have y3:=K5.out.at_ 3 _ rfl
 have y4:=K5.out.at_ 4 _ rfl
 have y5:=K5.out.at_ 5 _ rfl
 go_wp2_with (fail)
 clear y0 y1 y2 y3 y4 y5
 with_reducible refine (best_any q OK.out _ _ W5 (HE.out.below B.out) HQ.out).mono ?_
 rintro e W6 ⟨v,rfl,hrow,q_W6⟩
 obtain ⟨va,vc,e1⟩:=hrow.len_eval
 subst e1
 clear hrow
 replace HQ:=Lib.hid (HQ.out.below q_W6)
 replace K5:=Lib.hid (K5.out.below q_W6)
 replace B:=Lib.hid (B.out.trans (q_W6.mono B.out.size))
 replace BQ:=Lib.hid (BQ.out.trans (q_W6.mono BQ.out.size))
 clear q_W6
 obtain ⟨na,hna⟩:∃ n,(way q 0 0).length=n:=⟨_,rfl⟩
 rw [hna]
 clear hna
 go_upto_region 5 with (fail)
 have k_:=Blk.fresh W6 #[.slice va na vc,.string (qT (rst q 0 0))] 36
 have q_:=below_new W6 (.cells #[.slice va na vc,.string (qT (rst q 0 0))] 36)
 generalize (W6.alloc (.cells #[.slice va na vc,.string (qT (rst q 0 0))] 36))=W7 at *
 obtain ⟨b8,hg_⟩:∃ g,W6.heap.size=g:=⟨_,rfl⟩
 rw [hg_] at k_ ⊢
 have L58:=Lib.hid K5.out.lt
 rw [hg_] at L58
 replace HQ:=Lib.hid (HQ.out.below q_)
 replace K5:=Lib.hid (K5.out.below q_)
 replace B:=Lib.hid (B.out.trans (q_.mono B.out.size))
 replace BQ:=Lib.hid (BQ.out.trans (q_.mono BQ.out.size))
 have K8:=Lib.hid k_
 clear q_ k_ hg_
 have y1:=K5.out.at_ 1 _ rfl
 go_upto_if 34 with (fail)
 obtain ⟨en,hen⟩:∃ e,endI q.R q.R.length=e:=⟨_,rfl⟩
 have HEQ:=Lib.hid hen
 rw [hen] at HEN
 clear hen
 obtain ⟨bb,hbb⟩:∃ b,decide (0 < q.R.length)=b:=⟨_,rfl⟩
 rw [hbb]
 have HBB:=Lib.hid hbb
 clear hbb
 go_cut [10] from 35 (fun tv wc=>tv=.string (qT (2 * en))∧wc=W7)
 case first =>
  have hr5:=HR5.out
  cases bb with
  | true =>
   have hn:0 < q.R.length:=of_decide_eq_true HBB.out
   obtain ⟨mm,hmm⟩:∃ m,q.R.length=m + 1:=⟨q.R.length - 1,by omega⟩
   have n3:IntKind.i64.wrap ((q.R.length:Int) - 1)=((mm:Nat):Int):=by rw [IntWalk.i64_in _ (by omega)]; omega
   have n4:((mm:Nat):Int) < (q.R.length:Int):=by omega
   have n5:mm < q.R.length:=by omega
   obtain ⟨d,o,cc,e1,hd,qc⟩:=HQ.out.r.cell mm n5
   injection e1 with e1 e1b e1c
   subst e1 e1c
   have x2:=qc 2 _ rfl
   have hx:qT (2 * q.R[mm].t)=qT (2 * en):=by rw [← HEQ.out,hmm,endI_next q.R mm n5]
   rw [hx] at x2
   clear qc hx hmm e1b hr5 hn HBB
   go_wp2
   go_meet
   case rel=>exact ⟨rfl,rfl⟩
  | false =>
   have hn:¬ 0 < q.R.length:=of_decide_eq_false HBB.out
   have h0:en=0:=by rw [← HEQ.out,show q.R.length=0 by omega]; rfl
   have hx:qT (2 * en)=⟨#[48]⟩:=by rw [h0]; exact qT_zero
   have HX:=Lib.hid hx
   clear h0 hx hr5 hn HBB
   go_wp2
   go_meet
   case rel=>exact ⟨by rw [HX.out],rfl⟩
 case rest =>
 obtain ⟨rfl,rfl⟩:=hcut
 clear y1
 have hm8:((hv:Int) % 8)=((hv % 8:Nat):Int):=by omega
 have h8:hv % 8 < 8:=Nat.mod_lt _ (by omega)
 obtain ⟨m8,hm8e⟩:∃ m,hv % 8=m:=⟨_,rfl⟩
 rw [hm8e] at hm8 h8
 obtain ⟨h,hh⟩:∃ h:Int,1 + ((m8:Nat):Int)=h:=⟨_,rfl⟩
 have w1:IntKind.u8.wrap ((m8:Nat):Int)=((m8:Nat):Int):=(show ∀ m:Nat,m < 8→IntKind.u8.wrap (m:Int)=(m:Int) by decide) _ h8
 have w2:IntKind.i64.wrap ((m8:Nat):Int)=((m8:Nat):Int):=IntWalk.i64_in _ (by omega)
 have w3:IntKind.i64.wrap h=h:=IntWalk.i64_in _ (by omega)
 have HH:Hid (1≤h∧h≤8):=Lib.hid (by omega)
 have HOF:=Lib.hid (rOfQ h (by omega) w HE.out)
 clear hm8e
 go_upto_region 10 with (first
  | (go_at_call 37; with_reducible refine (HOF.out _ B.out).mono ?_; rintro e W8 ⟨rfl,q_W8⟩)
  | fail "arm")
 clear hm8 h8 hh w1 w2 w3 HOF
 replace HQ:=Lib.hid (HQ.out.below q_W8)
 replace K5:=Lib.hid (K5.out.below q_W8)
 replace K8:=Lib.hid (K8.out.below q_W8)
 replace B:=Lib.hid (B.out.trans (q_W8.mono B.out.size))
 replace BQ:=Lib.hid (BQ.out.trans (q_W8.mono BQ.out.size))
 clear q_W8
 obtain ⟨tn,htn⟩:∃ t:Int,en + h=t:=⟨_,rfl⟩
 have HTN:=Lib.hid htn
 clear htn
 have HU:=Lib.hid (units_any un hun w)
 have HAD:Hid (Ret Tryz.prog w 21 #[.string (qT (2 * en)),.string (qT (2 * h))] (.string (qT (2 * tn)))):=Lib.hid (by
  have h1:=HEN.out
  have h2:=HH.out
  have h3:=rAddQ (2 * en) (2 * h) (by omega) (by omega) w HE.out
  rw [show 2 * en + 2 * h=2 * tn by rw [← HTN.out]; omega] at h3
  exact h3)
 have y1:=(K5.out.below (below_new W8 (.cells #[] 86))).at_ 1 _ rfl
 have HLEN:Hid (q.R.length≤5000):=Lib.hid (by have:=HR5.out; omega)
 have HBS:Hid (b5 < W8.heap.size∧b8 < W8.heap.size):=Lib.hid ⟨K5.out.lt,K8.out.lt⟩
 have BZ:=Lib.hid (Below.refl W8.heap.size W8)
 go_upto_region 11 with (first
  | (at_builtin; refine wpList_spread ElI IV.len IV.one rfl (.tmp 50) (.tmp 52) rfl W8 q.R a2 q.R.length g2 rfl HQ.out.r rfl rfl HLEN.out ?_; intro v5 W9 r1 r2; obtain ⟨A5,c5,e5⟩:=r1.2; subst e5; have OWN:=Lib.hid r1; replace BZ:=Lib.hid (BZ.out.trans r2); clear r1 r2 y1)
  | (go_at_call 38; with_reducible refine (HU.out _ (B.out.trans (BZ.out.mono B.out.size))).mono ?_; rintro e W10 ⟨rfl,q⟩; replace OWN:=Lib.hid (OWN.out.below q); replace BZ:=Lib.hid (BZ.out.trans (q.mono BZ.out.size)); clear q)
  | (go_at_call 21; with_reducible refine (HAD.out _ (B.out.trans (BZ.out.mono B.out.size))).mono ?_; rintro e W11 ⟨rfl,q⟩; replace OWN:=Lib.hid (OWN.out.below q); replace BZ:=Lib.hid (BZ.out.trans (q.mono BZ.out.size)); clear q)
  | (at_builtin; refine app_ownR ElI IV.len IV.one rfl (.tmp 53) (.tmp 61) rfl W11 W8.heap.size BZ.out.size _ q.R OWN.out rfl HLEN.out (⟨unitT un,en,tn⟩:IV) rfl ?_; intro v6 W12 r1 r2; obtain ⟨A6,c6,e6⟩:=r1.len_eval; rw [show (q.R ++ [(⟨unitT un,en,tn⟩:IV)]).length=q.R.length + 1 from by rw [List.length_append]; rfl] at e6; subst e6; have ROW:=Lib.hid r1; have BY:=Lib.hid (BZ.out.trans r2); have k5:=K5.out.below BY.out; have x1:=k5.at_ 1 _ rfl; have f1:=k5.free 1; clear r1 r2)
  | fail "arm")
 obtain ⟨q2,hq2⟩:∃ x,growQ q ⟨unitT un,en,tn⟩=x:=⟨_,rfl⟩
 have HQ2:=Lib.hid hq2
 have OK2:Hid (OkQ q2):=Lib.hid (by
  have h1:=HEN.out
  have h2:=HH.out
  have h3:=HTN.out
  rw [← hq2]
  exact grow_okQ OK.out HR5.out _ (unit_ok un) HEQ.out.symm (by show 0≤en; omega) (by show en < tn; omega) (by show tn≤1000; omega))
 have HGR:Hid (rst q2 0 0≤rst q 0 0 + q.ga * h):=Lib.hid (by
  have h1:=rst_grow q ⟨unitT un,en,tn⟩ _ 0 0 rfl (Nat.zero_le _) (Nat.zero_le _)
  rw [hq2] at h1
  have h2:(⟨unitT un,en,tn⟩:IV).t - (⟨unitT un,en,tn⟩:IV).f=h:=by show tn - en=h; rw [← HTN.out]; omega
  rw [h2] at h1
  exact h1)
 have k5:=K5.out.below BY.out
 have k8:=K8.out.below BY.out
 have w5:=Wrote.set k5 1 (.slice A6 (q.R.length + 1) c6)
 have hb5:=HBS.out
 have hb4:=HB5.out
 have K5n:Blk (W12.setCell ⟨b5,1,none⟩ (.slice A6 (q.R.length + 1) c6)) b5 #[.slice a1 q2.L.length g1,.slice A6 q2.R.length c6,.string (qT (2 * q2.ch)),.string (qT (2 * q2.mi)),.string (qT (2 * q2.ga)),.string (qT (2 * q2.re))] 32 := by
  have hk:=k5.set 1 (.slice A6 (q.R.length + 1) c6)
  rw [show q.R.length + 1=q2.R.length by rw [← hq2]; exact grow_len q _] at hk ⊢
  rw [← hq2] at hk ⊢
  exact hk
 have K8n:=k8.keptC w5.kept (show b8 ≠ b5 by have:=L58.out; omega)
 have ROWn:=ROW.out.set ⟨b5,1,none⟩ (show b5 < W8.heap.size from hb5.1) (.slice A6 (q.R.length + 1) c6)
 have BQn:Below W4.heap.size W4 (W12.setCell ⟨b5,1,none⟩ (.slice A6 (q.R.length + 1) c6)):=(BQ.out.trans (BY.out.mono BQ.out.size)).trans (w5.below.mono (by omega))
 have Bn:Below w.heap.size w (W12.setCell ⟨b5,1,none⟩ (.slice A6 (q.R.length + 1) c6)):=(B.out.trans (BY.out.mono B.out.size)).trans (w5.below.mono (by have:=HBW.out; omega))
 have HQn:QAt (W12.setCell ⟨b5,1,none⟩ (.slice A6 (q.R.length + 1) c6)) (.slice a1 q2.L.length g1) (.slice A6 q2.R.length c6) q2:=by
  have hrl:=row_lookB IV.len ROWn
  rw [show q.R.length + 1=q2.R.length by rw [← hq2]; exact grow_len q _] at hrl BQn ⊢
  rw [← hq2] at hrl BQn ⊢
  exact ⟨HQ4.out.l.below BQn,hrl⟩
 have hlr:q.R.length + 1=q2.R.length:=by rw [← hq2]; exact grow_len q _
 have HGA:Hid (q2.ga=q.ga):=Lib.hid (by rw [← hq2]; rfl)
 rw [hlr] at K5n K8n BQn Bn HQn
 rw [hlr]
 clear hlr x1 f1 k5 k8 w5 hb5 hb4 ROWn K5 K8 BQ HQ ROW BY BZ OWN HU HAD B hq2 HQ4
 generalize (W12.setCell ⟨b5,1,none⟩ (.slice A6 q2.R.length c6))=W13 at *
 have K5:=Lib.hid K5n
 have K8:=Lib.hid K8n
 have HQ:=Lib.hid HQn
 have B:=Lib.hid Bn
 clear K5n K8n HQn Bn BQn
 have y0:=K5.out.at_ 0 _ rfl
 have y1:=K5.out.at_ 1 _ rfl
 have y2:=K5.out.at_ 2 _ rfl
 have y3:=K5.out.at_ 3 _ rfl
 have y4:=K5.out.at_ 4 _ rfl
 have y5:=K5.out.at_ 5 _ rfl
 go_wp2_with (fail)
 clear y0 y1 y2 y3 y4 y5
 with_reducible refine (best_any q2 OK2.out _ _ W13 (HE.out.below B.out) HQ.out).mono ?_
 rintro e W14 ⟨v,rfl,hrow,q_W14⟩
 obtain ⟨vb,vd,e1⟩:=hrow.len_eval
 subst e1
 clear hrow
 replace K5:=Lib.hid (K5.out.below q_W14)
 replace K8:=Lib.hid (K8.out.below q_W14)
 replace HQ:=Lib.hid (HQ.out.below q_W14)
 replace B:=Lib.hid (B.out.trans (q_W14.mono B.out.size))
 clear q_W14
 obtain ⟨nb,hnb⟩:∃ n,(way q2 0 0).length=n:=⟨_,rfl⟩
 rw [hnb]
 clear hnb
 go_upto_region 12 with (fail)
 have k_:=Blk.fresh W14 #[.slice vb nb vd,.string (qT (rst q2 0 0))] 36
 have q_:=below_new W14 (.cells #[.slice vb nb vd,.string (qT (rst q2 0 0))] 36)
 generalize (W14.alloc (.cells #[.slice vb nb vd,.string (qT (rst q2 0 0))] 36))=W15 at *
 obtain ⟨b14,hg_⟩:∃ g,W14.heap.size=g:=⟨_,rfl⟩
 rw [hg_] at k_ ⊢
 replace K5:=Lib.hid (K5.out.below q_)
 replace K8:=Lib.hid (K8.out.below q_)
 replace HQ:=Lib.hid (HQ.out.below q_)
 replace B:=Lib.hid (B.out.trans (q_.mono B.out.size))
 have K14:=Lib.hid k_
 clear q_ k_ hg_
 have y0:=K5.out.at_ 0 _ rfl
 have y1:=K5.out.at_ 1 _ rfl
 have y2:=K5.out.at_ 2 _ rfl
 have y3:=K5.out.at_ 3 _ rfl
 have y4:=K5.out.at_ 4 _ rfl
 have y5:=K5.out.at_ 5 _ rfl
 go_wp2_with (fail)
 clear y0 y1 y2 y3 y4 y5
 with_reducible refine (potPub_any q2 OK2.out _ _ W15 (HE.out.below B.out) HQ.out).mono ?_
 rintro e W16 ⟨ob,rb,rfl,hrb,htab,hlo,hlr,q_W16⟩
 have TAB:=Lib.hid htab
 have HRB:=Lib.hid hrb
 clear htab hrb hlo hlr
 replace K5:=Lib.hid (K5.out.below q_W16)
 replace K8:=Lib.hid (K8.out.below q_W16)
 replace HQ:=Lib.hid (HQ.out.below q_W16)
 replace K14:=Lib.hid (K14.out.below q_W16)
 replace B:=Lib.hid (B.out.trans (q_W16.mono B.out.size))
 clear q_W16
 have y0:=K5.out.at_ 0 _ rfl
 have y1:=K5.out.at_ 1 _ rfl
 have y2:=K5.out.at_ 2 _ rfl
 have y3:=K5.out.at_ 3 _ rfl
 have y4:=K5.out.at_ 4 _ rfl
 have y5:=K5.out.at_ 5 _ rfl
 go_wp2_with (fail)
 clear y0 y1 y2 y3 y4 y5
 have HA0:=all_any q2 OK2.out _ _ W16 (HE.out.below B.out) HQ.out 1000 (Nat.le_refl _)
 rw [show (((1000:Nat)):Int)=1000 from rfl] at HA0
 with_reducible refine HA0.mono ?_
 rintro e W17 ⟨hall,q_W17⟩
 have hex:∃ (z:Int) (ss:List (List (Nat × Nat × Nat))) (xs:List (Option Addr × Nat × Nat)) (A:Option Addr) (c:Nat),e=.returned (.tuple #[.slice A xs.length c,.int .i64 z])∧(z=0 ∨ z=4)∧(∀ s ∈ ss,s ∈ allW q2 0 0)∧AlsQ W16.heap.size (qT (rst q2 0 0)) ss (.slice A xs.length c) xs W17:=by
  rcases hall with ⟨_,v,xs,he,hals⟩ | ⟨_,he⟩
  ·obtain ⟨A,c,hv⟩:=hals.row.len_eval
   subst hv
   exact ⟨0,_,xs,A,c,he,.inl rfl,fun s h=>h,hals⟩
  ·exact ⟨4,[],[],none,0,he,.inr rfl,(fun s h=>(by cases h)),⟨SRow.nil _ _,rfl,fun i x s h=>(by simp at h)⟩⟩
 obtain ⟨z,ss,xs,vA,vC,rfl,hz,hsub,hals⟩:=hex
 have HALS:=Lib.hid hals
 have HSUB:=Lib.hid hsub
 obtain ⟨nx,hnx⟩:∃ n,xs.length=n:=⟨_,rfl⟩
 have HNX:=Lib.hid hnx
 rw [hnx] at HALS
 rw [hnx]
 clear hall hals hsub hnx HA0
 replace K5:=Lib.hid (K5.out.below q_W17)
 replace K8:=Lib.hid (K8.out.below q_W17)
 replace HQ:=Lib.hid (HQ.out.below q_W17)
 replace K14:=Lib.hid (K14.out.below q_W17)
 replace TAB:=Lib.hid (TAB.out.below q_W17)
 replace B:=Lib.hid (B.out.trans (q_W17.mono B.out.size))
 clear q_W17
 go_upto_region 14 with (fail)
 go_cut [96] from 79 (fun bv wc=>bv=.bool false∧wc=W17)
 case first =>
  rcases hz with rfl | rfl
  ·go_wp2
   go_meet
   case rel=>exact ⟨rfl,rfl⟩
  ·go_wp2
   go_meet
   case rel=>exact ⟨rfl,rfl⟩
 case rest =>
 obtain ⟨rfl,rfl⟩:=hcut
 clear hz
 have HEF:=Lib.hid (HE.out.below B.out)
 have BF:=Lib.hid (Below.refl wc.heap.size wc)
 have HAX:=Lib.hid (row_lookB (alC_len _) HALS.out.row)
 obtain ⟨tx,htx⟩:∃ x,qT (rst q2 0 0)=x:=⟨_,rfl⟩
 have HTX:=Lib.hid htx
 clear htx
 go_wp2
 go_loopw [20] (fun iv wr=>∃ i:Nat,i≤nx∧i≤5∧iv=.int .i64 i∧Below wc.heap.size wc wr) (fun iv _=>5 - (intOf iv).toNat)
 case atStart=>exact ⟨0,Nat.zero_le _,Nat.zero_le _,rfl,BF.out⟩
 case round =>
  clear BF
  obtain ⟨i,hi,hi5,rfl,b3⟩:=hrel
  have BF:=Lib.hid b3
  clear b3
  by_cases hlt:i < nx∧i < 5
  case neg =>
   have HGA2:=HGA.out
   have hbr:=rst_bdQ q OK.out 0 0 (Nat.zero_le _) (Nat.zero_le _)
   have hbr2:=rst_bdQ q2 OK2.out 0 0 (Nat.zero_le _) (Nat.zero_le _)
   have hga:=OK2.out.ga
   have hhh:=HH.out
   have hmul:=mul_bd (m:=20) (k:=8) hga (show 0≤h∧h≤(8:Nat) by omega)
   have hgr:=HGR.out
   rw [← HGA2] at hgr
   obtain ⟨gm,hgm⟩:∃ g,q2.ga * h=g:=⟨_,rfl⟩
   have hm1:=rMulQ q2.ga h (by omega) (by omega) w HE.out
   rw [hgm] at hm1 hmul hgr
   have ha1:=rAddQ (rst q 0 0) gm (by omega) (by omega) w HE.out
   have hc1:=rCmpQ (rst q2 0 0) (rst q 0 0 + gm) (by omega) (by omega) w HE.out
   obtain ⟨zc,hzc⟩:∃ z,(rst q2 0 0 - (rst q 0 0 + gm)).sign=z:=⟨_,rfl⟩
   have hz0:zc≤0:=by rw [← hzc]; exact Int.sign_nonpos_iff.2 (by omega)
   rw [hzc] at hc1
   have up:∀ {f:Nat} {ar:Array Value} {v:Value},Ret Tryz.prog w f ar v→Ret Tryz.prog wr f ar v:=fun r W hW=>r W ((B.out.trans (BF.out.mono B.out.size)).trans (hW.mono (Nat.le_trans B.out.size BF.out.size)))
   have HMU:=Lib.hid (up hm1)
   have HAS:=Lib.hid (up ha1)
   have HCM:=Lib.hid (up hc1)
   have HZC:=Lib.hid (And.intro hz0 (decide_eq_true hz0))
   have KQ:=Lib.hid (K5.out.below BF.out)
   have K8x:=Lib.hid (K8.out.below BF.out)
   have K14x:=Lib.hid (K14.out.below BF.out)
   generalize qT (rst q2 0 0)=tb at *
   generalize qT (rst q 0 0)=ta at *
   generalize qT gm=tm at *
   generalize qT (rst q 0 0 + gm)=ts at *
   have HLT:=Lib.hid hlt
   clear hm1 ha1 hc1 hzc hz0 hbr hbr2 hga hhh hmul hgr hgm up HGA2 hlt
   have HB9:=Lib.hid (B.out.trans (BF.out.mono B.out.size))
   by_cases hx:i < nx
   ·have n1:(i:Int) < (nx:Int):=by omega
    have n2:¬ (i:Int) < 5:=by have:=HLT.out; omega
    have n3:decide ((i:Int) < 5)=false:=decide_eq_false n2
    have n4:¬ i < 5:=by have:=HLT.out; omega
    clear HLT
    go_upto_region 21 with (fail)
    refine wp_tab (.v 115 (.pointer (some ⟨b14,1,none⟩)) :: .v 116 (.string tb) :: .v 117 (.pointer (some ⟨b8,1,none⟩)) :: .v 118 (.string ta) :: .v 119 (.pointer (some ⟨b5,2,none⟩)) :: .v 120 (.pointer (some ⟨b5,4,none⟩)) :: .v 121 (.string (qT (2 * q2.ga))) :: .v 122 (.string (qT (2 * h))) :: .v 123 (.string tm) :: .v 124 (.string ts) :: .v 125 (.int .i64 zc) :: .v 126 (.bool true) :: .v 6 (.bool true) :: []) [] [⟨b14,#[.slice vb nb vd,.string tb], 36, none⟩,⟨b8,#[.slice va na vc,.string ta], 36, none⟩,⟨b5,#[.slice a1 q2.L.length g1,.slice A6 q2.R.length c6,.string (qT (2 * q2.ch)),.string (qT (2 * q2.mi)),.string (qT (2 * q2.ga)),.string (qT (2 * q2.re))], 32, none⟩] [] [] [] [] [] (by kernel_rfl) (Below.refl _ _) ⟨K14x.out,K8x.out,KQ.out,trivial⟩ trivial ⟨pu,ld 0 1,pu,ld 1 1,pu,pu,ld 2 4,pu,cl HMU.out,cl HAS.out,cl HCM.out,?_,pu,trivial⟩ ?_
    ·intro L a U ho J hn dd KK kk; refine .free rfl ?_; have r125:=J.read 10 rfl (dd.get 10 rfl); have z1:=HZC.out.1; have z2:=HZC.out.2; go_simp; exact kk.out _ _ (J.st 11 rfl rfl)
    rintro σ V4 _ _ _ _ q4
    simp only [slotsOf,finX,nval,nvalN,nvalA,Nat.reduceBEq,cond_true,cond_false,putAll,Act.put,List.setIfInBounds_toArray,List.set_cons_succ,List.set_cons_zero]
    go_wp2
    exact bodyPost_ret (v:=.bool true) (by kernel_rfl) rfl ⟨rfl,HB9.out.trans (q4.mono HB9.out.size)⟩
   ·have n2:¬ (i:Int) < (nx:Int):=by omega
    have n3:decide ((i:Int) < (nx:Int))=false:=decide_eq_false n2
    clear HLT
    go_upto_region 21 with (fail)
    refine wp_tab (.v 115 (.pointer (some ⟨b14,1,none⟩)) :: .v 116 (.string tb) :: .v 117 (.pointer (some ⟨b8,1,none⟩)) :: .v 118 (.string ta) :: .v 119 (.pointer (some ⟨b5,2,none⟩)) :: .v 120 (.pointer (some ⟨b5,4,none⟩)) :: .v 121 (.string (qT (2 * q2.ga))) :: .v 122 (.string (qT (2 * h))) :: .v 123 (.string tm) :: .v 124 (.string ts) :: .v 125 (.int .i64 zc) :: .v 126 (.bool true) :: .v 6 (.bool true) :: []) [] [⟨b14,#[.slice vb nb vd,.string tb], 36, none⟩,⟨b8,#[.slice va na vc,.string ta], 36, none⟩,⟨b5,#[.slice a1 q2.L.length g1,.slice A6 q2.R.length c6,.string (qT (2 * q2.ch)),.string (qT (2 * q2.mi)),.string (qT (2 * q2.ga)),.string (qT (2 * q2.re))], 32, none⟩] [] [] [] [] [] (by kernel_rfl) (Below.refl _ _) ⟨K14x.out,K8x.out,KQ.out,trivial⟩ trivial ⟨pu,ld 0 1,pu,ld 1 1,pu,pu,ld 2 4,pu,cl HMU.out,cl HAS.out,cl HCM.out,?_,pu,trivial⟩ ?_
    ·intro L a U ho J hn dd KK kk; refine .free rfl ?_; have r125:=J.read 10 rfl (dd.get 10 rfl); have z1:=HZC.out.1; have z2:=HZC.out.2; go_simp; exact kk.out _ _ (J.st 11 rfl rfl)
    rintro σ V4 _ _ _ _ q4
    simp only [slotsOf,finX,nval,nvalN,nvalA,Nat.reduceBEq,cond_true,cond_false,putAll,Act.put,List.setIfInBounds_toArray,List.set_cons_succ,List.set_cons_zero]
    go_wp2
    exact bodyPost_ret (v:=.bool true) (by kernel_rfl) rfl ⟨rfl,HB9.out.trans (q4.mono HB9.out.size)⟩
  obtain ⟨hlx,hl5⟩:=hlt
  have hz1:(i:Int) < (nx:Int):=by omega
  have hz2:(i:Int) < 5:=by omega
  have hwi:IntKind.i64.wrap ((i:Int) + 1)=(i:Int) + 1:=IntWalk.i64_in _ (by omega)
  have HI:=Lib.hid (And.intro hz1 hlx)
  have hix:i < xs.length:=by rw [HNX.out]; exact hlx
  have his:i < ss.length:=by rw [← HALS.out.len]; exact hix
  obtain ⟨dp,op,cc,ep,hdp,hpc⟩:=(HAX.out.below BF.out).cell i hix
  rw [HNX.out] at ep
  injection ep with ep1 ep2 ep3
  subst ep1 ep3
  clear ep2
  have hrow:=HALS.out.at_ i xs[i] ss[i] (List.getElem?_eq_getElem hix) (List.getElem?_eq_getElem his)
  have hmem:=HSUB.out _ (List.getElem_mem his)
  have hrun:=allW_run q2 _ 0 0 rfl (Nat.zero_le _) (Nat.zero_le _) _ hmem 0
  have hsl:=allW_slen q2 OK2.out _ hmem
  have P0:Hid (wr.cell? ⟨dp,op + i * 2,none⟩=some (.slice xs[i].1 xs[i].2.1 xs[i].2.2)):=Lib.hid (hpc 0 _ rfl)
  have P1:Hid (wr.cell? ⟨dp,op + i * 2 + 1,none⟩=some (.string (qT (rst q2 0 0)))):=Lib.hid (hpc 1 _ rfl)
  generalize ss[i]=s at *
  generalize xs[i]=xi at *
  obtain ⟨xa,n,xc⟩:=xi
  try dsimp only at P0 hrow
  have hn:n=s.length:=by
   obtain ⟨a',c',e⟩:=hrow.len_eval
   injection e
  subst hn
  rw [show (0:Int) + rst q2 0 0=rst q2 0 0 by omega] at hrun
  have hb2:=rst_bdQ q2 OK2.out 0 0 (Nat.zero_le _) (Nat.zero_le _)
  have hve:∀ W,Below wc.heap.size wc W→Calls Tryz.prog 35 #[.agg #[.slice a1 q2.L.length g1,.slice A6 q2.R.length c6,.string (qT (2 * q2.ch)),.string (qT (2 * q2.mi)),.string (qT (2 * q2.ga)),.string (qT (2 * q2.re))],.agg #[.slice xa s.length xc,.string (qT (rst q2 0 0))],.slice (some ⟨ob,0,none⟩) (q2.L.length + 1) (q2.L.length + 1)] W fun e w'=>e=.returned (.int .i64 0)∧Below W.heap.size W w':=fun W hW =>
   (verify_any q2 OK2.out (castS s) (by rw [castS_len]; omega) (qT (rst q2 0 0)) (qT_size _ (by omega)) (frnT q2) (frnT_size q2 OK2.out) ob rb HRB.out _ _ (.slice xa s.length xc) W (HEF.out.below hW) (HQ.out.below hW) (by have h:=cast_SAB (row_lookB stC_len (hrow.below hW)); rw [castS_len] at h; exact h) (TAB.out.below hW)).mono (fun e w' hx=>by
    obtain ⟨⟨zz,he,hz⟩,hbz⟩:=hx
    rw [ver_ok q2 OK2.out (castS s) hrun zz hz] at he
    exact ⟨he,hbz⟩)
  rw [HTX.out] at P1 hve
  have HV0:=Lib.hid hve
  obtain ⟨n,hn⟩:∃ n,s.length=n:=⟨_,rfl⟩
  rw [hn] at P0 HV0
  clear hrow hmem hrun hsl hve hpc hix his hn hb2
  have KQ:=Lib.hid (K5.out.below BF.out)
  have HV:Hid (Ret Tryz.prog wr 35 #[.agg #[.slice a1 q2.L.length g1,.slice A6 q2.R.length c6,.string (qT (2 * q2.ch)),.string (qT (2 * q2.mi)),.string (qT (2 * q2.ga)),.string (qT (2 * q2.re))],.agg #[.slice xa n xc,.string tx],.slice (some ⟨ob,0,none⟩) (q2.L.length + 1) (q2.L.length + 1)] (.int .i64 0)):=Lib.hid (fun W hW=>HV0.out W (BF.out.trans (hW.mono BF.out.size)))
  clear HV0
  go_upto_region 19 with (fail)
  refine wp_tab (.v 107 (.agg #[.slice a1 q2.L.length g1,.slice A6 q2.R.length c6,.string (qT (2 * q2.ch)),.string (qT (2 * q2.mi)),.string (qT (2 * q2.ga)),.string (qT (2 * q2.re))]) :: .v 108 (.slice (some ⟨dp,op,none⟩) nx vC) :: .v 109 (.int .i64 i) :: .v 110 (.pointer (some ⟨dp,op + i * 2,none⟩)) :: .v 111 (.agg #[.slice xa n xc,.string tx]) :: .v 112 (.slice (some ⟨ob,0,none⟩) (q2.L.length + 1) (q2.L.length + 1)) :: .v 113 (.int .i64 0) :: .v 114 (.bool false) :: []) [] [⟨b5,#[.slice a1 q2.L.length g1,.slice A6 q2.R.length c6,.string (qT (2 * q2.ch)),.string (qT (2 * q2.mi)),.string (qT (2 * q2.ga)),.string (qT (2 * q2.re))], 32, none⟩] [] [] [] [] [] (by kernel_rfl) (Below.refl _ _) ⟨KQ.out,trivial⟩ trivial ⟨ld 0 0,pu,pu,?_,?_,pu,cl HV.out,?_,trivial⟩ ?_
  ·intro L a U ho J hn dd KK kk; refine .free rfl ?_; have r108:=J.read 1 rfl (dd.get 1 rfl); have r109:=J.read 2 rfl (dd.get 2 rfl); have hm:=HI.out; go_simp; exact kk.out _ _ (J.st 3 rfl rfl)
  ·intro L a U ho J hn dd KK kk; refine .free rfl ?_; have r110:=J.read 3 rfl (dd.get 3 rfl); have e0:=(J.bb.cell (p:=⟨dp,op + i * 2,none⟩) hdp).trans P0.out; have e1:=(J.bb.cell (p:=⟨dp,op + i * 2 + 1,none⟩) hdp).trans P1.out; go_simp; exact kk.out _ _ (J.st 4 rfl rfl)
  ·intro L a U ho J hn dd KK kk; refine .free rfl ?_; have r113:=J.read 6 rfl (dd.get 6 rfl); go_simp; exact kk.out _ _ (J.st 7 rfl rfl)
  rintro σ V2 _ _ _ _ q9
  simp only [slotsOf,finX,nval,nvalN,nvalA,Nat.reduceBEq,cond_true,cond_false,putAll,Act.put,List.setIfInBounds_toArray,List.set_cons_succ,List.set_cons_zero]
  replace BF:=Lib.hid (BF.out.trans (q9.mono BF.out.size))
  clear HV KQ P0 P1 q9 hdp HI
  go_wp2
  exact ⟨⟨i + 1,by omega,by omega,by go_num,BF.out⟩,by simp [intOf]; omega⟩

end Go.Proofs.YthhkmihjnnfpgaaGreatDoor
