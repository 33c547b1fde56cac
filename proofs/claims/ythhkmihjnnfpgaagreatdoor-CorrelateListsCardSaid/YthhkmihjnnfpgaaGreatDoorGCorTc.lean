/- The cost of a step in the law of chapter 44; Cost. -/
import Derived.Test.YthhkmihjnnfpgaaGreatDoorGCorTa
import Derived.BigQuiet
/- The thickness and the position behind a step, in the law. -/
namespace Go.Proofs.YthhkmihjnnfpgaaGreatDoor
set_option linter.all false
open Go.RowKit

attribute [local go_sem] Oper.semAt_some

set_option maxRecDepth 100000 in
set_option maxHeartbeats 4000000 in
theorem lthick_any (u:ByteArray) (a b:Int) (ha:a.natAbs≤1000) (hb:b.natAbs≤1000) (w:World) (he:Env w):Ret Tryz.prog w 65 #[.agg #[.string u,.string (qT (2 * a)),.string (qT (2 * b))]] (.string (qT (2 * (b - a)))):=by
 intro W hW
 have HSB:=Lib.hid (rSubQ (2 * b) (2 * a) (by omega) (by omega) W (he.below hW))
 rw [show 2 * b - 2 * a=2 * (b - a) by omega] at HSB
 have B:=Lib.hid (Below.refl W.heap.size W)
 clear he
 generalize qT (2 * a)=ta at *
 generalize qT (2 * b)=tb at *
 generalize qT (2 * (b - a))=tr at *
 go_enter Tryz.func65, Tryz.ntmps65
 go_upto_region 1 with (fail)
 have K1:=Lib.hid (Blk.fresh W #[.string u,.string ta,.string tb] 86)
 have qq:=below_new W (.cells #[.string u,.string ta,.string tb] 86)
 replace B:=Lib.hid (B.out.trans (qq.mono B.out.size))
 clear qq
 generalize (W.alloc (.cells #[.string u,.string ta,.string tb] 86))=W1 at *
 have y1:=K1.out.at_ 1 _ rfl
 have y2:=K1.out.at_ 2 _ rfl
 go_wp2_with (first
  | (go_at_call 64; with_reducible refine (HSB.out _ B.out).mono ?_; rintro e wx ⟨rfl,q⟩; replace B:=Lib.hid (B.out.trans (q.mono B.out.size)); clear q)
  | fail "arm")
 go_ret
 exact ⟨rfl,B.out⟩

set_option maxRecDepth 100000 in
set_option maxHeartbeats 4000000 in
theorem lafter_any (k i j:Int) (hi:i.natAbs≤1000) (hj:j.natAbs≤1000) (w:World):Ret Tryz.prog w 32 #[.agg #[.int .i64 k,.int .i64 i,.int .i64 j]] (.tuple #[.int .i64 (nzI k i),.int .i64 (nzJ k j)]):=by
 intro W hW
 have a1:IntKind.i64.wrap (i + 1)=i + 1:=IntWalk.i64_in _ (by omega)
 have a2:IntKind.i64.wrap (j + 1)=j + 1:=IntWalk.i64_in _ (by omega)
 have B:=Lib.hid (Below.refl W.heap.size W)
 have HN1:Hid (k=1→nzI k i=i + 1∧nzJ k j=j + 1):=Lib.hid (fun h=>by unfold nzI nzJ; rw [if_pos (by omega),if_neg (by omega)]; exact ⟨rfl,rfl⟩)
 have HN2:Hid (k=2 ∨ k=4→nzI k i=i + 1∧nzJ k j=j):=Lib.hid (fun h=>by unfold nzI nzJ; rw [if_pos (by omega),if_pos (by omega)]; exact ⟨rfl,rfl⟩)
 have HN3:Hid (k ≠ 1→k ≠ 2→k ≠ 4→nzI k i=i∧nzJ k j=j + 1):=Lib.hid (fun h h2 h4=>by unfold nzI nzJ; rw [if_neg (by omega),if_neg (by omega)]; exact ⟨rfl,rfl⟩)
 generalize nzI k i=ri at *
 generalize nzJ k j=rj at *
 go_enter Tryz.func32, Tryz.ntmps32
 go_upto_region 1 with (fail)
 have K1:=Lib.hid (Blk.fresh W #[.int .i64 k,.int .i64 i,.int .i64 j] 56)
 have qq:=below_new W (.cells #[.int .i64 k,.int .i64 i,.int .i64 j] 56)
 replace B:=Lib.hid (B.out.trans (qq.mono B.out.size))
 clear qq
 generalize (W.alloc (.cells #[.int .i64 k,.int .i64 i,.int .i64 j] 56))=W1 at *
 have y0:=K1.out.at_ 0 _ rfl
 have y1:=K1.out.at_ 1 _ rfl
 have y2:=K1.out.at_ 2 _ rfl
 by_cases h1:k=1
 ·obtain ⟨e1,e2⟩:=HN1.out h1
  subst h1 e1 e2
  go_upto_region 3 with (fail)
  go_quiet (fail)
  go_wp2
  go_ret2
  exact ⟨rfl,B.out.trans ((Drew.of _ _).below _)⟩
 by_cases h2:k=2
 ·obtain ⟨e1,e2⟩:=HN2.out (.inl h2)
  subst h2 e1 e2
  go_upto_region 6 with (fail)
  go_quiet (fail)
  go_wp2
  go_ret2
  exact ⟨rfl,B.out.trans ((Drew.of _ _).below _)⟩
 by_cases h4:k=4
 ·obtain ⟨e1,e2⟩:=HN2.out (.inr h4)
  subst h4 e1 e2
  go_upto_region 6 with (fail)
  go_quiet (fail)
  go_wp2
  go_ret2
  exact ⟨rfl,B.out.trans ((Drew.of _ _).below _)⟩
 obtain ⟨e1,e2⟩:=HN3.out h1 h2 h4
 subst e1 e2
 have t1:(k == 1)=false:=by rw [beq_eq_false_iff_ne]; exact h1
 have t2:(k == 2)=false:=by rw [beq_eq_false_iff_ne]; exact h2
 have t4:(k == 4)=false:=by rw [beq_eq_false_iff_ne]; exact h4
 go_upto_region 7 with (fail)
 go_quiet (fail)
 go_wp2
 go_ret2
 exact ⟨rfl,B.out.trans ((Drew.of _ _).below _)⟩

end Go.Proofs.YthhkmihjnnfpgaaGreatDoor

/- The law's cost of single steps. -/
namespace Go.Proofs.YthhkmihjnnfpgaaGreatDoor
set_option linter.all false
open Go.RowKit

attribute [local go_sem] Oper.semAt_some

set_option maxRecDepth 100000 in
set_option maxHeartbeats 4000000 in
theorem lcost_2 (q:CQ) (ok:OkQ q) (i j:Nat) (hi:i≤q.L.length) (hj:j≤q.R.length) (hs:okS q 2 i j) (hlt:i < q.L.length) (sl sr:Value) (w:World) (he:Env w) (hq:QAt w sl sr q) :
  Ret Tryz.prog w 24 #[.agg #[sl,sr,.string (qT (2 * q.ch)),.string (qT (2 * q.mi)),.string (qT (2 * q.ga)),.string (qT (2 * q.re))],.agg #[.int .i64 2,.int .i64 i,.int .i64 j]] (.tuple #[.string (qT (cst q 2 i j)),.int .i64 0]):=by
 intro W hW
 have hdd0:=hW.size
 obtain ⟨de,oo,cx,rfl,hde,q1⟩:=hq.l.cell i hlt
 obtain ⟨A2,n2,rfl,_⟩:=hq.r
 have hx:=ok.okl i hlt
 have hc:cst q 2 i j=q.ga * (q.L[i].t - q.L[i].f):=by
  unfold cst thk
  rw [List.getElem?_eq_getElem hlt]
  rfl
 rw [hc]
 have hcc:=ok.ga
 generalize hxe:q.L[i]=x at *
 obtain ⟨_,x1,x2,x3,_,_⟩:=hx
 have HTH:=Lib.hid (fun W' (h:Below W.heap.size W W')=>lthick_any x.u x.f x.t (by omega) (by omega) w he W' (hW.trans (h.mono hW.size)))
 have HMU:=Lib.hid (fun W' (h:Below W.heap.size W W')=>rMulQ q.ga (x.t - x.f) (by omega) (by omega) w he W' (hW.trans (h.mono hW.size)))
 have X0:Hid (W.cell? ⟨de,oo + i * 3,none⟩=some (.string x.u)):=Lib.hid ((hW.cell (p:=⟨de,oo + i * 3,none⟩) hde).trans (q1 0 _ rfl))
 have X1:Hid (W.cell? ⟨de,oo + i * 3 + 1,none⟩=some (.string (qT (2 * x.f)))):=Lib.hid ((hW.cell (p:=⟨de,oo + i * 3 + 1,none⟩) hde).trans (q1 1 _ rfl))
 have X2:Hid (W.cell? ⟨de,oo + i * 3 + 2,none⟩=some (.string (qT (2 * x.t)))):=Lib.hid ((hW.cell (p:=⟨de,oo + i * 3 + 2,none⟩) hde).trans (q1 2 _ rfl))
 replace hde:de < W.heap.size:=Nat.lt_of_lt_of_le hde hdd0
 have hll:=ok.hl
 have hrr:=ok.hr
 have hii:(i:Int) < (q.L.length:Int):=by omega
 have HNX:=Lib.hid (lafter_any 2 i j (by omega) (by omega) W)
 rw [show nzI 2 i=(nxI 2 i:Int) from nzI_nat 2 i,show nzJ 2 j=(nxJ 2 j:Int) from nzJ_nat 2 j (by omega)] at HNX
 have HNI:Hid (nxI 2 i≤q.L.length∧nxJ 2 j≤q.R.length):=Lib.hid ⟨hs.1,hs.2.1⟩
 generalize nxI 2 i=ni at *
 generalize nxJ 2 j=nj at *
 have B:=Lib.hid (Below.refl W.heap.size W)
 clear hs ok hq he hcc x1 x2 x3 hc q1 hdd0 hlt hW hxe
 generalize x.u=xu at *
 generalize qT (2 * x.f)=xf at *
 generalize qT (2 * x.t)=xt at *
 generalize qT (q.ga * (x.t - x.f))=tr at *
 generalize qT (2 * (x.t - x.f))=tk at *
 generalize q.L.length=l1 at *
 generalize q.R.length=l2 at *
 generalize qT (2 * q.ch)=c1 at *
 generalize qT (2 * q.mi)=c2 at *
 generalize qT (2 * q.ga)=c3 at *
 generalize qT (2 * q.re)=c4 at *
 go_enter Tryz.func24, Tryz.ntmps24
 go_upto_region 1 with (fail)
 have K2:=Lib.hid (Blk.fresh W #[.slice (some ⟨de,oo,none⟩) l1 cx,.slice A2 l2 n2,.string c1,.string c2,.string c3,.string c4] 32)
 have q2:=below_new W (.cells #[.slice (some ⟨de,oo,none⟩) l1 cx,.slice A2 l2 n2,.string c1,.string c2,.string c3,.string c4] 32)
 have HSZ:(W.alloc (.cells #[.slice (some ⟨de,oo,none⟩) l1 cx,.slice A2 l2 n2,.string c1,.string c2,.string c3,.string c4] 32)).heap.size=W.heap.size + 1:=by simp
 replace B:=Lib.hid (B.out.trans (q2.mono B.out.size))
 generalize (W.alloc (.cells #[.slice (some ⟨de,oo,none⟩) l1 cx,.slice A2 l2 n2,.string c1,.string c2,.string c3,.string c4] 32))=W1 at *
 have K3:=Lib.hid (Blk.fresh W1 #[.int .i64 2,.int .i64 i,.int .i64 j] 56)
 have q3:=below_new W1 (.cells #[.int .i64 2,.int .i64 i,.int .i64 j] 56)
 replace B:=Lib.hid (B.out.trans (q3.mono B.out.size))
 replace K2:=Lib.hid (K2.out.below q3)
 clear q2 q3
 generalize (W1.alloc (.cells #[.int .i64 2,.int .i64 i,.int .i64 j] 56))=W2 at *
 rw [HSZ] at K3
 clear HSZ
 obtain ⟨b2,hb2e⟩:∃ b2,W.heap.size=b2:=⟨_,rfl⟩
 rw [hb2e] at K2 K3 ⊢
 have HB2E:=Lib.hid hb2e
 clear hb2e
 generalize b2 + 1=b3 at *
 refine wp_tab (.v 13 (.pointer (some ⟨b2,0,none⟩)) :: .v 14 (.slice (some ⟨de,oo,none⟩) l1 cx) :: .v 15 (.int .i64 l1) :: .v 16 (.pointer (some ⟨b2,1,none⟩)) :: .v 17 (.slice A2 l2 n2) :: .v 18 (.int .i64 l2) :: .v 6 (.int .i64 l1) :: .v 7 (.int .i64 l2) :: []) [] [⟨b2,#[.slice (some ⟨de,oo,none⟩) l1 cx,.slice A2 l2 n2,.string c1,.string c2,.string c3,.string c4], 32, none⟩,⟨b3,#[.int .i64 2,.int .i64 i,.int .i64 j], 56, none⟩] [] [] [] [] [] (by kernel_rfl) B.out ⟨K2.out,K3.out,trivial⟩ trivial ⟨pu,ld 0 0,pu,pu,ld 0 1,pu,pu,pu,trivial⟩ ?_
 clear B K2 K3
 rintro σ0 W8 _ ⟨K2,K3,_⟩ _ _ B
 simp only [slotsOf,finX,nval,nvalN,nvalA,Nat.reduceBEq,cond_true,cond_false,putAll,Act.put,List.setIfInBounds_toArray,List.set_cons_succ,List.set_cons_zero]
 have y0:=K2.out.at_ 0 _ rfl
 have y1:=K2.out.at_ 1 _ rfl
 have z0:=K3.out.at_ 0 _ rfl
 have z1:=K3.out.at_ 1 _ rfl
 have z2:=K3.out.at_ 2 _ rfl
 have f3:decide ((i:Int) < 0)=false:=decide_eq_false (by omega)
 have f3x:¬ ((i:Int) < 0):=by omega
 have f4:¬ l1 < i:=by omega
 have f4x:decide (l1 < i)=false:=decide_eq_false f4
 have f5:decide ((j:Int) < 0)=false:=decide_eq_false (by omega)
 have f5x:¬ ((j:Int) < 0):=by omega
 have f6:¬ l2 < j:=by omega
 have f6x:decide (l2 < j)=false:=decide_eq_false f6
 have f7:¬ l1 < ni:=by have:=HNI.out; omega
 have f7x:decide (l1 < ni)=false:=decide_eq_false f7
 have f8:¬ l2 < nj:=by have:=HNI.out; omega
 have f8x:decide (l2 < nj)=false:=decide_eq_false f8
 go_upto_region 17 with (first
  | (go_at_call 32; with_reducible refine (HNX.out _ B.out).mono ?_; rintro e wx ⟨rfl,q⟩; replace K2:=Lib.hid (K2.out.below q); replace K3:=Lib.hid (K3.out.below q); replace B:=Lib.hid (B.out.trans (q.mono B.out.size)); clear q; have y0:=K2.out.at_ 0 _ rfl; have y1:=K2.out.at_ 1 _ rfl; have z0:=K3.out.at_ 0 _ rfl; have z1:=K3.out.at_ 1 _ rfl; have z2:=K3.out.at_ 2 _ rfl)
  | fail "arm")
 clear y0 y1 z0 z1 z2
 clear f3 f3x f4 f4x f5 f5x f6 f6x f7 f7x f8 f8x
 refine wp_tab (.v 105 (.pointer (some ⟨b2,2,none⟩)) :: .v 106 (.pointer (some ⟨b2,4,none⟩)) :: .v 107 (.string c3) :: .v 108 (.pointer (some ⟨b2,0,none⟩)) :: .v 109 (.slice (some ⟨de,oo,none⟩) l1 cx) :: .v 110 (.pointer (some ⟨b3,1,none⟩)) :: .v 111 (.int .i64 i) :: .v 112 (.pointer (some ⟨de,oo + i * 3,none⟩)) :: .v 113 (.agg #[.string xu,.string xf,.string xt]) :: .v 114 (.string tk) :: .v 115 (.string tr) :: .v 4 (.string tr) :: .v 5 (.int .i64 0) :: []) [] [⟨b2,#[.slice (some ⟨de,oo,none⟩) l1 cx,.slice A2 l2 n2,.string c1,.string c2,.string c3,.string c4], 32, none⟩,⟨b3,#[.int .i64 2,.int .i64 i,.int .i64 j], 56, none⟩] [] [] [] [] [] (by kernel_rfl) B.out ⟨K2.out,K3.out,trivial⟩ trivial ⟨pu,pu,ld 0 4,pu,ld 0 0,pu,ld 1 1,?_,?_,cl HTH.out,cl HMU.out,pu,pu,trivial⟩ ?_
 ·intro L a U ho J hn dd KK kk; refine .free rfl ?_; have r4:=J.read 4 rfl (dd.get 4 rfl); have r6:=J.read 6 rfl (dd.get 6 rfl); go_simp; exact kk.out _ _ (J.st 7 rfl rfl)
 ·intro L a U ho J hn dd KK kk; refine .free rfl ?_; have r7:=J.read 7 rfl (dd.get 7 rfl); have e0:=(J.bb.cell (p:=⟨de,oo + i * 3,none⟩) hde).trans X0.out; have e1:=(J.bb.cell (p:=⟨de,oo + i * 3 + 1,none⟩) hde).trans X1.out; have e2:=(J.bb.cell (p:=⟨de,oo + i * 3 + 2,none⟩) hde).trans X2.out; go_simp; exact kk.out _ _ (J.st 8 rfl rfl)
 rintro σ W9 _ _ _ _ B9
 simp only [slotsOf,finX,nval,nvalN,nvalA,Nat.reduceBEq,cond_true,cond_false,putAll,Act.put,List.setIfInBounds_toArray,List.set_cons_succ,List.set_cons_zero]
 go_wp2
 go_ret2
 exact ⟨rfl,B9.out⟩

set_option maxRecDepth 100000 in
set_option maxHeartbeats 4000000 in
theorem lcost_3 (q:CQ) (ok:OkQ q) (i j:Nat) (hi:i≤q.L.length) (hj:j≤q.R.length) (hs:okS q 3 i j) (hlt:j < q.R.length) (sl sr:Value) (w:World) (he:Env w) (hq:QAt w sl sr q) :
  Ret Tryz.prog w 24 #[.agg #[sl,sr,.string (qT (2 * q.ch)),.string (qT (2 * q.mi)),.string (qT (2 * q.ga)),.string (qT (2 * q.re))],.agg #[.int .i64 3,.int .i64 i,.int .i64 j]] (.tuple #[.string (qT (cst q 3 i j)),.int .i64 0]):=by
 intro W hW
 have hdd0:=hW.size
 obtain ⟨de,oo,cx,rfl,hde,q1⟩:=hq.r.cell j hlt
 obtain ⟨A1,n1,rfl,_⟩:=hq.l
 have hx:=ok.okr j hlt
 have hc:cst q 3 i j=q.ga * (q.R[j].t - q.R[j].f):=by
  unfold cst thk
  rw [List.getElem?_eq_getElem hlt]
  rfl
 rw [hc]
 have hcc:=ok.ga
 generalize hxe:q.R[j]=x at *
 obtain ⟨_,x1,x2,x3,_,_⟩:=hx
 have HTH:=Lib.hid (fun W' (h:Below W.heap.size W W')=>lthick_any x.u x.f x.t (by omega) (by omega) w he W' (hW.trans (h.mono hW.size)))
 have HMU:=Lib.hid (fun W' (h:Below W.heap.size W W')=>rMulQ q.ga (x.t - x.f) (by omega) (by omega) w he W' (hW.trans (h.mono hW.size)))
 have X0:Hid (W.cell? ⟨de,oo + j * 3,none⟩=some (.string x.u)):=Lib.hid ((hW.cell (p:=⟨de,oo + j * 3,none⟩) hde).trans (q1 0 _ rfl))
 have X1:Hid (W.cell? ⟨de,oo + j * 3 + 1,none⟩=some (.string (qT (2 * x.f)))):=Lib.hid ((hW.cell (p:=⟨de,oo + j * 3 + 1,none⟩) hde).trans (q1 1 _ rfl))
 have X2:Hid (W.cell? ⟨de,oo + j * 3 + 2,none⟩=some (.string (qT (2 * x.t)))):=Lib.hid ((hW.cell (p:=⟨de,oo + j * 3 + 2,none⟩) hde).trans (q1 2 _ rfl))
 replace hde:de < W.heap.size:=Nat.lt_of_lt_of_le hde hdd0
 have hll:=ok.hl
 have hrr:=ok.hr
 have hii:(j:Int) < (q.R.length:Int):=by omega
 have HNX:=Lib.hid (lafter_any 3 i j (by omega) (by omega) W)
 rw [show nzI 3 i=(nxI 3 i:Int) from nzI_nat 3 i,show nzJ 3 j=(nxJ 3 j:Int) from nzJ_nat 3 j (by omega)] at HNX
 have HNI:Hid (nxI 3 i≤q.L.length∧nxJ 3 j≤q.R.length):=Lib.hid ⟨hs.1,hs.2.1⟩
 generalize nxI 3 i=ni at *
 generalize nxJ 3 j=nj at *
 have B:=Lib.hid (Below.refl W.heap.size W)
 clear hs ok hq he hcc x1 x2 x3 hc q1 hdd0 hlt hW hxe
 generalize x.u=xu at *
 generalize qT (2 * x.f)=xf at *
 generalize qT (2 * x.t)=xt at *
 generalize qT (q.ga * (x.t - x.f))=tr at *
 generalize qT (2 * (x.t - x.f))=tk at *
 generalize q.L.length=l1 at *
 generalize q.R.length=l2 at *
 generalize qT (2 * q.ch)=c1 at *
 generalize qT (2 * q.mi)=c2 at *
 generalize qT (2 * q.ga)=c3 at *
 generalize qT (2 * q.re)=c4 at *
 go_enter Tryz.func24, Tryz.ntmps24
 go_upto_region 1 with (fail)
 have K2:=Lib.hid (Blk.fresh W #[.slice A1 l1 n1,.slice (some ⟨de,oo,none⟩) l2 cx,.string c1,.string c2,.string c3,.string c4] 32)
 have q2:=below_new W (.cells #[.slice A1 l1 n1,.slice (some ⟨de,oo,none⟩) l2 cx,.string c1,.string c2,.string c3,.string c4] 32)
 have HSZ:(W.alloc (.cells #[.slice A1 l1 n1,.slice (some ⟨de,oo,none⟩) l2 cx,.string c1,.string c2,.string c3,.string c4] 32)).heap.size=W.heap.size + 1:=by simp
 replace B:=Lib.hid (B.out.trans (q2.mono B.out.size))
 generalize (W.alloc (.cells #[.slice A1 l1 n1,.slice (some ⟨de,oo,none⟩) l2 cx,.string c1,.string c2,.string c3,.string c4] 32))=W1 at *
 have K3:=Lib.hid (Blk.fresh W1 #[.int .i64 3,.int .i64 i,.int .i64 j] 56)
 have q3:=below_new W1 (.cells #[.int .i64 3,.int .i64 i,.int .i64 j] 56)
 replace B:=Lib.hid (B.out.trans (q3.mono B.out.size))
 replace K2:=Lib.hid (K2.out.below q3)
 clear q2 q3
 generalize (W1.alloc (.cells #[.int .i64 3,.int .i64 i,.int .i64 j] 56))=W2 at *
 rw [HSZ] at K3
 clear HSZ
 obtain ⟨b2,hb2e⟩:∃ b2,W.heap.size=b2:=⟨_,rfl⟩
 rw [hb2e] at K2 K3 ⊢
 have HB2E:=Lib.hid hb2e
 clear hb2e
 generalize b2 + 1=b3 at *
 refine wp_tab (.v 13 (.pointer (some ⟨b2,0,none⟩)) :: .v 14 (.slice A1 l1 n1) :: .v 15 (.int .i64 l1) :: .v 16 (.pointer (some ⟨b2,1,none⟩)) :: .v 17 (.slice (some ⟨de,oo,none⟩) l2 cx) :: .v 18 (.int .i64 l2) :: .v 6 (.int .i64 l1) :: .v 7 (.int .i64 l2) :: []) [] [⟨b2,#[.slice A1 l1 n1,.slice (some ⟨de,oo,none⟩) l2 cx,.string c1,.string c2,.string c3,.string c4], 32, none⟩,⟨b3,#[.int .i64 3,.int .i64 i,.int .i64 j], 56, none⟩] [] [] [] [] [] (by kernel_rfl) B.out ⟨K2.out,K3.out,trivial⟩ trivial ⟨pu,ld 0 0,pu,pu,ld 0 1,pu,pu,pu,trivial⟩ ?_
 clear B K2 K3
 rintro σ0 W8 _ ⟨K2,K3,_⟩ _ _ B
 simp only [slotsOf,finX,nval,nvalN,nvalA,Nat.reduceBEq,cond_true,cond_false,putAll,Act.put,List.setIfInBounds_toArray,List.set_cons_succ,List.set_cons_zero]
 have y0:=K2.out.at_ 0 _ rfl
 have y1:=K2.out.at_ 1 _ rfl
 have z0:=K3.out.at_ 0 _ rfl
 have z1:=K3.out.at_ 1 _ rfl
 have z2:=K3.out.at_ 2 _ rfl
 have f3:decide ((i:Int) < 0)=false:=decide_eq_false (by omega)
 have f3x:¬ ((i:Int) < 0):=by omega
 have f4:¬ l1 < i:=by omega
 have f4x:decide (l1 < i)=false:=decide_eq_false f4
 have f5:decide ((j:Int) < 0)=false:=decide_eq_false (by omega)
 have f5x:¬ ((j:Int) < 0):=by omega
 have f6:¬ l2 < j:=by omega
 have f6x:decide (l2 < j)=false:=decide_eq_false f6
 have f7:¬ l1 < ni:=by have:=HNI.out; omega
 have f7x:decide (l1 < ni)=false:=decide_eq_false f7
 have f8:¬ l2 < nj:=by have:=HNI.out; omega
 have f8x:decide (l2 < nj)=false:=decide_eq_false f8
 go_upto_region 19 with (first
  | (go_at_call 32; with_reducible refine (HNX.out _ B.out).mono ?_; rintro e wx ⟨rfl,q⟩; replace K2:=Lib.hid (K2.out.below q); replace K3:=Lib.hid (K3.out.below q); replace B:=Lib.hid (B.out.trans (q.mono B.out.size)); clear q; have y0:=K2.out.at_ 0 _ rfl; have y1:=K2.out.at_ 1 _ rfl; have z0:=K3.out.at_ 0 _ rfl; have z1:=K3.out.at_ 1 _ rfl; have z2:=K3.out.at_ 2 _ rfl)
  | fail "arm")
 clear y0 y1 z0 z1 z2
 clear f3 f3x f4 f4x f5 f5x f6 f6x f7 f7x f8 f8x
 refine wp_tab (.v 118 (.pointer (some ⟨b2,2,none⟩)) :: .v 119 (.pointer (some ⟨b2,4,none⟩)) :: .v 120 (.string c3) :: .v 121 (.pointer (some ⟨b2,1,none⟩)) :: .v 122 (.slice (some ⟨de,oo,none⟩) l2 cx) :: .v 123 (.pointer (some ⟨b3,2,none⟩)) :: .v 124 (.int .i64 j) :: .v 125 (.pointer (some ⟨de,oo + j * 3,none⟩)) :: .v 126 (.agg #[.string xu,.string xf,.string xt]) :: .v 127 (.string tk) :: .v 128 (.string tr) :: .v 4 (.string tr) :: .v 5 (.int .i64 0) :: []) [] [⟨b2,#[.slice A1 l1 n1,.slice (some ⟨de,oo,none⟩) l2 cx,.string c1,.string c2,.string c3,.string c4], 32, none⟩,⟨b3,#[.int .i64 3,.int .i64 i,.int .i64 j], 56, none⟩] [] [] [] [] [] (by kernel_rfl) B.out ⟨K2.out,K3.out,trivial⟩ trivial ⟨pu,pu,ld 0 4,pu,ld 0 1,pu,ld 1 2,?_,?_,cl HTH.out,cl HMU.out,pu,pu,trivial⟩ ?_
 ·intro L a U ho J hn dd KK kk; refine .free rfl ?_; have r4:=J.read 4 rfl (dd.get 4 rfl); have r6:=J.read 6 rfl (dd.get 6 rfl); go_simp; exact kk.out _ _ (J.st 7 rfl rfl)
 ·intro L a U ho J hn dd KK kk; refine .free rfl ?_; have r7:=J.read 7 rfl (dd.get 7 rfl); have e0:=(J.bb.cell (p:=⟨de,oo + j * 3,none⟩) hde).trans X0.out; have e1:=(J.bb.cell (p:=⟨de,oo + j * 3 + 1,none⟩) hde).trans X1.out; have e2:=(J.bb.cell (p:=⟨de,oo + j * 3 + 2,none⟩) hde).trans X2.out; go_simp; exact kk.out _ _ (J.st 8 rfl rfl)
 rintro σ W9 _ _ _ _ B9
 simp only [slotsOf,finX,nval,nvalN,nvalA,Nat.reduceBEq,cond_true,cond_false,putAll,Act.put,List.setIfInBounds_toArray,List.set_cons_succ,List.set_cons_zero]
 go_wp2
 go_ret2
 exact ⟨rfl,B9.out⟩

set_option maxRecDepth 100000 in
set_option maxHeartbeats 4000000 in
theorem lcost_4 (q:CQ) (ok:OkQ q) (i j:Nat) (hi:i≤q.L.length) (hj:j≤q.R.length) (hs:okS q 4 i j) (hlt:i < q.L.length) (sl sr:Value) (w:World) (he:Env w) (hq:QAt w sl sr q) :
  Ret Tryz.prog w 24 #[.agg #[sl,sr,.string (qT (2 * q.ch)),.string (qT (2 * q.mi)),.string (qT (2 * q.ga)),.string (qT (2 * q.re))],.agg #[.int .i64 4,.int .i64 i,.int .i64 j]] (.tuple #[.string (qT (cst q 4 i j)),.int .i64 0]):=by
 intro W hW
 have hdd0:=hW.size
 obtain ⟨de,oo,cx,rfl,hde,q1⟩:=hq.l.cell i hlt
 obtain ⟨hi0,hun⟩:=hs.2.2.1 rfl
 have hl6:=ok.hl
 obtain ⟨d9,o9,c9,e9,hd9,q9⟩:=hq.l.cell (i - 1) (by omega)
 injection e9 with e9 _ e9c
 injection e9 with e9
 injection e9 with e9a e9b
 subst e9a e9b e9c
 have hu9:q.L[i - 1].u=q.L[i].u:=by
  have h:=hun
  unfold unt at h
  rw [List.getElem?_eq_getElem hlt,List.getElem?_eq_getElem (show i - 1 < q.L.length by omega)] at h
  exact h
 have P0:Hid (W.cell? ⟨de,oo + (i - 1) * 3,none⟩=some (.string q.L[i].u)):=Lib.hid ((hW.cell (p:=⟨de,oo + (i - 1) * 3,none⟩) hde).trans ((q9 0 _ rfl).trans (by rw [hu9])))
 have HM:Hid (IntKind.i64.wrap ((i:Int) - 1)=((i - 1:Nat):Int)):=Lib.hid (by rw [IntWalk.i64_in _ (by omega)]; omega)
 have HML:Hid (((i - 1:Nat):Int) < (q.L.length:Int)):=Lib.hid (by omega)
 have HI1:Hid (((i:Int) == 0)=false):=Lib.hid (by rw [beq_eq_false_iff_ne]; omega)
 clear hun hu9 q9 hd9
 generalize i - 1=m at *
 obtain ⟨A2,n2,rfl,_⟩:=hq.r
 have hx:=ok.okl i hlt
 have hc:cst q 4 i j=q.re * (q.L[i].t - q.L[i].f):=by
  unfold cst thk
  rw [List.getElem?_eq_getElem hlt]
  rfl
 rw [hc]
 have hcc:=ok.re
 generalize hxe:q.L[i]=x at *
 obtain ⟨_,x1,x2,x3,_,_⟩:=hx
 have HTH:=Lib.hid (fun W' (h:Below W.heap.size W W')=>lthick_any x.u x.f x.t (by omega) (by omega) w he W' (hW.trans (h.mono hW.size)))
 have HMU:=Lib.hid (fun W' (h:Below W.heap.size W W')=>rMulQ q.re (x.t - x.f) (by omega) (by omega) w he W' (hW.trans (h.mono hW.size)))
 have X0:Hid (W.cell? ⟨de,oo + i * 3,none⟩=some (.string x.u)):=Lib.hid ((hW.cell (p:=⟨de,oo + i * 3,none⟩) hde).trans (q1 0 _ rfl))
 have X1:Hid (W.cell? ⟨de,oo + i * 3 + 1,none⟩=some (.string (qT (2 * x.f)))):=Lib.hid ((hW.cell (p:=⟨de,oo + i * 3 + 1,none⟩) hde).trans (q1 1 _ rfl))
 have X2:Hid (W.cell? ⟨de,oo + i * 3 + 2,none⟩=some (.string (qT (2 * x.t)))):=Lib.hid ((hW.cell (p:=⟨de,oo + i * 3 + 2,none⟩) hde).trans (q1 2 _ rfl))
 replace hde:de < W.heap.size:=Nat.lt_of_lt_of_le hde hdd0
 have hll:=ok.hl
 have hrr:=ok.hr
 have hii:(i:Int) < (q.L.length:Int):=by omega
 have HNX:=Lib.hid (lafter_any 4 i j (by omega) (by omega) W)
 rw [show nzI 4 i=(nxI 4 i:Int) from nzI_nat 4 i,show nzJ 4 j=(nxJ 4 j:Int) from nzJ_nat 4 j (by omega)] at HNX
 have HNI:Hid (nxI 4 i≤q.L.length∧nxJ 4 j≤q.R.length):=Lib.hid ⟨hs.1,hs.2.1⟩
 generalize nxI 4 i=ni at *
 generalize nxJ 4 j=nj at *
 have B:=Lib.hid (Below.refl W.heap.size W)
 clear hs ok hq he hcc x1 x2 x3 hc q1 hdd0 hlt hW hxe
 generalize x.u=xu at *
 generalize qT (2 * x.f)=xf at *
 generalize qT (2 * x.t)=xt at *
 generalize qT (q.re * (x.t - x.f))=tr at *
 generalize qT (2 * (x.t - x.f))=tk at *
 generalize q.L.length=l1 at *
 generalize q.R.length=l2 at *
 generalize qT (2 * q.ch)=c1 at *
 generalize qT (2 * q.mi)=c2 at *
 generalize qT (2 * q.ga)=c3 at *
 generalize qT (2 * q.re)=c4 at *
 go_enter Tryz.func24, Tryz.ntmps24
 go_upto_region 1 with (fail)
 have K2:=Lib.hid (Blk.fresh W #[.slice (some ⟨de,oo,none⟩) l1 cx,.slice A2 l2 n2,.string c1,.string c2,.string c3,.string c4] 32)
 have q2:=below_new W (.cells #[.slice (some ⟨de,oo,none⟩) l1 cx,.slice A2 l2 n2,.string c1,.string c2,.string c3,.string c4] 32)
 have HSZ:(W.alloc (.cells #[.slice (some ⟨de,oo,none⟩) l1 cx,.slice A2 l2 n2,.string c1,.string c2,.string c3,.string c4] 32)).heap.size=W.heap.size + 1:=by simp
 replace B:=Lib.hid (B.out.trans (q2.mono B.out.size))
 generalize (W.alloc (.cells #[.slice (some ⟨de,oo,none⟩) l1 cx,.slice A2 l2 n2,.string c1,.string c2,.string c3,.string c4] 32))=W1 at *
 have K3:=Lib.hid (Blk.fresh W1 #[.int .i64 4,.int .i64 i,.int .i64 j] 56)
 have q3:=below_new W1 (.cells #[.int .i64 4,.int .i64 i,.int .i64 j] 56)
 replace B:=Lib.hid (B.out.trans (q3.mono B.out.size))
 replace K2:=Lib.hid (K2.out.below q3)
 clear q2 q3
 generalize (W1.alloc (.cells #[.int .i64 4,.int .i64 i,.int .i64 j] 56))=W2 at *
 rw [HSZ] at K3
 clear HSZ
 obtain ⟨b2,hb2e⟩:∃ b2,W.heap.size=b2:=⟨_,rfl⟩
 rw [hb2e] at K2 K3 ⊢
 have HB2E:=Lib.hid hb2e
 clear hb2e
 generalize b2 + 1=b3 at *
 refine wp_tab (.v 13 (.pointer (some ⟨b2,0,none⟩)) :: .v 14 (.slice (some ⟨de,oo,none⟩) l1 cx) :: .v 15 (.int .i64 l1) :: .v 16 (.pointer (some ⟨b2,1,none⟩)) :: .v 17 (.slice A2 l2 n2) :: .v 18 (.int .i64 l2) :: .v 6 (.int .i64 l1) :: .v 7 (.int .i64 l2) :: []) [] [⟨b2,#[.slice (some ⟨de,oo,none⟩) l1 cx,.slice A2 l2 n2,.string c1,.string c2,.string c3,.string c4], 32, none⟩,⟨b3,#[.int .i64 4,.int .i64 i,.int .i64 j], 56, none⟩] [] [] [] [] [] (by kernel_rfl) B.out ⟨K2.out,K3.out,trivial⟩ trivial ⟨pu,ld 0 0,pu,pu,ld 0 1,pu,pu,pu,trivial⟩ ?_
 clear B K2 K3
 rintro σ0 W8 _ ⟨K2,K3,_⟩ _ _ B
 simp only [slotsOf,finX,nval,nvalN,nvalA,Nat.reduceBEq,cond_true,cond_false,putAll,Act.put,List.setIfInBounds_toArray,List.set_cons_succ,List.set_cons_zero]
 have y0:=K2.out.at_ 0 _ rfl
 have y1:=K2.out.at_ 1 _ rfl
 have z0:=K3.out.at_ 0 _ rfl
 have z1:=K3.out.at_ 1 _ rfl
 have z2:=K3.out.at_ 2 _ rfl
 have f3:decide ((i:Int) < 0)=false:=decide_eq_false (by omega)
 have f3x:¬ ((i:Int) < 0):=by omega
 have f4:¬ l1 < i:=by omega
 have f4x:decide (l1 < i)=false:=decide_eq_false f4
 have f5:decide ((j:Int) < 0)=false:=decide_eq_false (by omega)
 have f5x:¬ ((j:Int) < 0):=by omega
 have f6:¬ l2 < j:=by omega
 have f6x:decide (l2 < j)=false:=decide_eq_false f6
 have f7:¬ l1 < ni:=by have:=HNI.out; omega
 have f7x:decide (l1 < ni)=false:=decide_eq_false f7
 have f8:¬ l2 < nj:=by have:=HNI.out; omega
 have f8x:decide (l2 < nj)=false:=decide_eq_false f8
 go_upto_region 21 with (first
  | (go_at_call 32; with_reducible refine (HNX.out _ B.out).mono ?_; rintro e wx ⟨rfl,q⟩; replace K2:=Lib.hid (K2.out.below q); replace K3:=Lib.hid (K3.out.below q); replace B:=Lib.hid (B.out.trans (q.mono B.out.size)); clear q; have y0:=K2.out.at_ 0 _ rfl; have y1:=K2.out.at_ 1 _ rfl; have z0:=K3.out.at_ 0 _ rfl; have z1:=K3.out.at_ 1 _ rfl; have z2:=K3.out.at_ 2 _ rfl)
  | fail "arm")
 clear y0 y1 z0 z1 z2
 refine wp_tab (.v 131 (.pointer (some ⟨b3,1,none⟩)) :: .v 132 (.int .i64 i) :: .v 133 (.bool false) :: .v 134 (.bool false) :: .v 135 (.pointer (some ⟨b2,0,none⟩)) :: .v 136 (.slice (some ⟨de,oo,none⟩) l1 cx) :: .v 137 (.pointer (some ⟨b3,1,none⟩)) :: .v 138 (.int .i64 i) :: .v 139 (.pointer (some ⟨de,oo + i * 3,none⟩)) :: .v 140 (.pointer (some ⟨de,oo + i * 3,none⟩)) :: .v 141 (.string xu) :: .v 142 (.pointer (some ⟨b2,0,none⟩)) :: .v 143 (.slice (some ⟨de,oo,none⟩) l1 cx) :: .v 144 (.pointer (some ⟨b3,1,none⟩)) :: .v 145 (.int .i64 i) :: .v 146 (.int .i64 (m:Nat)) :: .v 147 (.pointer (some ⟨de,oo + m * 3,none⟩)) :: .v 148 (.pointer (some ⟨de,oo + m * 3,none⟩)) :: .v 149 (.string xu) :: .v 150 (.bool false) :: .v 151 (.bool false) :: []) [] [⟨b2,#[.slice (some ⟨de,oo,none⟩) l1 cx,.slice A2 l2 n2,.string c1,.string c2,.string c3,.string c4], 32, none⟩,⟨b3,#[.int .i64 4,.int .i64 i,.int .i64 j], 56, none⟩] [] [] [] [] [] (by kernel_rfl) B.out ⟨K2.out,K3.out,trivial⟩ trivial ⟨pu,ld 1 1,?_,pu,pu,ld 0 0,pu,ld 1 1,?_,pu,?_,pu,ld 0 0,pu,ld 1 1,?_,?_,pu,?_,?_,pu,trivial⟩ ?_
 ·intro L a U ho J hn dd KK kk; refine .free rfl ?_; have r1:=J.read 1 rfl (dd.get 1 rfl); have hne0:=HI1.out; go_simp; exact kk.out _ _ (J.st 2 rfl rfl)
 ·intro L a U ho J hn dd KK kk; refine .pos (s:=134) rfl rfl (J.vals 3 _ _ rfl (dd.get 3 rfl)) ?_; have r5:=J.read 5 rfl (dd.get 5 rfl); have r7:=J.read 7 rfl (dd.get 7 rfl); go_simp; exact kk.out _ _ (J.st 8 rfl rfl)
 ·intro L a U ho J hn dd KK kk; refine .pos (s:=134) rfl rfl (J.vals 3 _ _ rfl (dd.get 3 rfl)) ?_; have r9:=J.read 9 rfl (dd.get 9 rfl); have e0:=(J.bb.cell (p:=⟨de,oo + i * 3,none⟩) hde).trans X0.out; go_simp; exact kk.out _ _ (J.st 10 rfl rfl)
 ·intro L a U ho J hn dd KK kk; refine .pos (s:=134) rfl rfl (J.vals 3 _ _ rfl (dd.get 3 rfl)) ?_; have r14:=J.read 14 rfl (dd.get 14 rfl); have hm1:=HM.out; go_simp; exact kk.out _ _ (J.st 15 rfl rfl)
 ·intro L a U ho J hn dd KK kk; refine .pos (s:=134) rfl rfl (J.vals 3 _ _ rfl (dd.get 3 rfl)) ?_; have r12:=J.read 12 rfl (dd.get 12 rfl); have r15:=J.read 15 rfl (dd.get 15 rfl); have hm2:=HML.out; go_simp; exact kk.out _ _ (J.st 16 rfl rfl)
 ·intro L a U ho J hn dd KK kk; refine .pos (s:=134) rfl rfl (J.vals 3 _ _ rfl (dd.get 3 rfl)) ?_; have r17:=J.read 17 rfl (dd.get 17 rfl); have e0:=(J.bb.cell (p:=⟨de,oo + m * 3,none⟩) hde).trans P0.out; go_simp; exact kk.out _ _ (J.st 18 rfl rfl)
 ·intro L a U ho J hn dd KK kk; refine .pos (s:=134) rfl rfl (J.vals 3 _ _ rfl (dd.get 3 rfl)) ?_; have r10:=J.read 10 rfl (dd.get 10 rfl); have r18:=J.read 18 rfl (dd.get 18 rfl); go_simp; exact kk.out _ _ (J.st 19 rfl rfl)
 clear B K2 K3
 rintro σ1 W7 _ ⟨K2,K3,_⟩ _ _ B
 simp only [slotsOf,finX,nval,nvalN,nvalA,Nat.reduceBEq,cond_true,cond_false,putAll,Act.put,List.setIfInBounds_toArray,List.set_cons_succ,List.set_cons_zero]
 have y0:=K2.out.at_ 0 _ rfl
 have y1:=K2.out.at_ 1 _ rfl
 have z0:=K3.out.at_ 0 _ rfl
 have z1:=K3.out.at_ 1 _ rfl
 have z2:=K3.out.at_ 2 _ rfl
 go_upto_region 23 with (fail)
 clear y0 y1 z0 z1 z2
 clear f3 f3x f4 f4x f5 f5x f6 f6x f7 f7x f8 f8x
 refine wp_tab (.v 152 (.pointer (some ⟨b2,2,none⟩)) :: .v 153 (.pointer (some ⟨b2,5,none⟩)) :: .v 154 (.string c4) :: .v 155 (.pointer (some ⟨b2,0,none⟩)) :: .v 156 (.slice (some ⟨de,oo,none⟩) l1 cx) :: .v 157 (.pointer (some ⟨b3,1,none⟩)) :: .v 158 (.int .i64 i) :: .v 159 (.pointer (some ⟨de,oo + i * 3,none⟩)) :: .v 160 (.agg #[.string xu,.string xf,.string xt]) :: .v 161 (.string tk) :: .v 162 (.string tr) :: .v 4 (.string tr) :: .v 5 (.int .i64 0) :: []) [] [⟨b2,#[.slice (some ⟨de,oo,none⟩) l1 cx,.slice A2 l2 n2,.string c1,.string c2,.string c3,.string c4], 32, none⟩,⟨b3,#[.int .i64 4,.int .i64 i,.int .i64 j], 56, none⟩] [] [] [] [] [] (by kernel_rfl) B.out ⟨K2.out,K3.out,trivial⟩ trivial ⟨pu,pu,ld 0 5,pu,ld 0 0,pu,ld 1 1,?_,?_,cl HTH.out,cl HMU.out,pu,pu,trivial⟩ ?_
 ·intro L a U ho J hn dd KK kk; refine .free rfl ?_; have r4:=J.read 4 rfl (dd.get 4 rfl); have r6:=J.read 6 rfl (dd.get 6 rfl); go_simp; exact kk.out _ _ (J.st 7 rfl rfl)
 ·intro L a U ho J hn dd KK kk; refine .free rfl ?_; have r7:=J.read 7 rfl (dd.get 7 rfl); have e0:=(J.bb.cell (p:=⟨de,oo + i * 3,none⟩) hde).trans X0.out; have e1:=(J.bb.cell (p:=⟨de,oo + i * 3 + 1,none⟩) hde).trans X1.out; have e2:=(J.bb.cell (p:=⟨de,oo + i * 3 + 2,none⟩) hde).trans X2.out; go_simp; exact kk.out _ _ (J.st 8 rfl rfl)
 rintro σ W9 _ _ _ _ B9
 simp only [slotsOf,finX,nval,nvalN,nvalA,Nat.reduceBEq,cond_true,cond_false,putAll,Act.put,List.setIfInBounds_toArray,List.set_cons_succ,List.set_cons_zero]
 go_wp2
 go_ret2
 exact ⟨rfl,B9.out⟩

set_option maxRecDepth 100000 in
set_option maxHeartbeats 4000000 in
theorem lcost_5 (q:CQ) (ok:OkQ q) (i j:Nat) (hi:i≤q.L.length) (hj:j≤q.R.length) (hs:okS q 5 i j) (hlt:j < q.R.length) (sl sr:Value) (w:World) (he:Env w) (hq:QAt w sl sr q) :
  Ret Tryz.prog w 24 #[.agg #[sl,sr,.string (qT (2 * q.ch)),.string (qT (2 * q.mi)),.string (qT (2 * q.ga)),.string (qT (2 * q.re))],.agg #[.int .i64 5,.int .i64 i,.int .i64 j]] (.tuple #[.string (qT (cst q 5 i j)),.int .i64 0]):=by
 intro W hW
 have hdd0:=hW.size
 obtain ⟨de,oo,cx,rfl,hde,q1⟩:=hq.r.cell j hlt
 obtain ⟨hi0,hun⟩:=hs.2.2.2 rfl
 have hl6:=ok.hr
 obtain ⟨d9,o9,c9,e9,hd9,q9⟩:=hq.r.cell (j - 1) (by omega)
 injection e9 with e9 _ e9c
 injection e9 with e9
 injection e9 with e9a e9b
 subst e9a e9b e9c
 have hu9:q.R[j - 1].u=q.R[j].u:=by
  have h:=hun
  unfold unt at h
  rw [List.getElem?_eq_getElem hlt,List.getElem?_eq_getElem (show j - 1 < q.R.length by omega)] at h
  exact h
 have P0:Hid (W.cell? ⟨de,oo + (j - 1) * 3,none⟩=some (.string q.R[j].u)):=Lib.hid ((hW.cell (p:=⟨de,oo + (j - 1) * 3,none⟩) hde).trans ((q9 0 _ rfl).trans (by rw [hu9])))
 have HM:Hid (IntKind.i64.wrap ((j:Int) - 1)=((j - 1:Nat):Int)):=Lib.hid (by rw [IntWalk.i64_in _ (by omega)]; omega)
 have HML:Hid (((j - 1:Nat):Int) < (q.R.length:Int)):=Lib.hid (by omega)
 have HI1:Hid (((j:Int) == 0)=false):=Lib.hid (by rw [beq_eq_false_iff_ne]; omega)
 clear hun hu9 q9 hd9
 generalize j - 1=m at *
 obtain ⟨A1,n1,rfl,_⟩:=hq.l
 have hx:=ok.okr j hlt
 have hc:cst q 5 i j=q.re * (q.R[j].t - q.R[j].f):=by
  unfold cst thk
  rw [List.getElem?_eq_getElem hlt]
  rfl
 rw [hc]
 have hcc:=ok.re
 generalize hxe:q.R[j]=x at *
 obtain ⟨_,x1,x2,x3,_,_⟩:=hx
 have HTH:=Lib.hid (fun W' (h:Below W.heap.size W W')=>lthick_any x.u x.f x.t (by omega) (by omega) w he W' (hW.trans (h.mono hW.size)))
 have HMU:=Lib.hid (fun W' (h:Below W.heap.size W W')=>rMulQ q.re (x.t - x.f) (by omega) (by omega) w he W' (hW.trans (h.mono hW.size)))
 have X0:Hid (W.cell? ⟨de,oo + j * 3,none⟩=some (.string x.u)):=Lib.hid ((hW.cell (p:=⟨de,oo + j * 3,none⟩) hde).trans (q1 0 _ rfl))
 have X1:Hid (W.cell? ⟨de,oo + j * 3 + 1,none⟩=some (.string (qT (2 * x.f)))):=Lib.hid ((hW.cell (p:=⟨de,oo + j * 3 + 1,none⟩) hde).trans (q1 1 _ rfl))
 have X2:Hid (W.cell? ⟨de,oo + j * 3 + 2,none⟩=some (.string (qT (2 * x.t)))):=Lib.hid ((hW.cell (p:=⟨de,oo + j * 3 + 2,none⟩) hde).trans (q1 2 _ rfl))
 replace hde:de < W.heap.size:=Nat.lt_of_lt_of_le hde hdd0
 have hll:=ok.hl
 have hrr:=ok.hr
 have hii:(j:Int) < (q.R.length:Int):=by omega
 have HNX:=Lib.hid (lafter_any 5 i j (by omega) (by omega) W)
 rw [show nzI 5 i=(nxI 5 i:Int) from nzI_nat 5 i,show nzJ 5 j=(nxJ 5 j:Int) from nzJ_nat 5 j (by omega)] at HNX
 have HNI:Hid (nxI 5 i≤q.L.length∧nxJ 5 j≤q.R.length):=Lib.hid ⟨hs.1,hs.2.1⟩
 generalize nxI 5 i=ni at *
 generalize nxJ 5 j=nj at *
 have B:=Lib.hid (Below.refl W.heap.size W)
 clear hs ok hq he hcc x1 x2 x3 hc q1 hdd0 hlt hW hxe
 generalize x.u=xu at *
 generalize qT (2 * x.f)=xf at *
 generalize qT (2 * x.t)=xt at *
 generalize qT (q.re * (x.t - x.f))=tr at *
 generalize qT (2 * (x.t - x.f))=tk at *
 generalize q.L.length=l1 at *
 generalize q.R.length=l2 at *
 generalize qT (2 * q.ch)=c1 at *
 generalize qT (2 * q.mi)=c2 at *
 generalize qT (2 * q.ga)=c3 at *
 generalize qT (2 * q.re)=c4 at *
 go_enter Tryz.func24, Tryz.ntmps24
 go_upto_region 1 with (fail)
 have K2:=Lib.hid (Blk.fresh W #[.slice A1 l1 n1,.slice (some ⟨de,oo,none⟩) l2 cx,.string c1,.string c2,.string c3,.string c4] 32)
 have q2:=below_new W (.cells #[.slice A1 l1 n1,.slice (some ⟨de,oo,none⟩) l2 cx,.string c1,.string c2,.string c3,.string c4] 32)
 have HSZ:(W.alloc (.cells #[.slice A1 l1 n1,.slice (some ⟨de,oo,none⟩) l2 cx,.string c1,.string c2,.string c3,.string c4] 32)).heap.size=W.heap.size + 1:=by simp
 replace B:=Lib.hid (B.out.trans (q2.mono B.out.size))
 generalize (W.alloc (.cells #[.slice A1 l1 n1,.slice (some ⟨de,oo,none⟩) l2 cx,.string c1,.string c2,.string c3,.string c4] 32))=W1 at *
 have K3:=Lib.hid (Blk.fresh W1 #[.int .i64 5,.int .i64 i,.int .i64 j] 56)
 have q3:=below_new W1 (.cells #[.int .i64 5,.int .i64 i,.int .i64 j] 56)
 replace B:=Lib.hid (B.out.trans (q3.mono B.out.size))
 replace K2:=Lib.hid (K2.out.below q3)
 clear q2 q3
 generalize (W1.alloc (.cells #[.int .i64 5,.int .i64 i,.int .i64 j] 56))=W2 at *
 rw [HSZ] at K3
 clear HSZ
 obtain ⟨b2,hb2e⟩:∃ b2,W.heap.size=b2:=⟨_,rfl⟩
 rw [hb2e] at K2 K3 ⊢
 have HB2E:=Lib.hid hb2e
 clear hb2e
 generalize b2 + 1=b3 at *
 refine wp_tab (.v 13 (.pointer (some ⟨b2,0,none⟩)) :: .v 14 (.slice A1 l1 n1) :: .v 15 (.int .i64 l1) :: .v 16 (.pointer (some ⟨b2,1,none⟩)) :: .v 17 (.slice (some ⟨de,oo,none⟩) l2 cx) :: .v 18 (.int .i64 l2) :: .v 6 (.int .i64 l1) :: .v 7 (.int .i64 l2) :: []) [] [⟨b2,#[.slice A1 l1 n1,.slice (some ⟨de,oo,none⟩) l2 cx,.string c1,.string c2,.string c3,.string c4], 32, none⟩,⟨b3,#[.int .i64 5,.int .i64 i,.int .i64 j], 56, none⟩] [] [] [] [] [] (by kernel_rfl) B.out ⟨K2.out,K3.out,trivial⟩ trivial ⟨pu,ld 0 0,pu,pu,ld 0 1,pu,pu,pu,trivial⟩ ?_
 clear B K2 K3
 rintro σ0 W8 _ ⟨K2,K3,_⟩ _ _ B
 simp only [slotsOf,finX,nval,nvalN,nvalA,Nat.reduceBEq,cond_true,cond_false,putAll,Act.put,List.setIfInBounds_toArray,List.set_cons_succ,List.set_cons_zero]
 have y0:=K2.out.at_ 0 _ rfl
 have y1:=K2.out.at_ 1 _ rfl
 have z0:=K3.out.at_ 0 _ rfl
 have z1:=K3.out.at_ 1 _ rfl
 have z2:=K3.out.at_ 2 _ rfl
 have f3:decide ((i:Int) < 0)=false:=decide_eq_false (by omega)
 have f3x:¬ ((i:Int) < 0):=by omega
 have f4:¬ l1 < i:=by omega
 have f4x:decide (l1 < i)=false:=decide_eq_false f4
 have f5:decide ((j:Int) < 0)=false:=decide_eq_false (by omega)
 have f5x:¬ ((j:Int) < 0):=by omega
 have f6:¬ l2 < j:=by omega
 have f6x:decide (l2 < j)=false:=decide_eq_false f6
 have f7:¬ l1 < ni:=by have:=HNI.out; omega
 have f7x:decide (l1 < ni)=false:=decide_eq_false f7
 have f8:¬ l2 < nj:=by have:=HNI.out; omega
 have f8x:decide (l2 < nj)=false:=decide_eq_false f8
 go_upto_region 24 with (first
  | (go_at_call 32; with_reducible refine (HNX.out _ B.out).mono ?_; rintro e wx ⟨rfl,q⟩; replace K2:=Lib.hid (K2.out.below q); replace K3:=Lib.hid (K3.out.below q); replace B:=Lib.hid (B.out.trans (q.mono B.out.size)); clear q; have y0:=K2.out.at_ 0 _ rfl; have y1:=K2.out.at_ 1 _ rfl; have z0:=K3.out.at_ 0 _ rfl; have z1:=K3.out.at_ 1 _ rfl; have z2:=K3.out.at_ 2 _ rfl)
  | fail "arm")
 clear y0 y1 z0 z1 z2
 refine wp_tab (.v 163 (.pointer (some ⟨b3,2,none⟩)) :: .v 164 (.int .i64 j) :: .v 165 (.bool false) :: .v 166 (.bool false) :: .v 167 (.pointer (some ⟨b2,1,none⟩)) :: .v 168 (.slice (some ⟨de,oo,none⟩) l2 cx) :: .v 169 (.pointer (some ⟨b3,2,none⟩)) :: .v 170 (.int .i64 j) :: .v 171 (.pointer (some ⟨de,oo + j * 3,none⟩)) :: .v 172 (.pointer (some ⟨de,oo + j * 3,none⟩)) :: .v 173 (.string xu) :: .v 174 (.pointer (some ⟨b2,1,none⟩)) :: .v 175 (.slice (some ⟨de,oo,none⟩) l2 cx) :: .v 176 (.pointer (some ⟨b3,2,none⟩)) :: .v 177 (.int .i64 j) :: .v 178 (.int .i64 (m:Nat)) :: .v 179 (.pointer (some ⟨de,oo + m * 3,none⟩)) :: .v 180 (.pointer (some ⟨de,oo + m * 3,none⟩)) :: .v 181 (.string xu) :: .v 182 (.bool false) :: .v 183 (.bool false) :: []) [] [⟨b2,#[.slice A1 l1 n1,.slice (some ⟨de,oo,none⟩) l2 cx,.string c1,.string c2,.string c3,.string c4], 32, none⟩,⟨b3,#[.int .i64 5,.int .i64 i,.int .i64 j], 56, none⟩] [] [] [] [] [] (by kernel_rfl) B.out ⟨K2.out,K3.out,trivial⟩ trivial ⟨pu,ld 1 2,?_,pu,pu,ld 0 1,pu,ld 1 2,?_,pu,?_,pu,ld 0 1,pu,ld 1 2,?_,?_,pu,?_,?_,pu,trivial⟩ ?_
 ·intro L a U ho J hn dd KK kk; refine .free rfl ?_; have r1:=J.read 1 rfl (dd.get 1 rfl); have hne0:=HI1.out; go_simp; exact kk.out _ _ (J.st 2 rfl rfl)
 ·intro L a U ho J hn dd KK kk; refine .pos (s:=166) rfl rfl (J.vals 3 _ _ rfl (dd.get 3 rfl)) ?_; have r5:=J.read 5 rfl (dd.get 5 rfl); have r7:=J.read 7 rfl (dd.get 7 rfl); go_simp; exact kk.out _ _ (J.st 8 rfl rfl)
 ·intro L a U ho J hn dd KK kk; refine .pos (s:=166) rfl rfl (J.vals 3 _ _ rfl (dd.get 3 rfl)) ?_; have r9:=J.read 9 rfl (dd.get 9 rfl); have e0:=(J.bb.cell (p:=⟨de,oo + j * 3,none⟩) hde).trans X0.out; go_simp; exact kk.out _ _ (J.st 10 rfl rfl)
 ·intro L a U ho J hn dd KK kk; refine .pos (s:=166) rfl rfl (J.vals 3 _ _ rfl (dd.get 3 rfl)) ?_; have r14:=J.read 14 rfl (dd.get 14 rfl); have hm1:=HM.out; go_simp; exact kk.out _ _ (J.st 15 rfl rfl)
 ·intro L a U ho J hn dd KK kk; refine .pos (s:=166) rfl rfl (J.vals 3 _ _ rfl (dd.get 3 rfl)) ?_; have r12:=J.read 12 rfl (dd.get 12 rfl); have r15:=J.read 15 rfl (dd.get 15 rfl); have hm2:=HML.out; go_simp; exact kk.out _ _ (J.st 16 rfl rfl)
 ·intro L a U ho J hn dd KK kk; refine .pos (s:=166) rfl rfl (J.vals 3 _ _ rfl (dd.get 3 rfl)) ?_; have r17:=J.read 17 rfl (dd.get 17 rfl); have e0:=(J.bb.cell (p:=⟨de,oo + m * 3,none⟩) hde).trans P0.out; go_simp; exact kk.out _ _ (J.st 18 rfl rfl)
 ·intro L a U ho J hn dd KK kk; refine .pos (s:=166) rfl rfl (J.vals 3 _ _ rfl (dd.get 3 rfl)) ?_; have r10:=J.read 10 rfl (dd.get 10 rfl); have r18:=J.read 18 rfl (dd.get 18 rfl); go_simp; exact kk.out _ _ (J.st 19 rfl rfl)
 clear B K2 K3
 rintro σ1 W7 _ ⟨K2,K3,_⟩ _ _ B
 simp only [slotsOf,finX,nval,nvalN,nvalA,Nat.reduceBEq,cond_true,cond_false,putAll,Act.put,List.setIfInBounds_toArray,List.set_cons_succ,List.set_cons_zero]
 have y0:=K2.out.at_ 0 _ rfl
 have y1:=K2.out.at_ 1 _ rfl
 have z0:=K3.out.at_ 0 _ rfl
 have z1:=K3.out.at_ 1 _ rfl
 have z2:=K3.out.at_ 2 _ rfl
 go_upto_region 26 with (fail)
 clear y0 y1 z0 z1 z2
 clear f3 f3x f4 f4x f5 f5x f6 f6x f7 f7x f8 f8x
 refine wp_tab (.v 184 (.pointer (some ⟨b2,2,none⟩)) :: .v 185 (.pointer (some ⟨b2,5,none⟩)) :: .v 186 (.string c4) :: .v 187 (.pointer (some ⟨b2,1,none⟩)) :: .v 188 (.slice (some ⟨de,oo,none⟩) l2 cx) :: .v 189 (.pointer (some ⟨b3,2,none⟩)) :: .v 190 (.int .i64 j) :: .v 191 (.pointer (some ⟨de,oo + j * 3,none⟩)) :: .v 192 (.agg #[.string xu,.string xf,.string xt]) :: .v 193 (.string tk) :: .v 194 (.string tr) :: .v 4 (.string tr) :: .v 5 (.int .i64 0) :: []) [] [⟨b2,#[.slice A1 l1 n1,.slice (some ⟨de,oo,none⟩) l2 cx,.string c1,.string c2,.string c3,.string c4], 32, none⟩,⟨b3,#[.int .i64 5,.int .i64 i,.int .i64 j], 56, none⟩] [] [] [] [] [] (by kernel_rfl) B.out ⟨K2.out,K3.out,trivial⟩ trivial ⟨pu,pu,ld 0 5,pu,ld 0 1,pu,ld 1 2,?_,?_,cl HTH.out,cl HMU.out,pu,pu,trivial⟩ ?_
 ·intro L a U ho J hn dd KK kk; refine .free rfl ?_; have r4:=J.read 4 rfl (dd.get 4 rfl); have r6:=J.read 6 rfl (dd.get 6 rfl); go_simp; exact kk.out _ _ (J.st 7 rfl rfl)
 ·intro L a U ho J hn dd KK kk; refine .free rfl ?_; have r7:=J.read 7 rfl (dd.get 7 rfl); have e0:=(J.bb.cell (p:=⟨de,oo + j * 3,none⟩) hde).trans X0.out; have e1:=(J.bb.cell (p:=⟨de,oo + j * 3 + 1,none⟩) hde).trans X1.out; have e2:=(J.bb.cell (p:=⟨de,oo + j * 3 + 2,none⟩) hde).trans X2.out; go_simp; exact kk.out _ _ (J.st 8 rfl rfl)
 rintro σ W9 _ _ _ _ B9
 simp only [slotsOf,finX,nval,nvalN,nvalA,Nat.reduceBEq,cond_true,cond_false,putAll,Act.put,List.setIfInBounds_toArray,List.set_cons_succ,List.set_cons_zero]
 go_wp2
 go_ret2
 exact ⟨rfl,B9.out⟩

end Go.Proofs.YthhkmihjnnfpgaaGreatDoor

/- The law's cost of a match; of whatever right step. -/
namespace Go.Proofs.YthhkmihjnnfpgaaGreatDoor
set_option linter.all false
open Go.RowKit

attribute [local go_sem] Oper.semAt_some

set_option maxRecDepth 100000 in
set_option maxHeartbeats 4000000 in
theorem lcost_1 (q:CQ) (ok:OkQ q) (i j:Nat) (hi:i < q.L.length) (hj:j < q.R.length) (sl sr:Value) (w:World) (he:Env w) (hq:QAt w sl sr q) :
  Ret Tryz.prog w 24 #[.agg #[sl,sr,.string (qT (2 * q.ch)),.string (qT (2 * q.mi)),.string (qT (2 * q.ga)),.string (qT (2 * q.re))],.agg #[.int .i64 1,.int .i64 i,.int .i64 j]] (.tuple #[.string (qT (cst q 1 i j)),.int .i64 0]):=by
 intro W hW
 have hdd0:=hW.size
 obtain ⟨dx,ox,cx,rfl,hdx,q1⟩:=hq.l.cell i hi
 obtain ⟨dy,oy,cy,rfl,hdy,q2⟩:=hq.r.cell j hj
 have hx:=ok.okl i hi
 have hy:=ok.okr j hj
 have hc:Hid (cst q 1 i j=q.ch * (((q.L[i].t - q.L[i].f) - (q.R[j].t - q.R[j].f)).natAbs:Int) + (if q.L[i].u=q.R[j].u then 0 else q.mi * ((q.L[i].t - q.L[i].f) + (q.R[j].t - q.R[j].f)))):=by
  show _=_
  unfold cst thk unt
  rw [List.getElem?_eq_getElem hi,List.getElem?_eq_getElem hj]
  rfl
 generalize hce:cst q 1 i j=cc at *
 have k1:=ok.ch
 have k2:=ok.mi
 generalize q.L[i]=x at *
 generalize q.R[j]=y at *
 obtain ⟨_,x1,x2,x3,_,_⟩:=hx
 obtain ⟨_,y1,y2,y3,_,_⟩:=hy
 have up:∀ W',Below W.heap.size W W'→Below w.heap.size w W':=fun W' h=>hW.trans (h.mono hW.size)
 have HT1:=Lib.hid (fun W' (h:Below W.heap.size W W')=>lthick_any x.u x.f x.t (by omega) (by omega) w he W' (up W' h))
 have HT2:=Lib.hid (fun W' (h:Below W.heap.size W W')=>lthick_any y.u y.f y.t (by omega) (by omega) w he W' (up W' h))
 have hm1:(q.ch * (((x.t - x.f) - (y.t - y.f)).natAbs:Int)).natAbs < 100000:=by
  have e:=Int.natAbs_mul q.ch (((x.t - x.f) - (y.t - y.f)).natAbs:Int)
  have:=Nat.mul_le_mul (show q.ch.natAbs≤20 by omega) (show ((((x.t - x.f) - (y.t - y.f)).natAbs:Int)).natAbs≤1000 by omega)
  omega
 have hm2:(q.mi * ((x.t - x.f) + (y.t - y.f))).natAbs < 100000:=by
  have e:=Int.natAbs_mul q.mi ((x.t - x.f) + (y.t - y.f))
  have:=Nat.mul_le_mul (show q.mi.natAbs≤20 by omega) (show ((x.t - x.f) + (y.t - y.f)).natAbs≤2000 by omega)
  omega
 have HSU:=Lib.hid (fun W' (h:Below W.heap.size W W')=>rSubQ (2 * (x.t - x.f)) (2 * (y.t - y.f)) (by omega) (by omega) w he W' (up W' h))
 rw [show 2 * (x.t - x.f) - 2 * (y.t - y.f)=2 * ((x.t - x.f) - (y.t - y.f)) by omega] at HSU
 have HAB:=Lib.hid (fun W' (h:Below W.heap.size W W')=>rAbsQ (2 * ((x.t - x.f) - (y.t - y.f))) w he W' (up W' h))
 rw [show ((2 * ((x.t - x.f) - (y.t - y.f))).natAbs:Int)=2 * (((x.t - x.f) - (y.t - y.f)).natAbs:Int) by omega] at HAB
 have HM1:=Lib.hid (fun W' (h:Below W.heap.size W W')=>rMulQ q.ch (((x.t - x.f) - (y.t - y.f)).natAbs:Int) (by omega) (by omega) w he W' (up W' h))
 have HAD:=Lib.hid (fun W' (h:Below W.heap.size W W')=>rAddQ (2 * (x.t - x.f)) (2 * (y.t - y.f)) (by omega) (by omega) w he W' (up W' h))
 rw [show 2 * (x.t - x.f) + 2 * (y.t - y.f)=2 * ((x.t - x.f) + (y.t - y.f)) by omega] at HAD
 have HM2:=Lib.hid (fun W' (h:Below W.heap.size W W')=>rMulQ q.mi ((x.t - x.f) + (y.t - y.f)) (by omega) (by omega) w he W' (up W' h))
 have HA2:=Lib.hid (fun W' (h:Below W.heap.size W W')=>rAddQ (q.ch * (((x.t - x.f) - (y.t - y.f)).natAbs:Int)) (q.mi * ((x.t - x.f) + (y.t - y.f))) (by omega) (by omega) w he W' (up W' h))
 have hcq:Hid (qT cc=if x.u=y.u then qT (q.ch * (((x.t - x.f) - (y.t - y.f)).natAbs:Int)) else qT (q.ch * (((x.t - x.f) - (y.t - y.f)).natAbs:Int) + q.mi * ((x.t - x.f) + (y.t - y.f)))):=by
  show _=_
  rw [hc.out]
  split
  ·rw [Int.add_zero]
  ·rfl
 have X0:Hid (W.cell? ⟨dx,ox + i * 3,none⟩=some (.string x.u)):=Lib.hid ((hW.cell (p:=⟨dx,ox + i * 3,none⟩) hdx).trans (q1 0 _ rfl))
 have X1:Hid (W.cell? ⟨dx,ox + i * 3 + 1,none⟩=some (.string (qT (2 * x.f)))):=Lib.hid ((hW.cell (p:=⟨dx,ox + i * 3 + 1,none⟩) hdx).trans (q1 1 _ rfl))
 have X2:Hid (W.cell? ⟨dx,ox + i * 3 + 2,none⟩=some (.string (qT (2 * x.t)))):=Lib.hid ((hW.cell (p:=⟨dx,ox + i * 3 + 2,none⟩) hdx).trans (q1 2 _ rfl))
 have Y0:Hid (W.cell? ⟨dy,oy + j * 3,none⟩=some (.string y.u)):=Lib.hid ((hW.cell (p:=⟨dy,oy + j * 3,none⟩) hdy).trans (q2 0 _ rfl))
 have Y1:Hid (W.cell? ⟨dy,oy + j * 3 + 1,none⟩=some (.string (qT (2 * y.f)))):=Lib.hid ((hW.cell (p:=⟨dy,oy + j * 3 + 1,none⟩) hdy).trans (q2 1 _ rfl))
 have Y2:Hid (W.cell? ⟨dy,oy + j * 3 + 2,none⟩=some (.string (qT (2 * y.t)))):=Lib.hid ((hW.cell (p:=⟨dy,oy + j * 3 + 2,none⟩) hdy).trans (q2 2 _ rfl))
 replace hdx:dx < W.heap.size:=Nat.lt_of_lt_of_le hdx hdd0
 replace hdy:dy < W.heap.size:=Nat.lt_of_lt_of_le hdy hdd0
 have hii:(i:Int) < (q.L.length:Int):=by omega
 have hjj:(j:Int) < (q.R.length:Int):=by omega
 have hl6:=ok.hl
 have hr6:=ok.hr
 have HNX:=Lib.hid (lafter_any 1 i j (by omega) (by omega) W)
 rw [show nzI 1 i=(nxI 1 i:Int) from nzI_nat 1 i,show nzJ 1 j=(nxJ 1 j:Int) from nzJ_nat 1 j (by omega)] at HNX
 have HNI:Hid (nxI 1 i≤q.L.length∧nxJ 1 j≤q.R.length):=Lib.hid ⟨hi,hj⟩
 generalize nxI 1 i=ni at *
 generalize nxJ 1 j=nj at *
 have B:=Lib.hid (Below.refl W.heap.size W)
 clear ok hq he hc hce k1 k2 x1 x2 x3 y1 y2 y3 hm1 hm2 q1 q2 hdd0 hi hj up hW
 have hu:=ba_beq x.u y.u
 have HUE:Hid (decide (x.u=y.u)=true→qT cc=qT (q.ch * (((x.t - x.f) - (y.t - y.f)).natAbs:Int))):=Lib.hid (fun h=>by rw [hcq.out,if_pos (of_decide_eq_true h)])
 have HUN:Hid (decide (x.u=y.u)=false→qT cc=qT (q.ch * (((x.t - x.f) - (y.t - y.f)).natAbs:Int) + q.mi * ((x.t - x.f) + (y.t - y.f)))):=Lib.hid (fun h=>by rw [hcq.out,if_neg (of_decide_eq_false h)])
 clear hcq
 generalize decide (x.u=y.u)=ue at *
 generalize qT cc=rr at *
 generalize x.u=xu at *
 generalize y.u=yu at *
 generalize qT (q.ch * (((x.t - x.f) - (y.t - y.f)).natAbs:Int) + q.mi * ((x.t - x.f) + (y.t - y.f)))=r2 at *
 generalize qT (q.ch * (((x.t - x.f) - (y.t - y.f)).natAbs:Int))=m1 at *
 generalize qT (q.mi * ((x.t - x.f) + (y.t - y.f)))=m2 at *
 generalize qT (2 * (((x.t - x.f) - (y.t - y.f)).natAbs:Int))=a1 at *
 generalize qT (2 * ((x.t - x.f) - (y.t - y.f)))=s1 at *
 generalize qT (2 * ((x.t - x.f) + (y.t - y.f)))=s2 at *
 generalize qT (2 * (x.t - x.f))=t1 at *
 generalize qT (2 * (y.t - y.f))=t2 at *
 generalize qT (2 * x.f)=xf at *
 generalize qT (2 * x.t)=xt at *
 generalize qT (2 * y.f)=yf at *
 generalize qT (2 * y.t)=yt at *
 generalize q.L.length=l1 at *
 generalize q.R.length=l2 at *
 generalize qT (2 * q.ch)=c1 at *
 generalize qT (2 * q.mi)=c2 at *
 generalize qT (2 * q.ga)=c3 at *
 generalize qT (2 * q.re)=c4 at *
 go_enter Tryz.func24, Tryz.ntmps24
 go_upto_region 1 with (fail)
 have K2:=Lib.hid (Blk.fresh W #[.slice (some ⟨dx,ox,none⟩) l1 cx,.slice (some ⟨dy,oy,none⟩) l2 cy,.string c1,.string c2,.string c3,.string c4] 32)
 have q2:=below_new W (.cells #[.slice (some ⟨dx,ox,none⟩) l1 cx,.slice (some ⟨dy,oy,none⟩) l2 cy,.string c1,.string c2,.string c3,.string c4] 32)
 have HSZ:(W.alloc (.cells #[.slice (some ⟨dx,ox,none⟩) l1 cx,.slice (some ⟨dy,oy,none⟩) l2 cy,.string c1,.string c2,.string c3,.string c4] 32)).heap.size=W.heap.size + 1:=by simp
 replace B:=Lib.hid (B.out.trans (q2.mono B.out.size))
 generalize (W.alloc (.cells #[.slice (some ⟨dx,ox,none⟩) l1 cx,.slice (some ⟨dy,oy,none⟩) l2 cy,.string c1,.string c2,.string c3,.string c4] 32))=W1 at *
 have K3:=Lib.hid (Blk.fresh W1 #[.int .i64 1,.int .i64 i,.int .i64 j] 56)
 have q3:=below_new W1 (.cells #[.int .i64 1,.int .i64 i,.int .i64 j] 56)
 replace B:=Lib.hid (B.out.trans (q3.mono B.out.size))
 replace K2:=Lib.hid (K2.out.below q3)
 clear q2 q3
 generalize (W1.alloc (.cells #[.int .i64 1,.int .i64 i,.int .i64 j] 56))=W2 at *
 rw [HSZ] at K3
 clear HSZ
 obtain ⟨b2,hb2e⟩:∃ b2,W.heap.size=b2:=⟨_,rfl⟩
 rw [hb2e] at K2 K3 ⊢
 have HB2E:=Lib.hid hb2e
 clear hb2e
 generalize b2 + 1=b3 at *
 refine wp_tab (.v 13 (.pointer (some ⟨b2,0,none⟩)) :: .v 14 (.slice (some ⟨dx,ox,none⟩) l1 cx) :: .v 15 (.int .i64 l1) :: .v 16 (.pointer (some ⟨b2,1,none⟩)) :: .v 17 (.slice (some ⟨dy,oy,none⟩) l2 cy) :: .v 18 (.int .i64 l2) :: .v 6 (.int .i64 l1) :: .v 7 (.int .i64 l2) :: []) [] [⟨b2,#[.slice (some ⟨dx,ox,none⟩) l1 cx,.slice (some ⟨dy,oy,none⟩) l2 cy,.string c1,.string c2,.string c3,.string c4], 32, none⟩,⟨b3,#[.int .i64 1,.int .i64 i,.int .i64 j], 56, none⟩] [] [] [] [] [] (by kernel_rfl) B.out ⟨K2.out,K3.out,trivial⟩ trivial ⟨pu,ld 0 0,pu,pu,ld 0 1,pu,pu,pu,trivial⟩ ?_
 clear B K2 K3
 rintro σ0 W8 _ ⟨K2,K3,_⟩ _ _ B
 simp only [slotsOf,finX,nval,nvalN,nvalA,Nat.reduceBEq,cond_true,cond_false,putAll,Act.put,List.setIfInBounds_toArray,List.set_cons_succ,List.set_cons_zero]
 have y0:=K2.out.at_ 0 _ rfl
 have y1:=K2.out.at_ 1 _ rfl
 have z0:=K3.out.at_ 0 _ rfl
 have z1:=K3.out.at_ 1 _ rfl
 have z2:=K3.out.at_ 2 _ rfl
 have f3:decide ((i:Int) < 0)=false:=decide_eq_false (by omega)
 have f3x:¬ ((i:Int) < 0):=by omega
 have f4:¬ l1 < i:=by omega
 have f4x:decide (l1 < i)=false:=decide_eq_false f4
 have f5:decide ((j:Int) < 0)=false:=decide_eq_false (by omega)
 have f5x:¬ ((j:Int) < 0):=by omega
 have f6:¬ l2 < j:=by omega
 have f6x:decide (l2 < j)=false:=decide_eq_false f6
 have f7:¬ l1 < ni:=by have:=HNI.out; omega
 have f7x:decide (l1 < ni)=false:=decide_eq_false f7
 have f8:¬ l2 < nj:=by have:=HNI.out; omega
 have f8x:decide (l2 < nj)=false:=decide_eq_false f8
 go_upto_region 11 with (first
  | (go_at_call 32; with_reducible refine (HNX.out _ B.out).mono ?_; rintro e wx ⟨rfl,q⟩; replace K2:=Lib.hid (K2.out.below q); replace K3:=Lib.hid (K3.out.below q); replace B:=Lib.hid (B.out.trans (q.mono B.out.size)); clear q; have y0:=K2.out.at_ 0 _ rfl; have y1:=K2.out.at_ 1 _ rfl; have z0:=K3.out.at_ 0 _ rfl; have z1:=K3.out.at_ 1 _ rfl; have z2:=K3.out.at_ 2 _ rfl)
  | fail "arm")
 clear f3 f3x f4 f4x f5 f5x f6 f6x f7 f7x f8 f8x
 clear y0 y1 z0 z1 z2
 have lt2:=K2.out.lt
 have lt3:=K3.out.lt
 refine wp_tab (.v 64 (.pointer (some ⟨b2,0,none⟩)) :: .v 65 (.slice (some ⟨dx,ox,none⟩) l1 cx) :: .v 66 (.pointer (some ⟨b3,1,none⟩)) :: .v 67 (.int .i64 i) :: .v 68 (.pointer (some ⟨dx,ox + i * 3,none⟩)) :: .v 69 (.agg #[.string xu,.string xf,.string xt]) :: .v 70 (.pointer (some ⟨b2,1,none⟩)) :: .v 71 (.slice (some ⟨dy,oy,none⟩) l2 cy) :: .v 72 (.pointer (some ⟨b3,2,none⟩)) :: .v 73 (.int .i64 j) :: .v 74 (.pointer (some ⟨dy,oy + j * 3,none⟩)) :: .v 75 (.agg #[.string yu,.string yf,.string yt]) :: .n 10 :: .n 11 :: .z :: .z :: []) [⟨12,10,fun g=>.pointer (some ⟨g,0,none⟩),#[.string ⟨#[]⟩,.string ⟨#[]⟩,.string ⟨#[]⟩], 86, some (14,#[.string xu,.string xf,.string xt])⟩,⟨13,11,fun g=>.pointer (some ⟨g,0,none⟩),#[.string ⟨#[]⟩,.string ⟨#[]⟩,.string ⟨#[]⟩], 86, some (15,#[.string yu,.string yf,.string yt])⟩] [⟨b2,#[.slice (some ⟨dx,ox,none⟩) l1 cx,.slice (some ⟨dy,oy,none⟩) l2 cy,.string c1,.string c2,.string c3,.string c4], 32, none⟩,⟨b3,#[.int .i64 1,.int .i64 i,.int .i64 j], 56, none⟩] [] [(14,12),(15,13)] [(0,1)] [] [] (by kernel_rfl) B.out ⟨K2.out,K3.out,trivial⟩ trivial ⟨pu,ld 0 0,pu,ld 1 1,?_,?_,pu,ld 0 1,pu,ld 1 2,?_,?_,ml 0,ml 1,?_,?_,trivial⟩ ?_
 ·intro L a U ho J hn dd KK kk; refine .free rfl ?_; have r1:=J.read 1 rfl (dd.get 1 rfl); have r3:=J.read 3 rfl (dd.get 3 rfl); go_simp; exact kk.out _ _ (J.st 4 rfl rfl)
 ·intro L a U ho J hn dd KK kk; refine .free rfl ?_; have r4:=J.read 4 rfl (dd.get 4 rfl); have e0:=(J.bb.cell (p:=⟨dx,ox + i * 3,none⟩) hdx).trans X0.out; have e1:=(J.bb.cell (p:=⟨dx,ox + i * 3 + 1,none⟩) hdx).trans X1.out; have e2:=(J.bb.cell (p:=⟨dx,ox + i * 3 + 2,none⟩) hdx).trans X2.out; go_simp; exact kk.out _ _ (J.st 5 rfl rfl)
 ·intro L a U ho J hn dd KK kk; refine .free rfl ?_; have r7:=J.read 7 rfl (dd.get 7 rfl); have r9:=J.read 9 rfl (dd.get 9 rfl); go_simp; exact kk.out _ _ (J.st 10 rfl rfl)
 ·intro L a U ho J hn dd KK kk; refine .free rfl ?_; have r10:=J.read 10 rfl (dd.get 10 rfl); have e0:=(J.bb.cell (p:=⟨dy,oy + j * 3,none⟩) hdy).trans Y0.out; have e1:=(J.bb.cell (p:=⟨dy,oy + j * 3 + 1,none⟩) hdy).trans Y1.out; have e2:=(J.bb.cell (p:=⟨dy,oy + j * 3 + 2,none⟩) hdy).trans Y2.out; go_simp; exact kk.out _ _ (J.st 11 rfl rfl)
 ·intro L a U ho J hn dd KK kk; refine .free rfl ?_; have r5:a.tmps[(10:Nat)]?.getD undef=.pointer (some ⟨(blkOf (slotOf a 10)),0,none⟩):=J.readN 0 rfl (dd.get 12 rfl); have r5:=J.read 5 rfl (dd.get 5 rfl); have kb:=(J.nwB 0 rfl (dd.get 12 rfl) hn).blk; have c0:=kb.at_ 0 _ rfl; have z0:=kb.free 0; have c1:=kb.at_ 1 _ rfl; have z1:=kb.free 1; have c2:=kb.at_ 2 _ rfl; have z2:=kb.free 2; clear kb; go_simp; exact kk.out undef _ (J.storedN 14 0 rfl rfl rfl rfl rfl 0 [.string xu,.string xf,.string xt] rfl ⟨lt2,lt3,trivial⟩ (dd.get 12 rfl) hn ⟨.inr (dd.get 12 rfl),.inl (by decide),trivial⟩)
 ·intro L a U ho J hn dd KK kk; refine .free rfl ?_; have r6:a.tmps[(11:Nat)]?.getD undef=.pointer (some ⟨(blkOf (slotOf a 11)),0,none⟩):=J.readN 1 rfl (dd.get 13 rfl); have r11:=J.read 11 rfl (dd.get 11 rfl); have kb:=(J.nwB 1 rfl (dd.get 13 rfl) hn).blk; have c0:=kb.at_ 0 _ rfl; have z0:=kb.free 0; have c1:=kb.at_ 1 _ rfl; have z1:=kb.free 1; have c2:=kb.at_ 2 _ rfl; have z2:=kb.free 2; clear kb; go_simp; exact kk.out undef _ (J.storedN 15 1 rfl rfl rfl rfl rfl 0 [.string yu,.string yf,.string yt] rfl ⟨lt2,lt3,trivial⟩ (dd.get 13 rfl) hn ⟨.inl (by decide),.inr (dd.get 13 rfl),trivial⟩)
 clear K2 K3 B lt2 lt3 X0 X1 X2 Y0 Y1 Y2 hii hjj
 rintro σ W9 ⟨⟨_,K5⟩,⟨_,K6⟩,_⟩ ⟨K2,K3,_⟩ _ _ B
 simp only [slotsOf,finX,nval,nvalN,nvalA,Nat.reduceBEq,cond_true,cond_false,putAll,Act.put,List.setIfInBounds_toArray,List.set_cons_succ,List.set_cons_zero]
 generalize blkOf (σ 10)=b5 at *
 generalize blkOf (σ 11)=b6 at *
 go_upto_region 12 with (fail)
 refine wp_tab (.v 76 (.pointer (some ⟨b2,2,none⟩)) :: .v 77 (.pointer (some ⟨b2,2,none⟩)) :: .v 78 (.string c1) :: .v 79 (.agg #[.string xu,.string xf,.string xt]) :: .v 80 (.string t1) :: .v 81 (.agg #[.string yu,.string yf,.string yt]) :: .v 82 (.string t2) :: .v 83 (.string s1) :: .v 84 (.string a1) :: .v 85 (.string m1) :: .v 12 (.string m1) :: []) [] [⟨b2,#[.slice (some ⟨dx,ox,none⟩) l1 cx,.slice (some ⟨dy,oy,none⟩) l2 cy,.string c1,.string c2,.string c3,.string c4], 32, none⟩,⟨b5,#[.string xu,.string xf,.string xt], 86, none⟩,⟨b6,#[.string yu,.string yf,.string yt], 86, none⟩] [] [] [] [] [] (by kernel_rfl) B.out ⟨K2.out,K5.out,K6.out,trivial⟩ trivial ⟨pu,pu,ld 0 2,ld 1 0,cl HT1.out,ld 2 0,cl HT2.out,cl HSU.out,cl HAB.out,cl HM1.out,pu,trivial⟩ ?_
 clear K2 K5 K6 B HSU HAB HM1
 rintro σ2 W10 _ ⟨K2,K5,K6,_⟩ _ _ B
 simp only [slotsOf,finX,nval,nvalN,nvalA,Nat.reduceBEq,cond_true,cond_false,putAll,Act.put,List.setIfInBounds_toArray,List.set_cons_succ,List.set_cons_zero]
 have x0:=K5.out.at_ 0 _ rfl
 have w0:=K6.out.at_ 0 _ rfl
 cases ue with
 | true =>
  have hr:=HUE.out rfl
  subst hr
  go_wp2
  go_ret2
  exact ⟨rfl,B.out⟩
 | false =>
  have hr:=HUN.out rfl
  subst hr
  go_upto_region 14 with (fail)
  clear x0 w0
  refine wp_tab (.v 91 (.string m1) :: .v 92 (.pointer (some ⟨b2,2,none⟩)) :: .v 93 (.pointer (some ⟨b2,3,none⟩)) :: .v 94 (.string c2) :: .v 95 (.agg #[.string xu,.string xf,.string xt]) :: .v 96 (.string t1) :: .v 97 (.agg #[.string yu,.string yf,.string yt]) :: .v 98 (.string t2) :: .v 99 (.string s2) :: .v 100 (.string m2) :: .v 101 (.string rr) :: .v 12 (.string rr) :: []) [] [⟨b2,#[.slice (some ⟨dx,ox,none⟩) l1 cx,.slice (some ⟨dy,oy,none⟩) l2 cy,.string c1,.string c2,.string c3,.string c4], 32, none⟩,⟨b5,#[.string xu,.string xf,.string xt], 86, none⟩,⟨b6,#[.string yu,.string yf,.string yt], 86, none⟩] [] [(11,0)] [] [] [(12,11,.string m1)] (by kernel_rfl) B.out ⟨K2.out,K5.out,K6.out,trivial⟩ ⟨rfl,trivial⟩ ⟨?_,pu,pu,ld 0 3,ld 1 0,cl HT1.out,ld 2 0,cl HT2.out,cl HAD.out,cl HM2.out,cl HA2.out,?_,trivial⟩ ?_
  ·intro L a U ho J hn dd KK kk; refine .free rfl ?_; have r7:a.tmps[(12:Nat)]?.getD undef=.string m1:=J.readP 0 rfl (fun h=>hn (J.ord 0 _ rfl h)); go_simp; exact kk.out _ _ (J.st 0 rfl rfl)
  ·intro L a U ho J hn dd KK kk; refine .free rfl ?_; have r49:=J.read 10 rfl (dd.get 10 rfl); go_simp; exact kk.out _ _ (J.sto 11 rfl rfl ⟨.inr (dd.get 0 rfl),trivial⟩ (Below.refl _ _))
  rintro σ3 W11 _ _ _ _ B11
  simp only [slotsOf,finX,nval,nvalN,nvalA,Nat.reduceBEq,cond_true,cond_false,putAll,Act.put,List.setIfInBounds_toArray,List.set_cons_succ,List.set_cons_zero]
  go_wp2
  go_ret2
  exact ⟨rfl,B11.out⟩

theorem lcost_ok (q:CQ) (ok:OkQ q) (k i j:Nat) (hk:1≤k∧k≤5) (hi:i≤q.L.length) (hj:j≤q.R.length) (hs:okS q k i j) (sl sr:Value) (w:World) (he:Env w) (hq:QAt w sl sr q) :
  Ret Tryz.prog w 24 #[.agg #[sl,sr,.string (qT (2 * q.ch)),.string (qT (2 * q.mi)),.string (qT (2 * q.ga)),.string (qT (2 * q.re))],.agg #[.int .i64 k,.int .i64 i,.int .i64 j]] (.tuple #[.string (qT (cst q k i j)),.int .i64 0]):=by
 have hs':=hs
 obtain ⟨h1,h2,_,_⟩:=hs'
 rcases (show k=1 ∨ k=2 ∨ k=3 ∨ k=4 ∨ k=5 by omega) with rfl | rfl | rfl | rfl | rfl
 ·exact lcost_1 q ok i j h1 h2 sl sr w he hq
 ·exact lcost_2 q ok i j hi hj hs h1 sl sr w he hq
 ·exact lcost_3 q ok i j hi hj hs h2 sl sr w he hq
 ·exact lcost_4 q ok i j hi hj hs h1 sl sr w he hq
 ·exact lcost_5 q ok i j hi hj hs h2 sl sr w he hq

end Go.Proofs.YthhkmihjnnfpgaaGreatDoor

/- The law's cost: steps that do not repeat. -/
namespace Go.Proofs.YthhkmihjnnfpgaaGreatDoor
set_option linter.all false
open Go.RowKit

attribute [local go_sem] Oper.semAt_some

set_option maxRecDepth 100000 in
set_option maxHeartbeats 4000000 in
theorem lcost_4z (q:CQ) (ok:OkQ q) (i j:Nat) (hi:i≤q.L.length) (hj:j≤q.R.length) (hi0:i=0) (hlt:i < q.L.length) (sl sr:Value) (w:World) (he:Env w) (hq:QAt w sl sr q) :
  Ret Tryz.prog w 24 #[.agg #[sl,sr,.string (qT (2 * q.ch)),.string (qT (2 * q.mi)),.string (qT (2 * q.ga)),.string (qT (2 * q.re))],.agg #[.int .i64 4,.int .i64 i,.int .i64 j]] (.tuple #[.string ⟨#[]⟩,.int .i64 7]):=by
 intro W hW
 have hdd0:=hW.size
 obtain ⟨de,oo,cx,rfl,hde,q1⟩:=hq.l.cell i hlt
 have HI1:Hid (((i:Int) == 0)=true):=Lib.hid (by rw [beq_iff_eq]; omega)
 clear hi0
 obtain ⟨A2,n2,rfl,_⟩:=hq.r
 have hx:=ok.okl i hlt
 have hc:cst q 4 i j=q.re * (q.L[i].t - q.L[i].f):=by
  unfold cst thk
  rw [List.getElem?_eq_getElem hlt]
  rfl
 have hcc:=ok.re
 generalize hxe:q.L[i]=x at *
 obtain ⟨_,x1,x2,x3,_,_⟩:=hx
 have HTH:=Lib.hid (fun W' (h:Below W.heap.size W W')=>lthick_any x.u x.f x.t (by omega) (by omega) w he W' (hW.trans (h.mono hW.size)))
 have HMU:=Lib.hid (fun W' (h:Below W.heap.size W W')=>rMulQ q.re (x.t - x.f) (by omega) (by omega) w he W' (hW.trans (h.mono hW.size)))
 have X0:Hid (W.cell? ⟨de,oo + i * 3,none⟩=some (.string x.u)):=Lib.hid ((hW.cell (p:=⟨de,oo + i * 3,none⟩) hde).trans (q1 0 _ rfl))
 have X1:Hid (W.cell? ⟨de,oo + i * 3 + 1,none⟩=some (.string (qT (2 * x.f)))):=Lib.hid ((hW.cell (p:=⟨de,oo + i * 3 + 1,none⟩) hde).trans (q1 1 _ rfl))
 have X2:Hid (W.cell? ⟨de,oo + i * 3 + 2,none⟩=some (.string (qT (2 * x.t)))):=Lib.hid ((hW.cell (p:=⟨de,oo + i * 3 + 2,none⟩) hde).trans (q1 2 _ rfl))
 replace hde:de < W.heap.size:=Nat.lt_of_lt_of_le hde hdd0
 have hll:=ok.hl
 have hrr:=ok.hr
 have hii:(i:Int) < (q.L.length:Int):=by omega
 have HNX:=Lib.hid (lafter_any 4 i j (by omega) (by omega) W)
 rw [show nzI 4 i=(nxI 4 i:Int) from nzI_nat 4 i,show nzJ 4 j=(nxJ 4 j:Int) from nzJ_nat 4 j (by omega)] at HNX
 have HNI:Hid (nxI 4 i≤q.L.length∧nxJ 4 j≤q.R.length):=Lib.hid ⟨hlt,hj⟩
 generalize nxI 4 i=ni at *
 generalize nxJ 4 j=nj at *
 have B:=Lib.hid (Below.refl W.heap.size W)
 clear ok hq he hcc x1 x2 x3 hc q1 hdd0 hlt hW hxe
 generalize x.u=xu at *
 generalize qT (2 * x.f)=xf at *
 generalize qT (2 * x.t)=xt at *
 generalize qT (q.re * (x.t - x.f))=tr at *
 generalize qT (2 * (x.t - x.f))=tk at *
 generalize q.L.length=l1 at *
 generalize q.R.length=l2 at *
 generalize qT (2 * q.ch)=c1 at *
 generalize qT (2 * q.mi)=c2 at *
 generalize qT (2 * q.ga)=c3 at *
 generalize qT (2 * q.re)=c4 at *
 go_enter Tryz.func24, Tryz.ntmps24
 go_upto_region 1 with (fail)
 have K2:=Lib.hid (Blk.fresh W #[.slice (some ⟨de,oo,none⟩) l1 cx,.slice A2 l2 n2,.string c1,.string c2,.string c3,.string c4] 32)
 have q2:=below_new W (.cells #[.slice (some ⟨de,oo,none⟩) l1 cx,.slice A2 l2 n2,.string c1,.string c2,.string c3,.string c4] 32)
 have HSZ:(W.alloc (.cells #[.slice (some ⟨de,oo,none⟩) l1 cx,.slice A2 l2 n2,.string c1,.string c2,.string c3,.string c4] 32)).heap.size=W.heap.size + 1:=by simp
 replace B:=Lib.hid (B.out.trans (q2.mono B.out.size))
 generalize (W.alloc (.cells #[.slice (some ⟨de,oo,none⟩) l1 cx,.slice A2 l2 n2,.string c1,.string c2,.string c3,.string c4] 32))=W1 at *
 have K3:=Lib.hid (Blk.fresh W1 #[.int .i64 4,.int .i64 i,.int .i64 j] 56)
 have q3:=below_new W1 (.cells #[.int .i64 4,.int .i64 i,.int .i64 j] 56)
 replace B:=Lib.hid (B.out.trans (q3.mono B.out.size))
 replace K2:=Lib.hid (K2.out.below q3)
 clear q2 q3
 generalize (W1.alloc (.cells #[.int .i64 4,.int .i64 i,.int .i64 j] 56))=W2 at *
 rw [HSZ] at K3
 clear HSZ
 obtain ⟨b2,hb2e⟩:∃ b2,W.heap.size=b2:=⟨_,rfl⟩
 rw [hb2e] at K2 K3 ⊢
 have HB2E:=Lib.hid hb2e
 clear hb2e
 generalize b2 + 1=b3 at *
 refine wp_tab (.v 13 (.pointer (some ⟨b2,0,none⟩)) :: .v 14 (.slice (some ⟨de,oo,none⟩) l1 cx) :: .v 15 (.int .i64 l1) :: .v 16 (.pointer (some ⟨b2,1,none⟩)) :: .v 17 (.slice A2 l2 n2) :: .v 18 (.int .i64 l2) :: .v 6 (.int .i64 l1) :: .v 7 (.int .i64 l2) :: []) [] [⟨b2,#[.slice (some ⟨de,oo,none⟩) l1 cx,.slice A2 l2 n2,.string c1,.string c2,.string c3,.string c4], 32, none⟩,⟨b3,#[.int .i64 4,.int .i64 i,.int .i64 j], 56, none⟩] [] [] [] [] [] (by kernel_rfl) B.out ⟨K2.out,K3.out,trivial⟩ trivial ⟨pu,ld 0 0,pu,pu,ld 0 1,pu,pu,pu,trivial⟩ ?_
 clear B K2 K3
 rintro σ0 W8 _ ⟨K2,K3,_⟩ _ _ B
 simp only [slotsOf,finX,nval,nvalN,nvalA,Nat.reduceBEq,cond_true,cond_false,putAll,Act.put,List.setIfInBounds_toArray,List.set_cons_succ,List.set_cons_zero]
 have y0:=K2.out.at_ 0 _ rfl
 have y1:=K2.out.at_ 1 _ rfl
 have z0:=K3.out.at_ 0 _ rfl
 have z1:=K3.out.at_ 1 _ rfl
 have z2:=K3.out.at_ 2 _ rfl
 have f3:decide ((i:Int) < 0)=false:=decide_eq_false (by omega)
 have f3x:¬ ((i:Int) < 0):=by omega
 have f4:¬ l1 < i:=by omega
 have f4x:decide (l1 < i)=false:=decide_eq_false f4
 have f5:decide ((j:Int) < 0)=false:=decide_eq_false (by omega)
 have f5x:¬ ((j:Int) < 0):=by omega
 have f6:¬ l2 < j:=by omega
 have f6x:decide (l2 < j)=false:=decide_eq_false f6
 have f7:¬ l1 < ni:=by have:=HNI.out; omega
 have f7x:decide (l1 < ni)=false:=decide_eq_false f7
 have f8:¬ l2 < nj:=by have:=HNI.out; omega
 have f8x:decide (l2 < nj)=false:=decide_eq_false f8
 go_upto_region 21 with (first
  | (go_at_call 32; with_reducible refine (HNX.out _ B.out).mono ?_; rintro e wx ⟨rfl,q⟩; replace K2:=Lib.hid (K2.out.below q); replace K3:=Lib.hid (K3.out.below q); replace B:=Lib.hid (B.out.trans (q.mono B.out.size)); clear q; have y0:=K2.out.at_ 0 _ rfl; have y1:=K2.out.at_ 1 _ rfl; have z0:=K3.out.at_ 0 _ rfl; have z1:=K3.out.at_ 1 _ rfl; have z2:=K3.out.at_ 2 _ rfl)
  | fail "arm")
 clear y0 y1 z0 z1 z2
 refine wp_tab (.v 131 (.pointer (some ⟨b3,1,none⟩)) :: .v 132 (.int .i64 i) :: .v 133 (.bool true) :: .v 134 (.bool true) :: .v 135 undef :: .v 136 undef :: .v 137 undef :: .v 138 undef :: .v 139 undef :: .v 140 undef :: .v 141 undef :: .v 142 undef :: .v 143 undef :: .v 144 undef :: .v 145 undef :: .v 146 undef :: .v 147 undef :: .v 148 undef :: .v 149 undef :: .v 150 undef :: .v 151 (.bool true) :: []) [] [⟨b2,#[.slice (some ⟨de,oo,none⟩) l1 cx,.slice A2 l2 n2,.string c1,.string c2,.string c3,.string c4], 32, none⟩,⟨b3,#[.int .i64 4,.int .i64 i,.int .i64 j], 56, none⟩] [] [] [] [] [] (by kernel_rfl) B.out ⟨K2.out,K3.out,trivial⟩ trivial ⟨pu,ld 1 1,?_,pu,sk,sk,sk,sk,sk,sk,sk,sk,sk,sk,sk,sk,sk,sk,sk,sk,pu,trivial⟩ ?_
 ·intro L a U ho J hn dd KK kk; refine .free rfl ?_; have r1:=J.read 1 rfl (dd.get 1 rfl); have hne0:=HI1.out; go_simp; exact kk.out _ _ (J.st 2 rfl rfl)
 clear B K2 K3
 rintro σ1 W7 _ ⟨K2,K3,_⟩ _ _ B
 simp only [slotsOf,finX,nval,nvalN,nvalA,Nat.reduceBEq,cond_true,cond_false,putAll,Act.put,List.setIfInBounds_toArray,List.set_cons_succ,List.set_cons_zero]
 go_wp2
 go_ret2
 exact ⟨rfl,B.out⟩

set_option maxRecDepth 100000 in
set_option maxHeartbeats 4000000 in
theorem lcost_4d (q:CQ) (ok:OkQ q) (i j:Nat) (hi:i≤q.L.length) (hj:j≤q.R.length) (hi0:0 < i) (hn:¬ repI q.L i) (hlt:i < q.L.length) (sl sr:Value) (w:World) (he:Env w) (hq:QAt w sl sr q) :
  Ret Tryz.prog w 24 #[.agg #[sl,sr,.string (qT (2 * q.ch)),.string (qT (2 * q.mi)),.string (qT (2 * q.ga)),.string (qT (2 * q.re))],.agg #[.int .i64 4,.int .i64 i,.int .i64 j]] (.tuple #[.string ⟨#[]⟩,.int .i64 7]):=by
 intro W hW
 have hdd0:=hW.size
 obtain ⟨de,oo,cx,rfl,hde,q1⟩:=hq.l.cell i hlt
 have hl6:=ok.hl
 obtain ⟨d9,o9,c9,e9,hd9,q9⟩:=hq.l.cell (i - 1) (by omega)
 injection e9 with e9 _ e9c
 injection e9 with e9
 injection e9 with e9a e9b
 subst e9a e9b e9c
 have hud:q.L[i].u ≠ q.L[i - 1].u:=fun h=>hn ⟨hi0,by unfold unt; rw [List.getElem?_eq_getElem hlt,List.getElem?_eq_getElem (show i - 1 < q.L.length by omega)]; exact h.symm⟩
 have HU:Hid ((q.L[i].u.toList == q.L[i - 1].u.toList)=false):=Lib.hid (by rw [ba_beq]; exact decide_eq_false hud)
 have P0:Hid (W.cell? ⟨de,oo + (i - 1) * 3,none⟩=some (.string q.L[i - 1].u)):=Lib.hid ((hW.cell (p:=⟨de,oo + (i - 1) * 3,none⟩) hde).trans (q9 0 _ rfl))
 have HM:Hid (IntKind.i64.wrap ((i:Int) - 1)=((i - 1:Nat):Int)):=Lib.hid (by rw [IntWalk.i64_in _ (by omega)]; omega)
 have HML:Hid (((i - 1:Nat):Int) < (q.L.length:Int)):=Lib.hid (by omega)
 have HI1:Hid (((i:Int) == 0)=false):=Lib.hid (by rw [beq_eq_false_iff_ne]; omega)
 clear hud q9 hd9
 generalize q.L[i - 1].u=yu at *
 generalize i - 1=m at *
 obtain ⟨A2,n2,rfl,_⟩:=hq.r
 have hx:=ok.okl i hlt
 have hc:cst q 4 i j=q.re * (q.L[i].t - q.L[i].f):=by
  unfold cst thk
  rw [List.getElem?_eq_getElem hlt]
  rfl
 have hcc:=ok.re
 generalize hxe:q.L[i]=x at *
 obtain ⟨_,x1,x2,x3,_,_⟩:=hx
 have HTH:=Lib.hid (fun W' (h:Below W.heap.size W W')=>lthick_any x.u x.f x.t (by omega) (by omega) w he W' (hW.trans (h.mono hW.size)))
 have HMU:=Lib.hid (fun W' (h:Below W.heap.size W W')=>rMulQ q.re (x.t - x.f) (by omega) (by omega) w he W' (hW.trans (h.mono hW.size)))
 have X0:Hid (W.cell? ⟨de,oo + i * 3,none⟩=some (.string x.u)):=Lib.hid ((hW.cell (p:=⟨de,oo + i * 3,none⟩) hde).trans (q1 0 _ rfl))
 have X1:Hid (W.cell? ⟨de,oo + i * 3 + 1,none⟩=some (.string (qT (2 * x.f)))):=Lib.hid ((hW.cell (p:=⟨de,oo + i * 3 + 1,none⟩) hde).trans (q1 1 _ rfl))
 have X2:Hid (W.cell? ⟨de,oo + i * 3 + 2,none⟩=some (.string (qT (2 * x.t)))):=Lib.hid ((hW.cell (p:=⟨de,oo + i * 3 + 2,none⟩) hde).trans (q1 2 _ rfl))
 replace hde:de < W.heap.size:=Nat.lt_of_lt_of_le hde hdd0
 have hll:=ok.hl
 have hrr:=ok.hr
 have hii:(i:Int) < (q.L.length:Int):=by omega
 have HNX:=Lib.hid (lafter_any 4 i j (by omega) (by omega) W)
 rw [show nzI 4 i=(nxI 4 i:Int) from nzI_nat 4 i,show nzJ 4 j=(nxJ 4 j:Int) from nzJ_nat 4 j (by omega)] at HNX
 have HNI:Hid (nxI 4 i≤q.L.length∧nxJ 4 j≤q.R.length):=Lib.hid ⟨hlt,hj⟩
 generalize nxI 4 i=ni at *
 generalize nxJ 4 j=nj at *
 have B:=Lib.hid (Below.refl W.heap.size W)
 clear hn ok hq he hcc x1 x2 x3 hc q1 hdd0 hlt hW hxe
 generalize x.u=xu at *
 generalize qT (2 * x.f)=xf at *
 generalize qT (2 * x.t)=xt at *
 generalize qT (q.re * (x.t - x.f))=tr at *
 generalize qT (2 * (x.t - x.f))=tk at *
 generalize q.L.length=l1 at *
 generalize q.R.length=l2 at *
 generalize qT (2 * q.ch)=c1 at *
 generalize qT (2 * q.mi)=c2 at *
 generalize qT (2 * q.ga)=c3 at *
 generalize qT (2 * q.re)=c4 at *
 go_enter Tryz.func24, Tryz.ntmps24
 go_upto_region 1 with (fail)
 have K2:=Lib.hid (Blk.fresh W #[.slice (some ⟨de,oo,none⟩) l1 cx,.slice A2 l2 n2,.string c1,.string c2,.string c3,.string c4] 32)
 have q2:=below_new W (.cells #[.slice (some ⟨de,oo,none⟩) l1 cx,.slice A2 l2 n2,.string c1,.string c2,.string c3,.string c4] 32)
 have HSZ:(W.alloc (.cells #[.slice (some ⟨de,oo,none⟩) l1 cx,.slice A2 l2 n2,.string c1,.string c2,.string c3,.string c4] 32)).heap.size=W.heap.size + 1:=by simp
 replace B:=Lib.hid (B.out.trans (q2.mono B.out.size))
 generalize (W.alloc (.cells #[.slice (some ⟨de,oo,none⟩) l1 cx,.slice A2 l2 n2,.string c1,.string c2,.string c3,.string c4] 32))=W1 at *
 have K3:=Lib.hid (Blk.fresh W1 #[.int .i64 4,.int .i64 i,.int .i64 j] 56)
 have q3:=below_new W1 (.cells #[.int .i64 4,.int .i64 i,.int .i64 j] 56)
 replace B:=Lib.hid (B.out.trans (q3.mono B.out.size))
 replace K2:=Lib.hid (K2.out.below q3)
 clear q2 q3
 generalize (W1.alloc (.cells #[.int .i64 4,.int .i64 i,.int .i64 j] 56))=W2 at *
 rw [HSZ] at K3
 clear HSZ
 obtain ⟨b2,hb2e⟩:∃ b2,W.heap.size=b2:=⟨_,rfl⟩
 rw [hb2e] at K2 K3 ⊢
 have HB2E:=Lib.hid hb2e
 clear hb2e
 generalize b2 + 1=b3 at *
 refine wp_tab (.v 13 (.pointer (some ⟨b2,0,none⟩)) :: .v 14 (.slice (some ⟨de,oo,none⟩) l1 cx) :: .v 15 (.int .i64 l1) :: .v 16 (.pointer (some ⟨b2,1,none⟩)) :: .v 17 (.slice A2 l2 n2) :: .v 18 (.int .i64 l2) :: .v 6 (.int .i64 l1) :: .v 7 (.int .i64 l2) :: []) [] [⟨b2,#[.slice (some ⟨de,oo,none⟩) l1 cx,.slice A2 l2 n2,.string c1,.string c2,.string c3,.string c4], 32, none⟩,⟨b3,#[.int .i64 4,.int .i64 i,.int .i64 j], 56, none⟩] [] [] [] [] [] (by kernel_rfl) B.out ⟨K2.out,K3.out,trivial⟩ trivial ⟨pu,ld 0 0,pu,pu,ld 0 1,pu,pu,pu,trivial⟩ ?_
 clear B K2 K3
 rintro σ0 W8 _ ⟨K2,K3,_⟩ _ _ B
 simp only [slotsOf,finX,nval,nvalN,nvalA,Nat.reduceBEq,cond_true,cond_false,putAll,Act.put,List.setIfInBounds_toArray,List.set_cons_succ,List.set_cons_zero]
 have y0:=K2.out.at_ 0 _ rfl
 have y1:=K2.out.at_ 1 _ rfl
 have z0:=K3.out.at_ 0 _ rfl
 have z1:=K3.out.at_ 1 _ rfl
 have z2:=K3.out.at_ 2 _ rfl
 have f3:decide ((i:Int) < 0)=false:=decide_eq_false (by omega)
 have f3x:¬ ((i:Int) < 0):=by omega
 have f4:¬ l1 < i:=by omega
 have f4x:decide (l1 < i)=false:=decide_eq_false f4
 have f5:decide ((j:Int) < 0)=false:=decide_eq_false (by omega)
 have f5x:¬ ((j:Int) < 0):=by omega
 have f6:¬ l2 < j:=by omega
 have f6x:decide (l2 < j)=false:=decide_eq_false f6
 have f7:¬ l1 < ni:=by have:=HNI.out; omega
 have f7x:decide (l1 < ni)=false:=decide_eq_false f7
 have f8:¬ l2 < nj:=by have:=HNI.out; omega
 have f8x:decide (l2 < nj)=false:=decide_eq_false f8
 go_upto_region 21 with (first
  | (go_at_call 32; with_reducible refine (HNX.out _ B.out).mono ?_; rintro e wx ⟨rfl,q⟩; replace K2:=Lib.hid (K2.out.below q); replace K3:=Lib.hid (K3.out.below q); replace B:=Lib.hid (B.out.trans (q.mono B.out.size)); clear q; have y0:=K2.out.at_ 0 _ rfl; have y1:=K2.out.at_ 1 _ rfl; have z0:=K3.out.at_ 0 _ rfl; have z1:=K3.out.at_ 1 _ rfl; have z2:=K3.out.at_ 2 _ rfl)
  | fail "arm")
 clear y0 y1 z0 z1 z2
 refine wp_tab (.v 131 (.pointer (some ⟨b3,1,none⟩)) :: .v 132 (.int .i64 i) :: .v 133 (.bool false) :: .v 134 (.bool false) :: .v 135 (.pointer (some ⟨b2,0,none⟩)) :: .v 136 (.slice (some ⟨de,oo,none⟩) l1 cx) :: .v 137 (.pointer (some ⟨b3,1,none⟩)) :: .v 138 (.int .i64 i) :: .v 139 (.pointer (some ⟨de,oo + i * 3,none⟩)) :: .v 140 (.pointer (some ⟨de,oo + i * 3,none⟩)) :: .v 141 (.string xu) :: .v 142 (.pointer (some ⟨b2,0,none⟩)) :: .v 143 (.slice (some ⟨de,oo,none⟩) l1 cx) :: .v 144 (.pointer (some ⟨b3,1,none⟩)) :: .v 145 (.int .i64 i) :: .v 146 (.int .i64 (m:Nat)) :: .v 147 (.pointer (some ⟨de,oo + m * 3,none⟩)) :: .v 148 (.pointer (some ⟨de,oo + m * 3,none⟩)) :: .v 149 (.string yu) :: .v 150 (.bool true) :: .v 151 (.bool true) :: []) [] [⟨b2,#[.slice (some ⟨de,oo,none⟩) l1 cx,.slice A2 l2 n2,.string c1,.string c2,.string c3,.string c4], 32, none⟩,⟨b3,#[.int .i64 4,.int .i64 i,.int .i64 j], 56, none⟩] [] [] [] [] [] (by kernel_rfl) B.out ⟨K2.out,K3.out,trivial⟩ trivial ⟨pu,ld 1 1,?_,pu,pu,ld 0 0,pu,ld 1 1,?_,pu,?_,pu,ld 0 0,pu,ld 1 1,?_,?_,pu,?_,?_,pu,trivial⟩ ?_
 ·intro L a U ho J hn dd KK kk; refine .free rfl ?_; have r1:=J.read 1 rfl (dd.get 1 rfl); have hne0:=HI1.out; go_simp; exact kk.out _ _ (J.st 2 rfl rfl)
 ·intro L a U ho J hn dd KK kk; refine .pos (s:=134) rfl rfl (J.vals 3 _ _ rfl (dd.get 3 rfl)) ?_; have r5:=J.read 5 rfl (dd.get 5 rfl); have r7:=J.read 7 rfl (dd.get 7 rfl); go_simp; exact kk.out _ _ (J.st 8 rfl rfl)
 ·intro L a U ho J hn dd KK kk; refine .pos (s:=134) rfl rfl (J.vals 3 _ _ rfl (dd.get 3 rfl)) ?_; have r9:=J.read 9 rfl (dd.get 9 rfl); have e0:=(J.bb.cell (p:=⟨de,oo + i * 3,none⟩) hde).trans X0.out; go_simp; exact kk.out _ _ (J.st 10 rfl rfl)
 ·intro L a U ho J hn dd KK kk; refine .pos (s:=134) rfl rfl (J.vals 3 _ _ rfl (dd.get 3 rfl)) ?_; have r14:=J.read 14 rfl (dd.get 14 rfl); have hm1:=HM.out; go_simp; exact kk.out _ _ (J.st 15 rfl rfl)
 ·intro L a U ho J hn dd KK kk; refine .pos (s:=134) rfl rfl (J.vals 3 _ _ rfl (dd.get 3 rfl)) ?_; have r12:=J.read 12 rfl (dd.get 12 rfl); have r15:=J.read 15 rfl (dd.get 15 rfl); have hm2:=HML.out; go_simp; exact kk.out _ _ (J.st 16 rfl rfl)
 ·intro L a U ho J hn dd KK kk; refine .pos (s:=134) rfl rfl (J.vals 3 _ _ rfl (dd.get 3 rfl)) ?_; have r17:=J.read 17 rfl (dd.get 17 rfl); have e0:=(J.bb.cell (p:=⟨de,oo + m * 3,none⟩) hde).trans P0.out; go_simp; exact kk.out _ _ (J.st 18 rfl rfl)
 ·intro L a U ho J hn dd KK kk; refine .pos (s:=134) rfl rfl (J.vals 3 _ _ rfl (dd.get 3 rfl)) ?_; have r10:=J.read 10 rfl (dd.get 10 rfl); have r18:=J.read 18 rfl (dd.get 18 rfl); have hu:=HU.out; go_simp; exact kk.out _ _ (J.st 19 rfl rfl)
 clear B K2 K3
 rintro σ1 W7 _ ⟨K2,K3,_⟩ _ _ B
 simp only [slotsOf,finX,nval,nvalN,nvalA,Nat.reduceBEq,cond_true,cond_false,putAll,Act.put,List.setIfInBounds_toArray,List.set_cons_succ,List.set_cons_zero]
 go_wp2
 go_ret2
 exact ⟨rfl,B.out⟩

set_option maxRecDepth 100000 in
set_option maxHeartbeats 4000000 in
theorem lcost_5z (q:CQ) (ok:OkQ q) (i j:Nat) (hi:i≤q.L.length) (hj:j≤q.R.length) (hi0:j=0) (hlt:j < q.R.length) (sl sr:Value) (w:World) (he:Env w) (hq:QAt w sl sr q) :
  Ret Tryz.prog w 24 #[.agg #[sl,sr,.string (qT (2 * q.ch)),.string (qT (2 * q.mi)),.string (qT (2 * q.ga)),.string (qT (2 * q.re))],.agg #[.int .i64 5,.int .i64 i,.int .i64 j]] (.tuple #[.string ⟨#[]⟩,.int .i64 7]):=by
 intro W hW
 have hdd0:=hW.size
 obtain ⟨de,oo,cx,rfl,hde,q1⟩:=hq.r.cell j hlt
 have HI1:Hid (((j:Int) == 0)=true):=Lib.hid (by rw [beq_iff_eq]; omega)
 clear hi0
 obtain ⟨A1,n1,rfl,_⟩:=hq.l
 have hx:=ok.okr j hlt
 have hc:cst q 5 i j=q.re * (q.R[j].t - q.R[j].f):=by
  unfold cst thk
  rw [List.getElem?_eq_getElem hlt]
  rfl
 have hcc:=ok.re
 generalize hxe:q.R[j]=x at *
 obtain ⟨_,x1,x2,x3,_,_⟩:=hx
 have HTH:=Lib.hid (fun W' (h:Below W.heap.size W W')=>lthick_any x.u x.f x.t (by omega) (by omega) w he W' (hW.trans (h.mono hW.size)))
 have HMU:=Lib.hid (fun W' (h:Below W.heap.size W W')=>rMulQ q.re (x.t - x.f) (by omega) (by omega) w he W' (hW.trans (h.mono hW.size)))
 have X0:Hid (W.cell? ⟨de,oo + j * 3,none⟩=some (.string x.u)):=Lib.hid ((hW.cell (p:=⟨de,oo + j * 3,none⟩) hde).trans (q1 0 _ rfl))
 have X1:Hid (W.cell? ⟨de,oo + j * 3 + 1,none⟩=some (.string (qT (2 * x.f)))):=Lib.hid ((hW.cell (p:=⟨de,oo + j * 3 + 1,none⟩) hde).trans (q1 1 _ rfl))
 have X2:Hid (W.cell? ⟨de,oo + j * 3 + 2,none⟩=some (.string (qT (2 * x.t)))):=Lib.hid ((hW.cell (p:=⟨de,oo + j * 3 + 2,none⟩) hde).trans (q1 2 _ rfl))
 replace hde:de < W.heap.size:=Nat.lt_of_lt_of_le hde hdd0
 have hll:=ok.hl
 have hrr:=ok.hr
 have hii:(j:Int) < (q.R.length:Int):=by omega
 have HNX:=Lib.hid (lafter_any 5 i j (by omega) (by omega) W)
 rw [show nzI 5 i=(nxI 5 i:Int) from nzI_nat 5 i,show nzJ 5 j=(nxJ 5 j:Int) from nzJ_nat 5 j (by omega)] at HNX
 have HNI:Hid (nxI 5 i≤q.L.length∧nxJ 5 j≤q.R.length):=Lib.hid ⟨hi,hlt⟩
 generalize nxI 5 i=ni at *
 generalize nxJ 5 j=nj at *
 have B:=Lib.hid (Below.refl W.heap.size W)
 clear ok hq he hcc x1 x2 x3 hc q1 hdd0 hlt hW hxe
 generalize x.u=xu at *
 generalize qT (2 * x.f)=xf at *
 generalize qT (2 * x.t)=xt at *
 generalize qT (q.re * (x.t - x.f))=tr at *
 generalize qT (2 * (x.t - x.f))=tk at *
 generalize q.L.length=l1 at *
 generalize q.R.length=l2 at *
 generalize qT (2 * q.ch)=c1 at *
 generalize qT (2 * q.mi)=c2 at *
 generalize qT (2 * q.ga)=c3 at *
 generalize qT (2 * q.re)=c4 at *
 go_enter Tryz.func24, Tryz.ntmps24
 go_upto_region 1 with (fail)
 have K2:=Lib.hid (Blk.fresh W #[.slice A1 l1 n1,.slice (some ⟨de,oo,none⟩) l2 cx,.string c1,.string c2,.string c3,.string c4] 32)
 have q2:=below_new W (.cells #[.slice A1 l1 n1,.slice (some ⟨de,oo,none⟩) l2 cx,.string c1,.string c2,.string c3,.string c4] 32)
 have HSZ:(W.alloc (.cells #[.slice A1 l1 n1,.slice (some ⟨de,oo,none⟩) l2 cx,.string c1,.string c2,.string c3,.string c4] 32)).heap.size=W.heap.size + 1:=by simp
 replace B:=Lib.hid (B.out.trans (q2.mono B.out.size))
 generalize (W.alloc (.cells #[.slice A1 l1 n1,.slice (some ⟨de,oo,none⟩) l2 cx,.string c1,.string c2,.string c3,.string c4] 32))=W1 at *
 have K3:=Lib.hid (Blk.fresh W1 #[.int .i64 5,.int .i64 i,.int .i64 j] 56)
 have q3:=below_new W1 (.cells #[.int .i64 5,.int .i64 i,.int .i64 j] 56)
 replace B:=Lib.hid (B.out.trans (q3.mono B.out.size))
 replace K2:=Lib.hid (K2.out.below q3)
 clear q2 q3
 generalize (W1.alloc (.cells #[.int .i64 5,.int .i64 i,.int .i64 j] 56))=W2 at *
 rw [HSZ] at K3
 clear HSZ
 obtain ⟨b2,hb2e⟩:∃ b2,W.heap.size=b2:=⟨_,rfl⟩
 rw [hb2e] at K2 K3 ⊢
 have HB2E:=Lib.hid hb2e
 clear hb2e
 generalize b2 + 1=b3 at *
 refine wp_tab (.v 13 (.pointer (some ⟨b2,0,none⟩)) :: .v 14 (.slice A1 l1 n1) :: .v 15 (.int .i64 l1) :: .v 16 (.pointer (some ⟨b2,1,none⟩)) :: .v 17 (.slice (some ⟨de,oo,none⟩) l2 cx) :: .v 18 (.int .i64 l2) :: .v 6 (.int .i64 l1) :: .v 7 (.int .i64 l2) :: []) [] [⟨b2,#[.slice A1 l1 n1,.slice (some ⟨de,oo,none⟩) l2 cx,.string c1,.string c2,.string c3,.string c4], 32, none⟩,⟨b3,#[.int .i64 5,.int .i64 i,.int .i64 j], 56, none⟩] [] [] [] [] [] (by kernel_rfl) B.out ⟨K2.out,K3.out,trivial⟩ trivial ⟨pu,ld 0 0,pu,pu,ld 0 1,pu,pu,pu,trivial⟩ ?_
 clear B K2 K3
 rintro σ0 W8 _ ⟨K2,K3,_⟩ _ _ B
 simp only [slotsOf,finX,nval,nvalN,nvalA,Nat.reduceBEq,cond_true,cond_false,putAll,Act.put,List.setIfInBounds_toArray,List.set_cons_succ,List.set_cons_zero]
 have y0:=K2.out.at_ 0 _ rfl
 have y1:=K2.out.at_ 1 _ rfl
 have z0:=K3.out.at_ 0 _ rfl
 have z1:=K3.out.at_ 1 _ rfl
 have z2:=K3.out.at_ 2 _ rfl
 have f3:decide ((i:Int) < 0)=false:=decide_eq_false (by omega)
 have f3x:¬ ((i:Int) < 0):=by omega
 have f4:¬ l1 < i:=by omega
 have f4x:decide (l1 < i)=false:=decide_eq_false f4
 have f5:decide ((j:Int) < 0)=false:=decide_eq_false (by omega)
 have f5x:¬ ((j:Int) < 0):=by omega
 have f6:¬ l2 < j:=by omega
 have f6x:decide (l2 < j)=false:=decide_eq_false f6
 have f7:¬ l1 < ni:=by have:=HNI.out; omega
 have f7x:decide (l1 < ni)=false:=decide_eq_false f7
 have f8:¬ l2 < nj:=by have:=HNI.out; omega
 have f8x:decide (l2 < nj)=false:=decide_eq_false f8
 go_upto_region 24 with (first
  | (go_at_call 32; with_reducible refine (HNX.out _ B.out).mono ?_; rintro e wx ⟨rfl,q⟩; replace K2:=Lib.hid (K2.out.below q); replace K3:=Lib.hid (K3.out.below q); replace B:=Lib.hid (B.out.trans (q.mono B.out.size)); clear q; have y0:=K2.out.at_ 0 _ rfl; have y1:=K2.out.at_ 1 _ rfl; have z0:=K3.out.at_ 0 _ rfl; have z1:=K3.out.at_ 1 _ rfl; have z2:=K3.out.at_ 2 _ rfl)
  | fail "arm")
 clear y0 y1 z0 z1 z2
 refine wp_tab (.v 163 (.pointer (some ⟨b3,2,none⟩)) :: .v 164 (.int .i64 j) :: .v 165 (.bool true) :: .v 166 (.bool true) :: .v 167 undef :: .v 168 undef :: .v 169 undef :: .v 170 undef :: .v 171 undef :: .v 172 undef :: .v 173 undef :: .v 174 undef :: .v 175 undef :: .v 176 undef :: .v 177 undef :: .v 178 undef :: .v 179 undef :: .v 180 undef :: .v 181 undef :: .v 182 undef :: .v 183 (.bool true) :: []) [] [⟨b2,#[.slice A1 l1 n1,.slice (some ⟨de,oo,none⟩) l2 cx,.string c1,.string c2,.string c3,.string c4], 32, none⟩,⟨b3,#[.int .i64 5,.int .i64 i,.int .i64 j], 56, none⟩] [] [] [] [] [] (by kernel_rfl) B.out ⟨K2.out,K3.out,trivial⟩ trivial ⟨pu,ld 1 2,?_,pu,sk,sk,sk,sk,sk,sk,sk,sk,sk,sk,sk,sk,sk,sk,sk,sk,pu,trivial⟩ ?_
 ·intro L a U ho J hn dd KK kk; refine .free rfl ?_; have r1:=J.read 1 rfl (dd.get 1 rfl); have hne0:=HI1.out; go_simp; exact kk.out _ _ (J.st 2 rfl rfl)
 clear B K2 K3
 rintro σ1 W7 _ ⟨K2,K3,_⟩ _ _ B
 simp only [slotsOf,finX,nval,nvalN,nvalA,Nat.reduceBEq,cond_true,cond_false,putAll,Act.put,List.setIfInBounds_toArray,List.set_cons_succ,List.set_cons_zero]
 go_wp2
 go_ret2
 exact ⟨rfl,B.out⟩

set_option maxRecDepth 100000 in
set_option maxHeartbeats 4000000 in
theorem lcost_5d (q:CQ) (ok:OkQ q) (i j:Nat) (hi:i≤q.L.length) (hj:j≤q.R.length) (hi0:0 < j) (hn:¬ repI q.R j) (hlt:j < q.R.length) (sl sr:Value) (w:World) (he:Env w) (hq:QAt w sl sr q) :
  Ret Tryz.prog w 24 #[.agg #[sl,sr,.string (qT (2 * q.ch)),.string (qT (2 * q.mi)),.string (qT (2 * q.ga)),.string (qT (2 * q.re))],.agg #[.int .i64 5,.int .i64 i,.int .i64 j]] (.tuple #[.string ⟨#[]⟩,.int .i64 7]):=by
 intro W hW
 have hdd0:=hW.size
 obtain ⟨de,oo,cx,rfl,hde,q1⟩:=hq.r.cell j hlt
 have hl6:=ok.hr
 obtain ⟨d9,o9,c9,e9,hd9,q9⟩:=hq.r.cell (j - 1) (by omega)
 injection e9 with e9 _ e9c
 injection e9 with e9
 injection e9 with e9a e9b
 subst e9a e9b e9c
 have hud:q.R[j].u ≠ q.R[j - 1].u:=fun h=>hn ⟨hi0,by unfold unt; rw [List.getElem?_eq_getElem hlt,List.getElem?_eq_getElem (show j - 1 < q.R.length by omega)]; exact h.symm⟩
 have HU:Hid ((q.R[j].u.toList == q.R[j - 1].u.toList)=false):=Lib.hid (by rw [ba_beq]; exact decide_eq_false hud)
 have P0:Hid (W.cell? ⟨de,oo + (j - 1) * 3,none⟩=some (.string q.R[j - 1].u)):=Lib.hid ((hW.cell (p:=⟨de,oo + (j - 1) * 3,none⟩) hde).trans (q9 0 _ rfl))
 have HM:Hid (IntKind.i64.wrap ((j:Int) - 1)=((j - 1:Nat):Int)):=Lib.hid (by rw [IntWalk.i64_in _ (by omega)]; omega)
 have HML:Hid (((j - 1:Nat):Int) < (q.R.length:Int)):=Lib.hid (by omega)
 have HI1:Hid (((j:Int) == 0)=false):=Lib.hid (by rw [beq_eq_false_iff_ne]; omega)
 clear hud q9 hd9
 generalize q.R[j - 1].u=yu at *
 generalize j - 1=m at *
 obtain ⟨A1,n1,rfl,_⟩:=hq.l
 have hx:=ok.okr j hlt
 have hc:cst q 5 i j=q.re * (q.R[j].t - q.R[j].f):=by
  unfold cst thk
  rw [List.getElem?_eq_getElem hlt]
  rfl
 have hcc:=ok.re
 generalize hxe:q.R[j]=x at *
 obtain ⟨_,x1,x2,x3,_,_⟩:=hx
 have HTH:=Lib.hid (fun W' (h:Below W.heap.size W W')=>lthick_any x.u x.f x.t (by omega) (by omega) w he W' (hW.trans (h.mono hW.size)))
 have HMU:=Lib.hid (fun W' (h:Below W.heap.size W W')=>rMulQ q.re (x.t - x.f) (by omega) (by omega) w he W' (hW.trans (h.mono hW.size)))
 have X0:Hid (W.cell? ⟨de,oo + j * 3,none⟩=some (.string x.u)):=Lib.hid ((hW.cell (p:=⟨de,oo + j * 3,none⟩) hde).trans (q1 0 _ rfl))
 have X1:Hid (W.cell? ⟨de,oo + j * 3 + 1,none⟩=some (.string (qT (2 * x.f)))):=Lib.hid ((hW.cell (p:=⟨de,oo + j * 3 + 1,none⟩) hde).trans (q1 1 _ rfl))
 have X2:Hid (W.cell? ⟨de,oo + j * 3 + 2,none⟩=some (.string (qT (2 * x.t)))):=Lib.hid ((hW.cell (p:=⟨de,oo + j * 3 + 2,none⟩) hde).trans (q1 2 _ rfl))
 replace hde:de < W.heap.size:=Nat.lt_of_lt_of_le hde hdd0
 have hll:=ok.hl
 have hrr:=ok.hr
 have hii:(j:Int) < (q.R.length:Int):=by omega
 have HNX:=Lib.hid (lafter_any 5 i j (by omega) (by omega) W)
 rw [show nzI 5 i=(nxI 5 i:Int) from nzI_nat 5 i,show nzJ 5 j=(nxJ 5 j:Int) from nzJ_nat 5 j (by omega)] at HNX
 have HNI:Hid (nxI 5 i≤q.L.length∧nxJ 5 j≤q.R.length):=Lib.hid ⟨hi,hlt⟩
 generalize nxI 5 i=ni at *
 generalize nxJ 5 j=nj at *
 have B:=Lib.hid (Below.refl W.heap.size W)
 clear hn ok hq he hcc x1 x2 x3 hc q1 hdd0 hlt hW hxe
 generalize x.u=xu at *
 generalize qT (2 * x.f)=xf at *
 generalize qT (2 * x.t)=xt at *
 generalize qT (q.re * (x.t - x.f))=tr at *
 generalize qT (2 * (x.t - x.f))=tk at *
 generalize q.L.length=l1 at *
 generalize q.R.length=l2 at *
 generalize qT (2 * q.ch)=c1 at *
 generalize qT (2 * q.mi)=c2 at *
 generalize qT (2 * q.ga)=c3 at *
 generalize qT (2 * q.re)=c4 at *
 go_enter Tryz.func24, Tryz.ntmps24
 go_upto_region 1 with (fail)
 have K2:=Lib.hid (Blk.fresh W #[.slice A1 l1 n1,.slice (some ⟨de,oo,none⟩) l2 cx,.string c1,.string c2,.string c3,.string c4] 32)
 have q2:=below_new W (.cells #[.slice A1 l1 n1,.slice (some ⟨de,oo,none⟩) l2 cx,.string c1,.string c2,.string c3,.string c4] 32)
 have HSZ:(W.alloc (.cells #[.slice A1 l1 n1,.slice (some ⟨de,oo,none⟩) l2 cx,.string c1,.string c2,.string c3,.string c4] 32)).heap.size=W.heap.size + 1:=by simp
 replace B:=Lib.hid (B.out.trans (q2.mono B.out.size))
 generalize (W.alloc (.cells #[.slice A1 l1 n1,.slice (some ⟨de,oo,none⟩) l2 cx,.string c1,.string c2,.string c3,.string c4] 32))=W1 at *
 have K3:=Lib.hid (Blk.fresh W1 #[.int .i64 5,.int .i64 i,.int .i64 j] 56)
 have q3:=below_new W1 (.cells #[.int .i64 5,.int .i64 i,.int .i64 j] 56)
 replace B:=Lib.hid (B.out.trans (q3.mono B.out.size))
 replace K2:=Lib.hid (K2.out.below q3)
 clear q2 q3
 generalize (W1.alloc (.cells #[.int .i64 5,.int .i64 i,.int .i64 j] 56))=W2 at *
 rw [HSZ] at K3
 clear HSZ
 obtain ⟨b2,hb2e⟩:∃ b2,W.heap.size=b2:=⟨_,rfl⟩
 rw [hb2e] at K2 K3 ⊢
 have HB2E:=Lib.hid hb2e
 clear hb2e
 generalize b2 + 1=b3 at *
 refine wp_tab (.v 13 (.pointer (some ⟨b2,0,none⟩)) :: .v 14 (.slice A1 l1 n1) :: .v 15 (.int .i64 l1) :: .v 16 (.pointer (some ⟨b2,1,none⟩)) :: .v 17 (.slice (some ⟨de,oo,none⟩) l2 cx) :: .v 18 (.int .i64 l2) :: .v 6 (.int .i64 l1) :: .v 7 (.int .i64 l2) :: []) [] [⟨b2,#[.slice A1 l1 n1,.slice (some ⟨de,oo,none⟩) l2 cx,.string c1,.string c2,.string c3,.string c4], 32, none⟩,⟨b3,#[.int .i64 5,.int .i64 i,.int .i64 j], 56, none⟩] [] [] [] [] [] (by kernel_rfl) B.out ⟨K2.out,K3.out,trivial⟩ trivial ⟨pu,ld 0 0,pu,pu,ld 0 1,pu,pu,pu,trivial⟩ ?_
 clear B K2 K3
 rintro σ0 W8 _ ⟨K2,K3,_⟩ _ _ B
 simp only [slotsOf,finX,nval,nvalN,nvalA,Nat.reduceBEq,cond_true,cond_false,putAll,Act.put,List.setIfInBounds_toArray,List.set_cons_succ,List.set_cons_zero]
 have y0:=K2.out.at_ 0 _ rfl
 have y1:=K2.out.at_ 1 _ rfl
 have z0:=K3.out.at_ 0 _ rfl
 have z1:=K3.out.at_ 1 _ rfl
 have z2:=K3.out.at_ 2 _ rfl
 have f3:decide ((i:Int) < 0)=false:=decide_eq_false (by omega)
 have f3x:¬ ((i:Int) < 0):=by omega
 have f4:¬ l1 < i:=by omega
 have f4x:decide (l1 < i)=false:=decide_eq_false f4
 have f5:decide ((j:Int) < 0)=false:=decide_eq_false (by omega)
 have f5x:¬ ((j:Int) < 0):=by omega
 have f6:¬ l2 < j:=by omega
 have f6x:decide (l2 < j)=false:=decide_eq_false f6
 have f7:¬ l1 < ni:=by have:=HNI.out; omega
 have f7x:decide (l1 < ni)=false:=decide_eq_false f7
 have f8:¬ l2 < nj:=by have:=HNI.out; omega
 have f8x:decide (l2 < nj)=false:=decide_eq_false f8
 go_upto_region 24 with (first
  | (go_at_call 32; with_reducible refine (HNX.out _ B.out).mono ?_; rintro e wx ⟨rfl,q⟩; replace K2:=Lib.hid (K2.out.below q); replace K3:=Lib.hid (K3.out.below q); replace B:=Lib.hid (B.out.trans (q.mono B.out.size)); clear q; have y0:=K2.out.at_ 0 _ rfl; have y1:=K2.out.at_ 1 _ rfl; have z0:=K3.out.at_ 0 _ rfl; have z1:=K3.out.at_ 1 _ rfl; have z2:=K3.out.at_ 2 _ rfl)
  | fail "arm")
 clear y0 y1 z0 z1 z2
 refine wp_tab (.v 163 (.pointer (some ⟨b3,2,none⟩)) :: .v 164 (.int .i64 j) :: .v 165 (.bool false) :: .v 166 (.bool false) :: .v 167 (.pointer (some ⟨b2,1,none⟩)) :: .v 168 (.slice (some ⟨de,oo,none⟩) l2 cx) :: .v 169 (.pointer (some ⟨b3,2,none⟩)) :: .v 170 (.int .i64 j) :: .v 171 (.pointer (some ⟨de,oo + j * 3,none⟩)) :: .v 172 (.pointer (some ⟨de,oo + j * 3,none⟩)) :: .v 173 (.string xu) :: .v 174 (.pointer (some ⟨b2,1,none⟩)) :: .v 175 (.slice (some ⟨de,oo,none⟩) l2 cx) :: .v 176 (.pointer (some ⟨b3,2,none⟩)) :: .v 177 (.int .i64 j) :: .v 178 (.int .i64 (m:Nat)) :: .v 179 (.pointer (some ⟨de,oo + m * 3,none⟩)) :: .v 180 (.pointer (some ⟨de,oo + m * 3,none⟩)) :: .v 181 (.string yu) :: .v 182 (.bool true) :: .v 183 (.bool true) :: []) [] [⟨b2,#[.slice A1 l1 n1,.slice (some ⟨de,oo,none⟩) l2 cx,.string c1,.string c2,.string c3,.string c4], 32, none⟩,⟨b3,#[.int .i64 5,.int .i64 i,.int .i64 j], 56, none⟩] [] [] [] [] [] (by kernel_rfl) B.out ⟨K2.out,K3.out,trivial⟩ trivial ⟨pu,ld 1 2,?_,pu,pu,ld 0 1,pu,ld 1 2,?_,pu,?_,pu,ld 0 1,pu,ld 1 2,?_,?_,pu,?_,?_,pu,trivial⟩ ?_
 ·intro L a U ho J hn dd KK kk; refine .free rfl ?_; have r1:=J.read 1 rfl (dd.get 1 rfl); have hne0:=HI1.out; go_simp; exact kk.out _ _ (J.st 2 rfl rfl)
 ·intro L a U ho J hn dd KK kk; refine .pos (s:=166) rfl rfl (J.vals 3 _ _ rfl (dd.get 3 rfl)) ?_; have r5:=J.read 5 rfl (dd.get 5 rfl); have r7:=J.read 7 rfl (dd.get 7 rfl); go_simp; exact kk.out _ _ (J.st 8 rfl rfl)
 ·intro L a U ho J hn dd KK kk; refine .pos (s:=166) rfl rfl (J.vals 3 _ _ rfl (dd.get 3 rfl)) ?_; have r9:=J.read 9 rfl (dd.get 9 rfl); have e0:=(J.bb.cell (p:=⟨de,oo + j * 3,none⟩) hde).trans X0.out; go_simp; exact kk.out _ _ (J.st 10 rfl rfl)
 ·intro L a U ho J hn dd KK kk; refine .pos (s:=166) rfl rfl (J.vals 3 _ _ rfl (dd.get 3 rfl)) ?_; have r14:=J.read 14 rfl (dd.get 14 rfl); have hm1:=HM.out; go_simp; exact kk.out _ _ (J.st 15 rfl rfl)
 ·intro L a U ho J hn dd KK kk; refine .pos (s:=166) rfl rfl (J.vals 3 _ _ rfl (dd.get 3 rfl)) ?_; have r12:=J.read 12 rfl (dd.get 12 rfl); have r15:=J.read 15 rfl (dd.get 15 rfl); have hm2:=HML.out; go_simp; exact kk.out _ _ (J.st 16 rfl rfl)
 ·intro L a U ho J hn dd KK kk; refine .pos (s:=166) rfl rfl (J.vals 3 _ _ rfl (dd.get 3 rfl)) ?_; have r17:=J.read 17 rfl (dd.get 17 rfl); have e0:=(J.bb.cell (p:=⟨de,oo + m * 3,none⟩) hde).trans P0.out; go_simp; exact kk.out _ _ (J.st 18 rfl rfl)
 ·intro L a U ho J hn dd KK kk; refine .pos (s:=166) rfl rfl (J.vals 3 _ _ rfl (dd.get 3 rfl)) ?_; have r10:=J.read 10 rfl (dd.get 10 rfl); have r18:=J.read 18 rfl (dd.get 18 rfl); have hu:=HU.out; go_simp; exact kk.out _ _ (J.st 19 rfl rfl)
 clear B K2 K3
 rintro σ1 W7 _ ⟨K2,K3,_⟩ _ _ B
 simp only [slotsOf,finX,nval,nvalN,nvalA,Nat.reduceBEq,cond_true,cond_false,putAll,Act.put,List.setIfInBounds_toArray,List.set_cons_succ,List.set_cons_zero]
 go_wp2
 go_ret2
 exact ⟨rfl,B.out⟩

end Go.Proofs.YthhkmihjnnfpgaaGreatDoor

/- The law's cost of whatever step; Cost. -/
namespace Go.Proofs.YthhkmihjnnfpgaaGreatDoor
set_option linter.all false
open Go.RowKit

attribute [local go_sem] Oper.semAt_some

set_option maxRecDepth 100000 in
set_option maxHeartbeats 8000000 in
theorem lcost_bad (q:CQ) (k i j:Int) (hk:¬ ((1≤k∧k≤5)∧(0≤i∧i≤q.L.length)∧0≤j∧j≤q.R.length)) (sl sr:Value) (w:World) (hq:QAt w sl sr q) :
  Ret Tryz.prog w 24 #[.agg #[sl,sr,.string (qT (2 * q.ch)),.string (qT (2 * q.mi)),.string (qT (2 * q.ga)),.string (qT (2 * q.re))],.agg #[.int .i64 k,.int .i64 i,.int .i64 j]] (.tuple #[.string ⟨#[]⟩,.int .i64 (errI q k i j)]):=by
 intro W hW
 have HERR:Hid (errI q k i j=if k < 1 ∨ k > 5 then 12 else 3):=Lib.hid (by
  unfold errI
  by_cases h:k < 1 ∨ 5 < k
  ·rw [if_pos h,if_pos h]
  ·rw [if_neg h,if_neg h,if_pos (by omega)])
 generalize errI q k i j=er at *
 obtain ⟨A1,n1,rfl,_⟩:=hq.l
 obtain ⟨A2,n2,rfl,_⟩:=hq.r
 have B:=Lib.hid (Below.refl W.heap.size W)
 have HK:=Lib.hid hk
 clear hq hk
 generalize q.L.length=l1 at *
 generalize q.R.length=l2 at *
 generalize qT (2 * q.ch)=c1 at *
 generalize qT (2 * q.mi)=c2 at *
 generalize qT (2 * q.ga)=c3 at *
 generalize qT (2 * q.re)=c4 at *
 go_enter Tryz.func24, Tryz.ntmps24
 go_upto_region 1 with (fail)
 have K2:=Lib.hid (Blk.fresh W #[.slice A1 l1 n1,.slice A2 l2 n2,.string c1,.string c2,.string c3,.string c4] 32)
 have q2:=below_new W (.cells #[.slice A1 l1 n1,.slice A2 l2 n2,.string c1,.string c2,.string c3,.string c4] 32)
 have HSZ:(W.alloc (.cells #[.slice A1 l1 n1,.slice A2 l2 n2,.string c1,.string c2,.string c3,.string c4] 32)).heap.size=W.heap.size + 1:=by simp
 replace B:=Lib.hid (B.out.trans (q2.mono B.out.size))
 generalize (W.alloc (.cells #[.slice A1 l1 n1,.slice A2 l2 n2,.string c1,.string c2,.string c3,.string c4] 32))=W1 at *
 have K3:=Lib.hid (Blk.fresh W1 #[.int .i64 k,.int .i64 i,.int .i64 j] 56)
 have q3:=below_new W1 (.cells #[.int .i64 k,.int .i64 i,.int .i64 j] 56)
 replace B:=Lib.hid (B.out.trans (q3.mono B.out.size))
 replace K2:=Lib.hid (K2.out.below q3)
 clear q2 q3
 generalize (W1.alloc (.cells #[.int .i64 k,.int .i64 i,.int .i64 j] 56))=W2 at *
 rw [HSZ] at K3
 clear HSZ
 obtain ⟨b2,hb2e⟩:∃ b2,W.heap.size=b2:=⟨_,rfl⟩
 rw [hb2e] at K2 K3 ⊢
 have HB2E:=Lib.hid hb2e
 clear hb2e
 generalize b2 + 1=b3 at *
 refine wp_tab (.v 13 (.pointer (some ⟨b2,0,none⟩)) :: .v 14 (.slice A1 l1 n1) :: .v 15 (.int .i64 l1) :: .v 16 (.pointer (some ⟨b2,1,none⟩)) :: .v 17 (.slice A2 l2 n2) :: .v 18 (.int .i64 l2) :: .v 6 (.int .i64 l1) :: .v 7 (.int .i64 l2) :: []) [] [⟨b2,#[.slice A1 l1 n1,.slice A2 l2 n2,.string c1,.string c2,.string c3,.string c4], 32, none⟩,⟨b3,#[.int .i64 k,.int .i64 i,.int .i64 j], 56, none⟩] [] [] [] [] [] (by kernel_rfl) B.out ⟨K2.out,K3.out,trivial⟩ trivial ⟨pu,ld 0 0,pu,pu,ld 0 1,pu,pu,pu,trivial⟩ ?_
 clear B K2 K3
 rintro σ0 W8 _ ⟨K2,K3,_⟩ _ _ B
 simp only [slotsOf,finX,nval,nvalN,nvalA,Nat.reduceBEq,cond_true,cond_false,putAll,Act.put,List.setIfInBounds_toArray,List.set_cons_succ,List.set_cons_zero]
 have y0:=K2.out.at_ 0 _ rfl
 have y1:=K2.out.at_ 1 _ rfl
 have z0:=K3.out.at_ 0 _ rfl
 have z1:=K3.out.at_ 1 _ rfl
 have z2:=K3.out.at_ 2 _ rfl
 by_cases h0:k < 1
 ·have g0:k < 1:=h0
  have d0:decide (k < 1)=true:=decide_eq_true h0
  clear h0
  have HEN:Hid (er=12):=Lib.hid (by rw [HERR.out]; split <;> omega)
  clear HERR HK
  go_wp2
  go_ret2
  rw [HEN.out]
  exact ⟨rfl,B.out⟩
 have g0:¬ (k < 1):=h0
 have d0:decide (k < 1)=false:=decide_eq_false h0
 clear h0
 by_cases h1:k > 5
 ·have g1:k > 5:=h1
  have d1:decide (k > 5)=true:=decide_eq_true h1
  clear h1
  have HEN:Hid (er=12):=Lib.hid (by rw [HERR.out]; split <;> omega)
  clear HERR HK
  go_wp2
  go_ret2
  rw [HEN.out]
  exact ⟨rfl,B.out⟩
 have g1:¬ (k > 5):=h1
 have d1:decide (k > 5)=false:=decide_eq_false h1
 clear h1
 by_cases h2:i < 0
 ·have g2:i < 0:=h2
  have d2:decide (i < 0)=true:=decide_eq_true h2
  clear h2
  have HEN:Hid (er=3):=Lib.hid (by rw [HERR.out]; split <;> omega)
  clear HERR HK
  go_wp2
  go_ret2
  rw [HEN.out]
  exact ⟨rfl,B.out⟩
 have g2:¬ (i < 0):=h2
 have d2:decide (i < 0)=false:=decide_eq_false h2
 clear h2
 by_cases h3:i > (l1:Int)
 ·have g3:i > (l1:Int):=h3
  have d3:decide (i > (l1:Int))=true:=decide_eq_true h3
  clear h3
  have HEN:Hid (er=3):=Lib.hid (by rw [HERR.out]; split <;> omega)
  clear HERR HK
  go_wp2
  go_ret2
  rw [HEN.out]
  exact ⟨rfl,B.out⟩
 have g3:¬ (i > (l1:Int)):=h3
 have d3:decide (i > (l1:Int))=false:=decide_eq_false h3
 clear h3
 by_cases h4:j < 0
 ·have g4:j < 0:=h4
  have d4:decide (j < 0)=true:=decide_eq_true h4
  clear h4
  have HEN:Hid (er=3):=Lib.hid (by rw [HERR.out]; split <;> omega)
  clear HERR HK
  go_wp2
  go_ret2
  rw [HEN.out]
  exact ⟨rfl,B.out⟩
 have g4:¬ (j < 0):=h4
 have d4:decide (j < 0)=false:=decide_eq_false h4
 clear h4
 by_cases h5:j > (l2:Int)
 ·have g5:j > (l2:Int):=h5
  have d5:decide (j > (l2:Int))=true:=decide_eq_true h5
  clear h5
  have HEN:Hid (er=3):=Lib.hid (by rw [HERR.out]; split <;> omega)
  clear HERR HK
  go_wp2
  go_ret2
  rw [HEN.out]
  exact ⟨rfl,B.out⟩
 have g5:¬ (j > (l2:Int)):=h5
 have d5:decide (j > (l2:Int))=false:=decide_eq_false h5
 clear h5
 exact absurd HK.out (fun h=>h (by omega))
set_option maxRecDepth 100000 in
set_option maxHeartbeats 8000000 in
theorem lcost_farL (q:CQ) (ok:OkQ q) (k i j:Nat) (hk:1≤k∧k≤5) (hi:i≤q.L.length) (hj:j≤q.R.length) (hf:q.L.length < nxI k i) (sl sr:Value) (w:World) (hq:QAt w sl sr q) :
  Ret Tryz.prog w 24 #[.agg #[sl,sr,.string (qT (2 * q.ch)),.string (qT (2 * q.mi)),.string (qT (2 * q.ga)),.string (qT (2 * q.re))],.agg #[.int .i64 k,.int .i64 i,.int .i64 j]] (.tuple #[.string ⟨#[]⟩,.int .i64 11]):=by
 intro W hW
 have hll:=ok.hl
 have hrr:=ok.hr
 have HNX:=Lib.hid (lafter_any k i j (by omega) (by omega) W)
 rw [nzI_nat,nzJ_nat k j hk] at HNX
 obtain ⟨A1,n1,rfl,_⟩:=hq.l
 obtain ⟨A2,n2,rfl,_⟩:=hq.r
 have B:=Lib.hid (Below.refl W.heap.size W)
 clear ok hq
 generalize nxI k i=ni at *
 generalize nxJ k j=nj at *
 generalize q.L.length=l1 at *
 generalize q.R.length=l2 at *
 generalize qT (2 * q.ch)=c1 at *
 generalize qT (2 * q.mi)=c2 at *
 generalize qT (2 * q.ga)=c3 at *
 generalize qT (2 * q.re)=c4 at *
 go_enter Tryz.func24, Tryz.ntmps24
 go_upto_region 1 with (fail)
 have K2:=Lib.hid (Blk.fresh W #[.slice A1 l1 n1,.slice A2 l2 n2,.string c1,.string c2,.string c3,.string c4] 32)
 have q2:=below_new W (.cells #[.slice A1 l1 n1,.slice A2 l2 n2,.string c1,.string c2,.string c3,.string c4] 32)
 have HSZ:(W.alloc (.cells #[.slice A1 l1 n1,.slice A2 l2 n2,.string c1,.string c2,.string c3,.string c4] 32)).heap.size=W.heap.size + 1:=by simp
 replace B:=Lib.hid (B.out.trans (q2.mono B.out.size))
 generalize (W.alloc (.cells #[.slice A1 l1 n1,.slice A2 l2 n2,.string c1,.string c2,.string c3,.string c4] 32))=W1 at *
 have K3:=Lib.hid (Blk.fresh W1 #[.int .i64 k,.int .i64 i,.int .i64 j] 56)
 have q3:=below_new W1 (.cells #[.int .i64 k,.int .i64 i,.int .i64 j] 56)
 replace B:=Lib.hid (B.out.trans (q3.mono B.out.size))
 replace K2:=Lib.hid (K2.out.below q3)
 clear q2 q3
 generalize (W1.alloc (.cells #[.int .i64 k,.int .i64 i,.int .i64 j] 56))=W2 at *
 rw [HSZ] at K3
 clear HSZ
 obtain ⟨b2,hb2e⟩:∃ b2,W.heap.size=b2:=⟨_,rfl⟩
 rw [hb2e] at K2 K3 ⊢
 have HB2E:=Lib.hid hb2e
 clear hb2e
 generalize b2 + 1=b3 at *
 refine wp_tab (.v 13 (.pointer (some ⟨b2,0,none⟩)) :: .v 14 (.slice A1 l1 n1) :: .v 15 (.int .i64 l1) :: .v 16 (.pointer (some ⟨b2,1,none⟩)) :: .v 17 (.slice A2 l2 n2) :: .v 18 (.int .i64 l2) :: .v 6 (.int .i64 l1) :: .v 7 (.int .i64 l2) :: []) [] [⟨b2,#[.slice A1 l1 n1,.slice A2 l2 n2,.string c1,.string c2,.string c3,.string c4], 32, none⟩,⟨b3,#[.int .i64 k,.int .i64 i,.int .i64 j], 56, none⟩] [] [] [] [] [] (by kernel_rfl) B.out ⟨K2.out,K3.out,trivial⟩ trivial ⟨pu,ld 0 0,pu,pu,ld 0 1,pu,pu,pu,trivial⟩ ?_
 clear B K2 K3
 rintro σ0 W8 _ ⟨K2,K3,_⟩ _ _ B
 simp only [slotsOf,finX,nval,nvalN,nvalA,Nat.reduceBEq,cond_true,cond_false,putAll,Act.put,List.setIfInBounds_toArray,List.set_cons_succ,List.set_cons_zero]
 have y0:=K2.out.at_ 0 _ rfl
 have y1:=K2.out.at_ 1 _ rfl
 have z0:=K3.out.at_ 0 _ rfl
 have z1:=K3.out.at_ 1 _ rfl
 have z2:=K3.out.at_ 2 _ rfl
 have f1:¬ ((k:Int) < 1):=by omega
 have f1x:decide ((k:Int) < 1)=false:=decide_eq_false f1
 have f2:¬ ((k:Int) > 5):=by omega
 have f2x:decide ((k:Int) > 5)=false:=decide_eq_false f2
 have f3:decide ((i:Int) < 0)=false:=decide_eq_false (by omega)
 have f3x:¬ ((i:Int) < 0):=by omega
 have f4:¬ l1 < i:=by omega
 have f4x:decide (l1 < i)=false:=decide_eq_false f4
 have f5:decide ((j:Int) < 0)=false:=decide_eq_false (by omega)
 have f5x:¬ ((j:Int) < 0):=by omega
 have f6:¬ l2 < j:=by omega
 have f6x:decide (l2 < j)=false:=decide_eq_false f6
 have f7:l1 < ni:=hf
 have f7x:decide (l1 < ni)=true:=decide_eq_true f7
 clear hf
 go_wp2_with (first
  | (go_at_call 32; with_reducible refine (HNX.out _ B.out).mono ?_; rintro e wx ⟨rfl,q⟩; replace K2:=Lib.hid (K2.out.below q); replace K3:=Lib.hid (K3.out.below q); replace B:=Lib.hid (B.out.trans (q.mono B.out.size)); clear q; have y0:=K2.out.at_ 0 _ rfl; have y1:=K2.out.at_ 1 _ rfl; have z0:=K3.out.at_ 0 _ rfl; have z1:=K3.out.at_ 1 _ rfl; have z2:=K3.out.at_ 2 _ rfl)
  | fail "arm")
 go_ret2
 exact ⟨rfl,B.out⟩

set_option maxRecDepth 100000 in
set_option maxHeartbeats 8000000 in
theorem lcost_farR (q:CQ) (ok:OkQ q) (k i j:Nat) (hk:1≤k∧k≤5) (hi:i≤q.L.length) (hj:j≤q.R.length) (hf:¬ q.L.length < nxI k i∧q.R.length < nxJ k j) (sl sr:Value) (w:World) (hq:QAt w sl sr q) :
  Ret Tryz.prog w 24 #[.agg #[sl,sr,.string (qT (2 * q.ch)),.string (qT (2 * q.mi)),.string (qT (2 * q.ga)),.string (qT (2 * q.re))],.agg #[.int .i64 k,.int .i64 i,.int .i64 j]] (.tuple #[.string ⟨#[]⟩,.int .i64 11]):=by
 intro W hW
 have hll:=ok.hl
 have hrr:=ok.hr
 have HNX:=Lib.hid (lafter_any k i j (by omega) (by omega) W)
 rw [nzI_nat,nzJ_nat k j hk] at HNX
 obtain ⟨A1,n1,rfl,_⟩:=hq.l
 obtain ⟨A2,n2,rfl,_⟩:=hq.r
 have B:=Lib.hid (Below.refl W.heap.size W)
 clear ok hq
 generalize nxI k i=ni at *
 generalize nxJ k j=nj at *
 generalize q.L.length=l1 at *
 generalize q.R.length=l2 at *
 generalize qT (2 * q.ch)=c1 at *
 generalize qT (2 * q.mi)=c2 at *
 generalize qT (2 * q.ga)=c3 at *
 generalize qT (2 * q.re)=c4 at *
 go_enter Tryz.func24, Tryz.ntmps24
 go_upto_region 1 with (fail)
 have K2:=Lib.hid (Blk.fresh W #[.slice A1 l1 n1,.slice A2 l2 n2,.string c1,.string c2,.string c3,.string c4] 32)
 have q2:=below_new W (.cells #[.slice A1 l1 n1,.slice A2 l2 n2,.string c1,.string c2,.string c3,.string c4] 32)
 have HSZ:(W.alloc (.cells #[.slice A1 l1 n1,.slice A2 l2 n2,.string c1,.string c2,.string c3,.string c4] 32)).heap.size=W.heap.size + 1:=by simp
 replace B:=Lib.hid (B.out.trans (q2.mono B.out.size))
 generalize (W.alloc (.cells #[.slice A1 l1 n1,.slice A2 l2 n2,.string c1,.string c2,.string c3,.string c4] 32))=W1 at *
 have K3:=Lib.hid (Blk.fresh W1 #[.int .i64 k,.int .i64 i,.int .i64 j] 56)
 have q3:=below_new W1 (.cells #[.int .i64 k,.int .i64 i,.int .i64 j] 56)
 replace B:=Lib.hid (B.out.trans (q3.mono B.out.size))
 replace K2:=Lib.hid (K2.out.below q3)
 clear q2 q3
 generalize (W1.alloc (.cells #[.int .i64 k,.int .i64 i,.int .i64 j] 56))=W2 at *
 rw [HSZ] at K3
 clear HSZ
 obtain ⟨b2,hb2e⟩:∃ b2,W.heap.size=b2:=⟨_,rfl⟩
 rw [hb2e] at K2 K3 ⊢
 have HB2E:=Lib.hid hb2e
 clear hb2e
 generalize b2 + 1=b3 at *
 refine wp_tab (.v 13 (.pointer (some ⟨b2,0,none⟩)) :: .v 14 (.slice A1 l1 n1) :: .v 15 (.int .i64 l1) :: .v 16 (.pointer (some ⟨b2,1,none⟩)) :: .v 17 (.slice A2 l2 n2) :: .v 18 (.int .i64 l2) :: .v 6 (.int .i64 l1) :: .v 7 (.int .i64 l2) :: []) [] [⟨b2,#[.slice A1 l1 n1,.slice A2 l2 n2,.string c1,.string c2,.string c3,.string c4], 32, none⟩,⟨b3,#[.int .i64 k,.int .i64 i,.int .i64 j], 56, none⟩] [] [] [] [] [] (by kernel_rfl) B.out ⟨K2.out,K3.out,trivial⟩ trivial ⟨pu,ld 0 0,pu,pu,ld 0 1,pu,pu,pu,trivial⟩ ?_
 clear B K2 K3
 rintro σ0 W8 _ ⟨K2,K3,_⟩ _ _ B
 simp only [slotsOf,finX,nval,nvalN,nvalA,Nat.reduceBEq,cond_true,cond_false,putAll,Act.put,List.setIfInBounds_toArray,List.set_cons_succ,List.set_cons_zero]
 have y0:=K2.out.at_ 0 _ rfl
 have y1:=K2.out.at_ 1 _ rfl
 have z0:=K3.out.at_ 0 _ rfl
 have z1:=K3.out.at_ 1 _ rfl
 have z2:=K3.out.at_ 2 _ rfl
 have f1:¬ ((k:Int) < 1):=by omega
 have f1x:decide ((k:Int) < 1)=false:=decide_eq_false f1
 have f2:¬ ((k:Int) > 5):=by omega
 have f2x:decide ((k:Int) > 5)=false:=decide_eq_false f2
 have f3:decide ((i:Int) < 0)=false:=decide_eq_false (by omega)
 have f3x:¬ ((i:Int) < 0):=by omega
 have f4:¬ l1 < i:=by omega
 have f4x:decide (l1 < i)=false:=decide_eq_false f4
 have f5:decide ((j:Int) < 0)=false:=decide_eq_false (by omega)
 have f5x:¬ ((j:Int) < 0):=by omega
 have f6:¬ l2 < j:=by omega
 have f6x:decide (l2 < j)=false:=decide_eq_false f6
 have f7:¬ l1 < ni:=hf.1
 have f7x:decide (l1 < ni)=false:=decide_eq_false f7
 have f8:l2 < nj:=hf.2
 have f8x:decide (l2 < nj)=true:=decide_eq_true f8
 clear hf
 go_wp2_with (first
  | (go_at_call 32; with_reducible refine (HNX.out _ B.out).mono ?_; rintro e wx ⟨rfl,q⟩; replace K2:=Lib.hid (K2.out.below q); replace K3:=Lib.hid (K3.out.below q); replace B:=Lib.hid (B.out.trans (q.mono B.out.size)); clear q; have y0:=K2.out.at_ 0 _ rfl; have y1:=K2.out.at_ 1 _ rfl; have z0:=K3.out.at_ 0 _ rfl; have z1:=K3.out.at_ 1 _ rfl; have z2:=K3.out.at_ 2 _ rfl)
  | fail "arm")
 go_ret2
 exact ⟨rfl,B.out⟩

noncomputable def costV (q:CQ) (k i j:Int):Value:=.tuple #[.string (if errI q k i j=0 then qT (cst q k.toNat i.toNat j.toNat) else ⟨#[]⟩),.int .i64 (errI q k i j)]
theorem lcost_any (q:CQ) (ok:OkQ q) (k i j:Int) (sl sr:Value) (w:World) (he:Env w) (hq:QAt w sl sr q) :
  Ret Tryz.prog w 24 #[.agg #[sl,sr,.string (qT (2 * q.ch)),.string (qT (2 * q.mi)),.string (qT (2 * q.ga)),.string (qT (2 * q.re))],.agg #[.int .i64 k,.int .i64 i,.int .i64 j]] (costV q k i j):=by
 by_cases hk:(1≤k∧k≤5)∧(0≤i∧i≤q.L.length)∧0≤j∧j≤q.R.length
 ·obtain ⟨k,rfl⟩:=Int.eq_ofNat_of_zero_le (show 0≤k by omega)
  obtain ⟨i,rfl⟩:=Int.eq_ofNat_of_zero_le (show 0≤i by omega)
  obtain ⟨j,rfl⟩:=Int.eq_ofNat_of_zero_le (show 0≤j by omega)
  have hk5:1≤k∧k≤5:=by omega
  have hi:i≤q.L.length:=by omega
  have hj:j≤q.R.length:=by omega
  have hE:=errI_S q k i j hk5 hi hj
  have hval:∀ e:Int,errI q k i j=e→e ≠ 0→costV q k i j=.tuple #[.string ⟨#[]⟩,.int .i64 e]:=fun e h hne=>by unfold costV; rw [h,if_neg hne]
  by_cases h1:q.L.length < nxI k i
  ·rw [hval 11 (hE.trans (if_pos (.inl h1))) (by decide)]
   exact lcost_farL q ok k i j hk5 hi hj h1 sl sr w hq
  by_cases h2:q.R.length < nxJ k j
  ·rw [hval 11 (hE.trans (if_pos (.inr h2))) (by decide)]
   exact lcost_farR q ok k i j hk5 hi hj ⟨h1,h2⟩ sl sr w hq
  have h12:¬ (q.L.length < nxI k i ∨ q.R.length < nxJ k j):=fun h=>h.elim h1 h2
  by_cases h3:(k=4∧¬ repI q.L i) ∨ (k=5∧¬ repI q.R j)
  ·rw [hval 7 (hE.trans ((if_neg h12).trans (if_pos h3))) (by decide)]
   rcases h3 with ⟨rfl,h⟩ | ⟨rfl,h⟩
   ·have hlt:i < q.L.length:=Nat.lt_of_succ_le (Nat.le_of_not_lt h1)
    by_cases h0:i=0
    ·exact lcost_4z q ok i j hi hj h0 hlt sl sr w he hq
    ·exact lcost_4d q ok i j hi hj (by omega) h hlt sl sr w he hq
   ·have hlt:j < q.R.length:=Nat.lt_of_succ_le (Nat.le_of_not_lt h2)
    by_cases h0:j=0
    ·exact lcost_5z q ok i j hi hj h0 hlt sl sr w he hq
    ·exact lcost_5d q ok i j hi hj (by omega) h hlt sl sr w he hq
  ·have hz:errS q k i j=0:=(if_neg h12).trans (if_neg h3)
   have hs:okS q k i j:=(errS_ok q k i j).1 hz
   have hv:costV q k i j=.tuple #[.string (qT (cst q k i j)),.int .i64 0]:=by
    unfold costV
    rw [hE,hz,if_pos rfl]
    simp only [Int.toNat_natCast]
   rw [hv]
   exact lcost_ok q ok k i j hk5 hi hj hs sl sr w he hq
 ·have h:=lcost_bad q k i j hk sl sr w hq
  have hE:errI q k i j ≠ 0:=fun h0=>by
   obtain ⟨k',i',j',rfl,rfl,rfl,h1,h2,h3,_⟩:=errI_ok h0
   have h5:1≤k'∧k'≤5:=by
    simp only [kinds,List.mem_cons,List.not_mem_nil,or_false] at h1
    omega
   exact hk (by omega)
  unfold costV
  rw [if_neg hE]
  exact h

end Go.Proofs.YthhkmihjnnfpgaaGreatDoor
