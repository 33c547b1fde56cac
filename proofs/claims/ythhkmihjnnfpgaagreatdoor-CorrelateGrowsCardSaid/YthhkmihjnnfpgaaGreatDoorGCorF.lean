/- Correlate: thick, next, repeats, right, the steps and their costs. -/
import Derived.Test.YthhkmihjnnfpgaaGreatDoorGCorA
import Derived.BigQuiet
/- The leaves of correlate: thick, next, repeats, right. -/
namespace Go.Proofs.YthhkmihjnnfpgaaGreatDoor
set_option linter.all false
open Go.RowKit

set_option maxRecDepth 100000 in
set_option maxHeartbeats 4000000 in
theorem thick_any (u:ByteArray) (a b:Int) (ha:a.natAbs≤1000) (hb:b.natAbs≤1000) (w:World) (he:Env w):Ret Tryz.prog w 98 #[.agg #[.string u,.string (qT (2 * a)),.string (qT (2 * b))]] (.string (qT (2 * (b - a)))):=by
 intro W hW
 have HSB:=Lib.hid (rSubQ (2 * b) (2 * a) (by omega) (by omega) W (he.below hW))
 rw [show 2 * b - 2 * a=2 * (b - a) by omega] at HSB
 have B:=Lib.hid (Below.refl W.heap.size W)
 clear he
 generalize qT (2 * a)=ta at *
 generalize qT (2 * b)=tb at *
 generalize qT (2 * (b - a))=tr at *
 go_enter Tryz.func98, Tryz.ntmps98
 go_upto_region 1 with (fail)
 have K1:=Lib.hid (Blk.fresh W #[.string u,.string ta,.string tb] 86)
 have qq:=below_new W (.cells #[.string u,.string ta,.string tb] 86)
 replace B:=Lib.hid (B.out.trans (qq.mono B.out.size))
 clear qq
 generalize (W.alloc (.cells #[.string u,.string ta,.string tb] 86))=W1 at *
 have y1:=K1.out.at_ 1 _ rfl
 have y2:=K1.out.at_ 2 _ rfl
 go_wp2_with (first
  | (go_at_call 64; with_reducible refine (HSB.out _ B.out).mono ?_; rintro e wx ⟨rfl,q⟩; replace B:=Lib.hid (B.out.trans (q.mono B.out.size)); clear q)
  | fail "arm")
 go_ret
 exact ⟨rfl,B.out⟩

def nzI (k i:Int):Int:=if k=1 ∨ k=2 ∨ k=4 then i + 1 else i
def nzJ (k j:Int):Int:=if k=2 ∨ k=4 then j else j + 1
theorem nzI_nat (k i:Nat):nzI k i=(nxI k i:Int):=by
 unfold nzI nxI
 by_cases h:k=1 ∨ k=2 ∨ k=4
 ·rw [if_pos h,if_pos (by omega)]; omega
 ·rw [if_neg h,if_neg (by omega)]
theorem nzJ_nat (k j:Nat) (hk:1≤k∧k≤5):nzJ k j=(nxJ k j:Int):=by
 unfold nzJ nxJ
 by_cases h:k=2 ∨ k=4
 ·rw [if_pos (show (k:Int)=2 ∨ (k:Int)=4 by omega),if_neg (show ¬ (k=1 ∨ k=3 ∨ k=5) by omega)]
 ·rw [if_neg (show ¬ ((k:Int)=2 ∨ (k:Int)=4) by omega),if_pos (show k=1 ∨ k=3 ∨ k=5 by omega)]; omega

set_option maxRecDepth 100000 in
set_option maxHeartbeats 4000000 in
theorem cnext_any (k i j:Int) (hi:i.natAbs≤1000) (hj:j.natAbs≤1000) (w:World):Ret Tryz.prog w 51 #[.agg #[.int .i64 k,.int .i64 i,.int .i64 j]] (.tuple #[.int .i64 (nzI k i),.int .i64 (nzJ k j)]):=by
 intro W hW
 have a1:IntKind.i64.wrap (i + 1)=i + 1:=IntWalk.i64_in _ (by omega)
 have a2:IntKind.i64.wrap (j + 1)=j + 1:=IntWalk.i64_in _ (by omega)
 have B:=Lib.hid (Below.refl W.heap.size W)
 have HN1:Hid (k=1→nzI k i=i + 1∧nzJ k j=j + 1):=Lib.hid (fun h=>by unfold nzI nzJ; rw [if_pos (by omega),if_neg (by omega)]; exact ⟨rfl,rfl⟩)
 have HN2:Hid (k=2 ∨ k=4→nzI k i=i + 1∧nzJ k j=j):=Lib.hid (fun h=>by unfold nzI nzJ; rw [if_pos (by omega),if_pos (by omega)]; exact ⟨rfl,rfl⟩)
 have HN3:Hid (k ≠ 1→k ≠ 2→k ≠ 4→nzI k i=i∧nzJ k j=j + 1):=Lib.hid (fun h h2 h4=>by unfold nzI nzJ; rw [if_neg (by omega),if_neg (by omega)]; exact ⟨rfl,rfl⟩)
 generalize nzI k i=ri at *
 generalize nzJ k j=rj at *
 go_enter Tryz.func51, Tryz.ntmps51
 go_upto_region 1 with (fail)
 have K1:=Lib.hid (Blk.fresh W #[.int .i64 k,.int .i64 i,.int .i64 j] 56)
 have qq:=below_new W (.cells #[.int .i64 k,.int .i64 i,.int .i64 j] 56)
 replace B:=Lib.hid (B.out.trans (qq.mono B.out.size))
 clear qq
 generalize (W.alloc (.cells #[.int .i64 k,.int .i64 i,.int .i64 j] 56))=W1 at *
 have y0:=K1.out.at_ 0 _ rfl
 have y1:=K1.out.at_ 1 _ rfl
 have y2:=K1.out.at_ 2 _ rfl
 by_cases h1:k=1
 ·obtain ⟨e1,e2⟩:=HN1.out h1
  subst h1 e1 e2
  go_upto_region 3 with (fail)
  go_quiet (fail)
  go_wp2
  go_ret2
  exact ⟨rfl,B.out.trans ((Drew.of _ _).below _)⟩
 by_cases h2:k=2
 ·obtain ⟨e1,e2⟩:=HN2.out (.inl h2)
  subst h2 e1 e2
  go_upto_region 6 with (fail)
  go_quiet (fail)
  go_wp2
  go_ret2
  exact ⟨rfl,B.out.trans ((Drew.of _ _).below _)⟩
 by_cases h4:k=4
 ·obtain ⟨e1,e2⟩:=HN2.out (.inr h4)
  subst h4 e1 e2
  go_upto_region 6 with (fail)
  go_quiet (fail)
  go_wp2
  go_ret2
  exact ⟨rfl,B.out.trans ((Drew.of _ _).below _)⟩
 obtain ⟨e1,e2⟩:=HN3.out h1 h2 h4
 subst e1 e2
 have t1:(k == 1)=false:=by rw [beq_eq_false_iff_ne]; exact h1
 have t2:(k == 2)=false:=by rw [beq_eq_false_iff_ne]; exact h2
 have t4:(k == 4)=false:=by rw [beq_eq_false_iff_ne]; exact h4
 go_upto_region 7 with (fail)
 go_quiet (fail)
 go_wp2
 go_ret2
 exact ⟨rfl,B.out.trans ((Drew.of _ _).below _)⟩

set_option maxRecDepth 100000 in
set_option maxHeartbeats 4000000 in
theorem repeats_any (l:List IV) (v:Value) (i:Nat) (hi:i < l.length) (hl:l.length≤1000) (w:World) (hv:SAt IV.cells 3 w v l):Ret Tryz.prog w 97 #[v,.int .i64 i] (.bool (decide (repI l i))):=by
 intro W hW
 have HV:=hv.below hW
 obtain ⟨d,o,c,rfl,hd,q1⟩:=HV.cell i hi
 have B:=Lib.hid (Below.refl W.heap.size W)
 by_cases h0:i=0
 ·subst h0
  have hr:decide (repI l 0)=false:=decide_eq_false (fun h=>by have:=h.1; omega)
  rw [hr]
  have hg:decide (((0:Nat):Int) > 0)=false:=decide_eq_false (by omega)
  clear HV q1 hv
  go_enter Tryz.func97, Tryz.ntmps97
  go_upto_region 1 with (fail)
  go_quiet (fail)
  go_wp2
  go_ret
  exact ⟨rfl,B.out.trans ((Drew.of _ _).below _)⟩
 ·obtain ⟨d2,o2,c2,e2,hd2,q2⟩:=HV.cell (i - 1) (by omega)
  injection e2 with e2 _ e2c
  injection e2 with e2
  injection e2 with e2a e2b
  subst e2a e2b e2c
  have x0:W.cell? ⟨d,o + i * 3,none⟩=_:=q1 0 _ rfl
  have z0:W.cell? ⟨d,o + (i - 1) * 3,none⟩=_:=q2 0 _ rfl
  have hg:0 < i:=by omega
  have hw:IntKind.i64.wrap ((i:Int) - 1)=((i - 1:Nat):Int):=by rw [IntWalk.i64_in _ (by omega)]; omega
  have hlt:(i:Int) < (l.length:Int):=by omega
  have hlt2:((i - 1:Nat):Int) < (l.length:Int):=by omega
  have u1:unt l i=l[i].u:=by unfold unt; rw [List.getElem?_eq_getElem hi]
  have u2:unt l (i - 1)=l[i - 1].u:=by unfold unt; rw [List.getElem?_eq_getElem (show i - 1 < l.length by omega)]
  have hr:decide (repI l i)=(l[i - 1].u.toList == l[i].u.toList):=by
   rw [ba_beq,decide_eq_decide]
   unfold repI
   rw [u1,u2]
   exact ⟨fun h=>h.2,fun h=>⟨by omega,h⟩⟩
  rw [hr]
  clear hr u1 u2 HV q1 q2 hv
  generalize l[i]=x at *
  generalize l[i - 1]=y at *
  generalize i - 1=i1 at *
  go_enter Tryz.func97, Tryz.ntmps97
  go_upto_region 1 with (fail)
  go_quiet (fail)
  go_wp2
  go_ret
  exact ⟨rfl,B.out.trans ((Drew.of _ _).below _)⟩

set_option maxRecDepth 100000 in
set_option maxHeartbeats 4000000 in
theorem cright_any (x:Int) (hx:x.natAbs < 1000000) (w:World) (he:Env w):Ret Tryz.prog w 49 #[.string (qT x)] (.tuple #[.string (qT x),.int .i64 0]):=by
 intro W hW
 have HCK:=Lib.hid (rCheckQ x hx W (he.below hW))
 have B:=Lib.hid (Below.refl W.heap.size W)
 clear he
 generalize qT x=tx at *
 go_enter Tryz.func49, Tryz.ntmps49
 go_wp2_with (first
  | (go_at_call 72; with_reducible refine (HCK.out _ B.out).mono ?_; rintro e wx ⟨rfl,q⟩; replace B:=Lib.hid (B.out.trans (q.mono B.out.size)); clear q)
  | fail "arm")
 go_ret2
 exact ⟨rfl,B.out⟩

end Go.Proofs.YthhkmihjnnfpgaaGreatDoor

/- checkStep. -/
namespace Go.Proofs.YthhkmihjnnfpgaaGreatDoor
set_option linter.all false
open Go.RowKit

def errS (q:CQ) (k i j:Nat):Int:=if q.L.length < nxI k i ∨ q.R.length < nxJ k j then 11 else if (k=4∧¬ repI q.L i) ∨ (k=5∧¬ repI q.R j) then 7 else 0
theorem errS_ok (q:CQ) (k i j:Nat):errS q k i j=0 ↔ okS q k i j:=by
 unfold errS okS
 by_cases h1:q.L.length < nxI k i ∨ q.R.length < nxJ k j
 ·rw [if_pos h1]
  constructor
  ·intro h; cases h
  ·intro h; omega
 ·rw [if_neg h1]
  by_cases h2:(k=4∧¬ repI q.L i) ∨ (k=5∧¬ repI q.R j)
  ·rw [if_pos h2]
   constructor
   ·intro h; cases h
   ·intro h
    rcases h2 with ⟨h3,h4⟩ | ⟨h3,h4⟩
    ·exact absurd (h.2.2.1 h3) h4
    ·exact absurd (h.2.2.2 h3) h4
  ·rw [if_neg h2]
   refine ⟨fun _=>⟨by omega,by omega,fun h=>?_,fun h=>?_⟩,fun _=>rfl⟩
   ·exact Classical.byContradiction fun h3=>h2 (.inl ⟨h,h3⟩)
   ·exact Classical.byContradiction fun h3=>h2 (.inr ⟨h,h3⟩)

set_option maxRecDepth 100000 in
set_option maxHeartbeats 4000000 in
theorem cstep_any (q:CQ) (ok:OkQ q) (k i j:Nat) (hk:1≤k∧k≤5) (hi:i≤q.L.length) (hj:j≤q.R.length) (sl sr:Value) (w:World) (hq:QAt w sl sr q) :
  Ret Tryz.prog w 61 #[.agg #[sl,sr,.string (qT (2 * q.ch)),.string (qT (2 * q.mi)),.string (qT (2 * q.ga)),.string (qT (2 * q.re))],.agg #[.int .i64 k,.int .i64 i,.int .i64 j]] (.int .i64 (errS q k i j)):=by
 intro W hW
 have hll:=ok.hl
 have hrr:=ok.hr
 have HNX:=Lib.hid (cnext_any k i j (by omega) (by omega) W)
 rw [nzI_nat,nzJ_nat k j hk] at HNX
 have HL:Hid (i < q.L.length→Ret Tryz.prog W 97 #[sl,.int .i64 i] (.bool (decide (repI q.L i)))):=Lib.hid (fun h=>repeats_any q.L sl i h (by omega) W (hq.l.below hW))
 have HR:Hid (j < q.R.length→Ret Tryz.prog W 97 #[sr,.int .i64 j] (.bool (decide (repI q.R j)))):=Lib.hid (fun h=>repeats_any q.R sr j h (by omega) W (hq.r.below hW))
 have HERR:Hid (errS q k i j=if q.L.length < nxI k i ∨ q.R.length < nxJ k j then 11 else if (k=4∧¬ repI q.L i) ∨ (k=5∧¬ repI q.R j) then 7 else 0):=Lib.hid rfl
 have HX4:Hid (k=4→nxI k i=i + 1):=Lib.hid (fun h=>by subst h; rfl)
 have HX5:Hid (k=5→nxJ k j=j + 1):=Lib.hid (fun h=>by subst h; rfl)
 obtain ⟨A1,n1,rfl,_⟩:=hq.l
 obtain ⟨A2,n2,rfl,_⟩:=hq.r
 have B:=Lib.hid (Below.refl W.heap.size W)
 have f1:¬ ((k:Int) < 1):=by omega
 have f2:¬ ((k:Int) > 5):=by omega
 have f3:decide ((i:Int) < 0)=false:=decide_eq_false (by omega)
 have f4:¬ q.L.length < i:=by omega
 have f5:decide ((j:Int) < 0)=false:=decide_eq_false (by omega)
 have f6:¬ q.R.length < j:=by omega
 clear ok hq hll hrr
 generalize errS q k i j=er at *
 generalize nxI k i=ri at *
 generalize nxJ k j=rj at *
 generalize q.L.length=l1 at *
 generalize q.R.length=l2 at *
 generalize qT (2 * q.ch)=c1 at *
 generalize qT (2 * q.mi)=c2 at *
 generalize qT (2 * q.ga)=c3 at *
 generalize qT (2 * q.re)=c4 at *
 go_enter Tryz.func61, Tryz.ntmps61
 go_upto_region 1 with (fail)
 have K2:=Lib.hid (Blk.fresh W #[.slice A1 l1 n1,.slice A2 l2 n2,.string c1,.string c2,.string c3,.string c4] 32)
 have q2:=below_new W (.cells #[.slice A1 l1 n1,.slice A2 l2 n2,.string c1,.string c2,.string c3,.string c4] 32)
 have HSZ:(W.alloc (.cells #[.slice A1 l1 n1,.slice A2 l2 n2,.string c1,.string c2,.string c3,.string c4] 32)).heap.size=W.heap.size + 1:=by simp
 replace B:=Lib.hid (B.out.trans (q2.mono B.out.size))
 generalize (W.alloc (.cells #[.slice A1 l1 n1,.slice A2 l2 n2,.string c1,.string c2,.string c3,.string c4] 32))=W1 at *
 have K3:=Lib.hid (Blk.fresh W1 #[.int .i64 k,.int .i64 i,.int .i64 j] 56)
 have q3:=below_new W1 (.cells #[.int .i64 k,.int .i64 i,.int .i64 j] 56)
 replace B:=Lib.hid (B.out.trans (q3.mono B.out.size))
 replace K2:=Lib.hid (K2.out.below q3)
 clear q2 q3
 generalize (W1.alloc (.cells #[.int .i64 k,.int .i64 i,.int .i64 j] 56))=W2 at *
 rw [HSZ] at K3
 clear HSZ
 obtain ⟨b2,hb2e⟩:∃ b2,W.heap.size=b2:=⟨_,rfl⟩
 rw [hb2e] at K2 K3 ⊢
 have HB2E:=Lib.hid hb2e
 clear hb2e
 generalize b2 + 1=b3 at *
 have y0:=K2.out.at_ 0 _ rfl
 have y1:=K2.out.at_ 1 _ rfl
 have z0:=K3.out.at_ 0 _ rfl
 have z1:=K3.out.at_ 1 _ rfl
 have z2:=K3.out.at_ 2 _ rfl
 by_cases h1:l1 < ri
 ·have g1:l1 < ri:=h1
  have HEN:=Lib.hid (HERR.out.trans (if_pos (.inl h1)))
  clear h1 HERR
  go_wp2_with (first
   | (go_at_call 51; with_reducible refine (HNX.out _ B.out).mono ?_; rintro e wx ⟨rfl,q⟩; replace K2:=Lib.hid (K2.out.below q); replace K3:=Lib.hid (K3.out.below q); replace B:=Lib.hid (B.out.trans (q.mono B.out.size)); clear q; have y0:=K2.out.at_ 0 _ rfl; have y1:=K2.out.at_ 1 _ rfl; have z0:=K3.out.at_ 0 _ rfl; have z1:=K3.out.at_ 1 _ rfl; have z2:=K3.out.at_ 2 _ rfl)
   | fail "arm")
  go_ret
  rw [HEN.out]
  exact ⟨rfl,B.out⟩
 have g1:¬ l1 < ri:=h1
 by_cases h2:l2 < rj
 ·have g2:l2 < rj:=h2
  have HEN:=Lib.hid (HERR.out.trans (if_pos (.inr h2)))
  clear h1 h2 HERR
  go_wp2_with (first
   | (go_at_call 51; with_reducible refine (HNX.out _ B.out).mono ?_; rintro e wx ⟨rfl,q⟩; replace K2:=Lib.hid (K2.out.below q); replace K3:=Lib.hid (K3.out.below q); replace B:=Lib.hid (B.out.trans (q.mono B.out.size)); clear q; have y0:=K2.out.at_ 0 _ rfl; have y1:=K2.out.at_ 1 _ rfl; have z0:=K3.out.at_ 0 _ rfl; have z1:=K3.out.at_ 1 _ rfl; have z2:=K3.out.at_ 2 _ rfl)
   | fail "arm")
  go_ret
  rw [HEN.out]
  exact ⟨rfl,B.out⟩
 have g2:¬ l2 < rj:=h2
 have HERR2:=Lib.hid (HERR.out.trans (if_neg (by omega)))
 clear HERR
 by_cases h4:k=4
 ·have hx:=HX4.out h4
  have HRL:=Lib.hid (HL.out (by omega))
  have e4:((k:Int) == 4)=true:=by rw [h4]; rfl
  have e5:((k:Int) == 5)=false:=by rw [h4]; rfl
  clear hx HX4 HX5 HL HR h1 h2
  by_cases h6:repI q.L i
  ·have HEN:=Lib.hid (HERR2.out.trans (if_neg (by rintro (⟨_,h⟩ | ⟨h,_⟩) <;> first | exact h h6 | omega)))
   rw [decide_eq_true h6] at HRL
   clear HERR2 h4 h6
   go_wp2_with (first
    | (go_at_call 51; with_reducible refine (HNX.out _ B.out).mono ?_; rintro e wx ⟨rfl,q⟩; replace K2:=Lib.hid (K2.out.below q); replace K3:=Lib.hid (K3.out.below q); replace B:=Lib.hid (B.out.trans (q.mono B.out.size)); clear q; have y0:=K2.out.at_ 0 _ rfl; have y1:=K2.out.at_ 1 _ rfl; have z0:=K3.out.at_ 0 _ rfl; have z1:=K3.out.at_ 1 _ rfl; have z2:=K3.out.at_ 2 _ rfl)
    | (go_at_call 97; with_reducible refine (HRL.out _ B.out).mono ?_; rintro e wx ⟨rfl,q⟩; replace K2:=Lib.hid (K2.out.below q); replace K3:=Lib.hid (K3.out.below q); replace B:=Lib.hid (B.out.trans (q.mono B.out.size)); clear q; have y0:=K2.out.at_ 0 _ rfl; have y1:=K2.out.at_ 1 _ rfl; have z0:=K3.out.at_ 0 _ rfl; have z1:=K3.out.at_ 1 _ rfl; have z2:=K3.out.at_ 2 _ rfl)
    | fail "arm")
   go_ret
   rw [HEN.out]
   exact ⟨rfl,B.out⟩
  ·have HEN:=Lib.hid (HERR2.out.trans (if_pos (.inl ⟨h4,h6⟩)))
   rw [decide_eq_false h6] at HRL
   clear HERR2 h4 h6
   go_wp2_with (first
    | (go_at_call 51; with_reducible refine (HNX.out _ B.out).mono ?_; rintro e wx ⟨rfl,q⟩; replace K2:=Lib.hid (K2.out.below q); replace K3:=Lib.hid (K3.out.below q); replace B:=Lib.hid (B.out.trans (q.mono B.out.size)); clear q; have y0:=K2.out.at_ 0 _ rfl; have y1:=K2.out.at_ 1 _ rfl; have z0:=K3.out.at_ 0 _ rfl; have z1:=K3.out.at_ 1 _ rfl; have z2:=K3.out.at_ 2 _ rfl)
    | (go_at_call 97; with_reducible refine (HRL.out _ B.out).mono ?_; rintro e wx ⟨rfl,q⟩; replace K2:=Lib.hid (K2.out.below q); replace K3:=Lib.hid (K3.out.below q); replace B:=Lib.hid (B.out.trans (q.mono B.out.size)); clear q; have y0:=K2.out.at_ 0 _ rfl; have y1:=K2.out.at_ 1 _ rfl; have z0:=K3.out.at_ 0 _ rfl; have z1:=K3.out.at_ 1 _ rfl; have z2:=K3.out.at_ 2 _ rfl)
    | fail "arm")
   go_ret
   rw [HEN.out]
   exact ⟨rfl,B.out⟩
 have e4:((k:Int) == 4)=false:=by rw [beq_eq_false_iff_ne]; omega
 by_cases h5:k=5
 ·have hx:=HX5.out h5
  have HRR:=Lib.hid (HR.out (by omega))
  have e5:((k:Int) == 5)=true:=by rw [h5]; rfl
  clear hx HX4 HX5 HL HR h1 h2
  by_cases h6:repI q.R j
  ·have HEN:=Lib.hid (HERR2.out.trans (if_neg (by rintro (⟨h,_⟩ | ⟨_,h⟩) <;> first | exact h h6 | omega)))
   rw [decide_eq_true h6] at HRR
   clear HERR2 h4 h5 h6
   go_wp2_with (first
    | (go_at_call 51; with_reducible refine (HNX.out _ B.out).mono ?_; rintro e wx ⟨rfl,q⟩; replace K2:=Lib.hid (K2.out.below q); replace K3:=Lib.hid (K3.out.below q); replace B:=Lib.hid (B.out.trans (q.mono B.out.size)); clear q; have y0:=K2.out.at_ 0 _ rfl; have y1:=K2.out.at_ 1 _ rfl; have z0:=K3.out.at_ 0 _ rfl; have z1:=K3.out.at_ 1 _ rfl; have z2:=K3.out.at_ 2 _ rfl)
    | (go_at_call 97; with_reducible refine (HRR.out _ B.out).mono ?_; rintro e wx ⟨rfl,q⟩; replace K2:=Lib.hid (K2.out.below q); replace K3:=Lib.hid (K3.out.below q); replace B:=Lib.hid (B.out.trans (q.mono B.out.size)); clear q; have y0:=K2.out.at_ 0 _ rfl; have y1:=K2.out.at_ 1 _ rfl; have z0:=K3.out.at_ 0 _ rfl; have z1:=K3.out.at_ 1 _ rfl; have z2:=K3.out.at_ 2 _ rfl)
    | fail "arm")
   go_ret
   rw [HEN.out]
   exact ⟨rfl,B.out⟩
  ·have HEN:=Lib.hid (HERR2.out.trans (if_pos (.inr ⟨h5,h6⟩)))
   rw [decide_eq_false h6] at HRR
   clear HERR2 h4 h5 h6
   go_wp2_with (first
    | (go_at_call 51; with_reducible refine (HNX.out _ B.out).mono ?_; rintro e wx ⟨rfl,q⟩; replace K2:=Lib.hid (K2.out.below q); replace K3:=Lib.hid (K3.out.below q); replace B:=Lib.hid (B.out.trans (q.mono B.out.size)); clear q; have y0:=K2.out.at_ 0 _ rfl; have y1:=K2.out.at_ 1 _ rfl; have z0:=K3.out.at_ 0 _ rfl; have z1:=K3.out.at_ 1 _ rfl; have z2:=K3.out.at_ 2 _ rfl)
    | (go_at_call 97; with_reducible refine (HRR.out _ B.out).mono ?_; rintro e wx ⟨rfl,q⟩; replace K2:=Lib.hid (K2.out.below q); replace K3:=Lib.hid (K3.out.below q); replace B:=Lib.hid (B.out.trans (q.mono B.out.size)); clear q; have y0:=K2.out.at_ 0 _ rfl; have y1:=K2.out.at_ 1 _ rfl; have z0:=K3.out.at_ 0 _ rfl; have z1:=K3.out.at_ 1 _ rfl; have z2:=K3.out.at_ 2 _ rfl)
    | fail "arm")
   go_ret
   rw [HEN.out]
   exact ⟨rfl,B.out⟩
 have e5:((k:Int) == 5)=false:=by rw [beq_eq_false_iff_ne]; omega
 have HEN:=Lib.hid (HERR2.out.trans (if_neg (by omega)))
 clear HERR2 h4 h5 HX4 HX5 HL HR h1 h2
 go_wp2_with (first
  | (go_at_call 51; with_reducible refine (HNX.out _ B.out).mono ?_; rintro e wx ⟨rfl,q⟩; replace K2:=Lib.hid (K2.out.below q); replace K3:=Lib.hid (K3.out.below q); replace B:=Lib.hid (B.out.trans (q.mono B.out.size)); clear q; have y0:=K2.out.at_ 0 _ rfl; have y1:=K2.out.at_ 1 _ rfl; have z0:=K3.out.at_ 0 _ rfl; have z1:=K3.out.at_ 1 _ rfl; have z2:=K3.out.at_ 2 _ rfl)
  | fail "arm")
 go_ret
 rw [HEN.out]
 exact ⟨rfl,B.out⟩

end Go.Proofs.YthhkmihjnnfpgaaGreatDoor

/- The costs of single steps. -/
namespace Go.Proofs.YthhkmihjnnfpgaaGreatDoor
set_option linter.all false
open Go.RowKit

set_option maxRecDepth 100000 in
set_option maxHeartbeats 4000000 in
theorem cost_2 (q:CQ) (ok:OkQ q) (i j:Nat) (hi:i≤q.L.length) (hj:j≤q.R.length) (hlt:i < q.L.length) (sl sr:Value) (w:World) (he:Env w) (hq:QAt w sl sr q) :
  Ret Tryz.prog w 62 #[.agg #[sl,sr,.string (qT (2 * q.ch)),.string (qT (2 * q.mi)),.string (qT (2 * q.ga)),.string (qT (2 * q.re))],.agg #[.int .i64 2,.int .i64 i,.int .i64 j]] (.string (qT (cst q 2 i j))):=by
 intro W hW
 have hdd0:=hW.size
 obtain ⟨de,oo,cx,rfl,hde,q1⟩:=hq.l.cell i hlt
 obtain ⟨A2,n2,rfl,_⟩:=hq.r
 have hx:=ok.okl i hlt
 have hc:cst q 2 i j=q.ga * (q.L[i].t - q.L[i].f):=by
  unfold cst thk
  rw [List.getElem?_eq_getElem hlt]
  rfl
 rw [hc]
 have hcc:=ok.ga
 generalize hxe:q.L[i]=x at *
 obtain ⟨_,x1,x2,x3,_,_⟩:=hx
 have HTH:=Lib.hid (fun W' (h:Below W.heap.size W W')=>thick_any x.u x.f x.t (by omega) (by omega) w he W' (hW.trans (h.mono hW.size)))
 have HMU:=Lib.hid (fun W' (h:Below W.heap.size W W')=>rMulQ q.ga (x.t - x.f) (by omega) (by omega) w he W' (hW.trans (h.mono hW.size)))
 have X0:Hid (W.cell? ⟨de,oo + i * 3,none⟩=some (.string x.u)):=Lib.hid ((hW.cell (p:=⟨de,oo + i * 3,none⟩) hde).trans (q1 0 _ rfl))
 have X1:Hid (W.cell? ⟨de,oo + i * 3 + 1,none⟩=some (.string (qT (2 * x.f)))):=Lib.hid ((hW.cell (p:=⟨de,oo + i * 3 + 1,none⟩) hde).trans (q1 1 _ rfl))
 have X2:Hid (W.cell? ⟨de,oo + i * 3 + 2,none⟩=some (.string (qT (2 * x.t)))):=Lib.hid ((hW.cell (p:=⟨de,oo + i * 3 + 2,none⟩) hde).trans (q1 2 _ rfl))
 replace hde:de < W.heap.size:=Nat.lt_of_lt_of_le hde hdd0
 have hll:=ok.hl
 have hrr:=ok.hr
 have hii:(i:Int) < (q.L.length:Int):=by omega
 have B:=Lib.hid (Below.refl W.heap.size W)
 clear ok hq he hcc x1 x2 x3 hc q1 hdd0 hlt hW hxe
 generalize x.u=xu at *
 generalize qT (2 * x.f)=xf at *
 generalize qT (2 * x.t)=xt at *
 generalize qT (q.ga * (x.t - x.f))=tr at *
 generalize qT (2 * (x.t - x.f))=tk at *
 generalize q.L.length=l1 at *
 generalize q.R.length=l2 at *
 generalize qT (2 * q.ch)=c1 at *
 generalize qT (2 * q.mi)=c2 at *
 generalize qT (2 * q.ga)=c3 at *
 generalize qT (2 * q.re)=c4 at *
 go_enter Tryz.func62, Tryz.ntmps62
 go_upto_region 1 with (fail)
 have K2:=Lib.hid (Blk.fresh W #[.slice (some ⟨de,oo,none⟩) l1 cx,.slice A2 l2 n2,.string c1,.string c2,.string c3,.string c4] 32)
 have q2:=below_new W (.cells #[.slice (some ⟨de,oo,none⟩) l1 cx,.slice A2 l2 n2,.string c1,.string c2,.string c3,.string c4] 32)
 have HSZ:(W.alloc (.cells #[.slice (some ⟨de,oo,none⟩) l1 cx,.slice A2 l2 n2,.string c1,.string c2,.string c3,.string c4] 32)).heap.size=W.heap.size + 1:=by simp
 replace B:=Lib.hid (B.out.trans (q2.mono B.out.size))
 generalize (W.alloc (.cells #[.slice (some ⟨de,oo,none⟩) l1 cx,.slice A2 l2 n2,.string c1,.string c2,.string c3,.string c4] 32))=W1 at *
 have K3:=Lib.hid (Blk.fresh W1 #[.int .i64 2,.int .i64 i,.int .i64 j] 56)
 have q3:=below_new W1 (.cells #[.int .i64 2,.int .i64 i,.int .i64 j] 56)
 replace B:=Lib.hid (B.out.trans (q3.mono B.out.size))
 replace K2:=Lib.hid (K2.out.below q3)
 clear q2 q3
 generalize (W1.alloc (.cells #[.int .i64 2,.int .i64 i,.int .i64 j] 56))=W2 at *
 rw [HSZ] at K3
 clear HSZ
 obtain ⟨b2,hb2e⟩:∃ b2,W.heap.size=b2:=⟨_,rfl⟩
 rw [hb2e] at K2 K3 ⊢
 have HB2E:=Lib.hid hb2e
 clear hb2e
 generalize b2 + 1=b3 at *
 have y0:=K2.out.at_ 0 _ rfl
 have y1:=K2.out.at_ 1 _ rfl
 have z0:=K3.out.at_ 0 _ rfl
 have z1:=K3.out.at_ 1 _ rfl
 have z2:=K3.out.at_ 2 _ rfl
 go_upto_region 9 with (fail)
 clear y0 y1 z0 z1 z2
 refine wp_tab (.v 53 (.pointer (some ⟨b2,2,none⟩)) :: .v 54 (.pointer (some ⟨b2,4,none⟩)) :: .v 55 (.string c3) :: .v 56 (.pointer (some ⟨b2,0,none⟩)) :: .v 57 (.slice (some ⟨de,oo,none⟩) l1 cx) :: .v 58 (.pointer (some ⟨b3,1,none⟩)) :: .v 59 (.int .i64 i) :: .v 60 (.pointer (some ⟨de,oo + i * 3,none⟩)) :: .v 61 (.agg #[.string xu,.string xf,.string xt]) :: .v 62 (.string tk) :: .v 63 (.string tr) :: .v 4 (.string tr) :: []) [] [⟨b2,#[.slice (some ⟨de,oo,none⟩) l1 cx,.slice A2 l2 n2,.string c1,.string c2,.string c3,.string c4], 32, none⟩,⟨b3,#[.int .i64 2,.int .i64 i,.int .i64 j], 56, none⟩] [] [] [] [] [] (by kernel_rfl) B.out ⟨K2.out,K3.out,trivial⟩ trivial ⟨pu,pu,ld 0 4,pu,ld 0 0,pu,ld 1 1,?_,?_,cl HTH.out,cl HMU.out,pu,trivial⟩ ?_
 ·intro L a U ho J hn dd KK kk; refine .free rfl ?_; have r4:=J.read 4 rfl (dd.get 4 rfl); have r6:=J.read 6 rfl (dd.get 6 rfl); go_simp; exact kk.out _ _ (J.st 7 rfl rfl)
 ·intro L a U ho J hn dd KK kk; refine .free rfl ?_; have r7:=J.read 7 rfl (dd.get 7 rfl); have e0:=(J.bb.cell (p:=⟨de,oo + i * 3,none⟩) hde).trans X0.out; have e1:=(J.bb.cell (p:=⟨de,oo + i * 3 + 1,none⟩) hde).trans X1.out; have e2:=(J.bb.cell (p:=⟨de,oo + i * 3 + 2,none⟩) hde).trans X2.out; go_simp; exact kk.out _ _ (J.st 8 rfl rfl)
 rintro σ W9 _ _ _ _ B9
 simp only [slotsOf,finX,nval,nvalN,nvalA,Nat.reduceBEq,cond_true,cond_false,putAll,Act.put,List.setIfInBounds_toArray,List.set_cons_succ,List.set_cons_zero]
 go_wp2
 go_ret
 exact ⟨rfl,B9.out⟩

set_option maxRecDepth 100000 in
set_option maxHeartbeats 4000000 in
theorem cost_3 (q:CQ) (ok:OkQ q) (i j:Nat) (hi:i≤q.L.length) (hj:j≤q.R.length) (hlt:j < q.R.length) (sl sr:Value) (w:World) (he:Env w) (hq:QAt w sl sr q) :
  Ret Tryz.prog w 62 #[.agg #[sl,sr,.string (qT (2 * q.ch)),.string (qT (2 * q.mi)),.string (qT (2 * q.ga)),.string (qT (2 * q.re))],.agg #[.int .i64 3,.int .i64 i,.int .i64 j]] (.string (qT (cst q 3 i j))):=by
 intro W hW
 have hdd0:=hW.size
 obtain ⟨de,oo,cx,rfl,hde,q1⟩:=hq.r.cell j hlt
 obtain ⟨A1,n1,rfl,_⟩:=hq.l
 have hx:=ok.okr j hlt
 have hc:cst q 3 i j=q.ga * (q.R[j].t - q.R[j].f):=by
  unfold cst thk
  rw [List.getElem?_eq_getElem hlt]
  rfl
 rw [hc]
 have hcc:=ok.ga
 generalize hxe:q.R[j]=x at *
 obtain ⟨_,x1,x2,x3,_,_⟩:=hx
 have HTH:=Lib.hid (fun W' (h:Below W.heap.size W W')=>thick_any x.u x.f x.t (by omega) (by omega) w he W' (hW.trans (h.mono hW.size)))
 have HMU:=Lib.hid (fun W' (h:Below W.heap.size W W')=>rMulQ q.ga (x.t - x.f) (by omega) (by omega) w he W' (hW.trans (h.mono hW.size)))
 have X0:Hid (W.cell? ⟨de,oo + j * 3,none⟩=some (.string x.u)):=Lib.hid ((hW.cell (p:=⟨de,oo + j * 3,none⟩) hde).trans (q1 0 _ rfl))
 have X1:Hid (W.cell? ⟨de,oo + j * 3 + 1,none⟩=some (.string (qT (2 * x.f)))):=Lib.hid ((hW.cell (p:=⟨de,oo + j * 3 + 1,none⟩) hde).trans (q1 1 _ rfl))
 have X2:Hid (W.cell? ⟨de,oo + j * 3 + 2,none⟩=some (.string (qT (2 * x.t)))):=Lib.hid ((hW.cell (p:=⟨de,oo + j * 3 + 2,none⟩) hde).trans (q1 2 _ rfl))
 replace hde:de < W.heap.size:=Nat.lt_of_lt_of_le hde hdd0
 have hll:=ok.hl
 have hrr:=ok.hr
 have hii:(j:Int) < (q.R.length:Int):=by omega
 have B:=Lib.hid (Below.refl W.heap.size W)
 clear ok hq he hcc x1 x2 x3 hc q1 hdd0 hlt hW hxe
 generalize x.u=xu at *
 generalize qT (2 * x.f)=xf at *
 generalize qT (2 * x.t)=xt at *
 generalize qT (q.ga * (x.t - x.f))=tr at *
 generalize qT (2 * (x.t - x.f))=tk at *
 generalize q.L.length=l1 at *
 generalize q.R.length=l2 at *
 generalize qT (2 * q.ch)=c1 at *
 generalize qT (2 * q.mi)=c2 at *
 generalize qT (2 * q.ga)=c3 at *
 generalize qT (2 * q.re)=c4 at *
 go_enter Tryz.func62, Tryz.ntmps62
 go_upto_region 1 with (fail)
 have K2:=Lib.hid (Blk.fresh W #[.slice A1 l1 n1,.slice (some ⟨de,oo,none⟩) l2 cx,.string c1,.string c2,.string c3,.string c4] 32)
 have q2:=below_new W (.cells #[.slice A1 l1 n1,.slice (some ⟨de,oo,none⟩) l2 cx,.string c1,.string c2,.string c3,.string c4] 32)
 have HSZ:(W.alloc (.cells #[.slice A1 l1 n1,.slice (some ⟨de,oo,none⟩) l2 cx,.string c1,.string c2,.string c3,.string c4] 32)).heap.size=W.heap.size + 1:=by simp
 replace B:=Lib.hid (B.out.trans (q2.mono B.out.size))
 generalize (W.alloc (.cells #[.slice A1 l1 n1,.slice (some ⟨de,oo,none⟩) l2 cx,.string c1,.string c2,.string c3,.string c4] 32))=W1 at *
 have K3:=Lib.hid (Blk.fresh W1 #[.int .i64 3,.int .i64 i,.int .i64 j] 56)
 have q3:=below_new W1 (.cells #[.int .i64 3,.int .i64 i,.int .i64 j] 56)
 replace B:=Lib.hid (B.out.trans (q3.mono B.out.size))
 replace K2:=Lib.hid (K2.out.below q3)
 clear q2 q3
 generalize (W1.alloc (.cells #[.int .i64 3,.int .i64 i,.int .i64 j] 56))=W2 at *
 rw [HSZ] at K3
 clear HSZ
 obtain ⟨b2,hb2e⟩:∃ b2,W.heap.size=b2:=⟨_,rfl⟩
 rw [hb2e] at K2 K3 ⊢
 have HB2E:=Lib.hid hb2e
 clear hb2e
 generalize b2 + 1=b3 at *
 have y0:=K2.out.at_ 0 _ rfl
 have y1:=K2.out.at_ 1 _ rfl
 have z0:=K3.out.at_ 0 _ rfl
 have z1:=K3.out.at_ 1 _ rfl
 have z2:=K3.out.at_ 2 _ rfl
 go_upto_region 11 with (fail)
 clear y0 y1 z0 z1 z2
 refine wp_tab (.v 66 (.pointer (some ⟨b2,2,none⟩)) :: .v 67 (.pointer (some ⟨b2,4,none⟩)) :: .v 68 (.string c3) :: .v 69 (.pointer (some ⟨b2,1,none⟩)) :: .v 70 (.slice (some ⟨de,oo,none⟩) l2 cx) :: .v 71 (.pointer (some ⟨b3,2,none⟩)) :: .v 72 (.int .i64 j) :: .v 73 (.pointer (some ⟨de,oo + j * 3,none⟩)) :: .v 74 (.agg #[.string xu,.string xf,.string xt]) :: .v 75 (.string tk) :: .v 76 (.string tr) :: .v 4 (.string tr) :: []) [] [⟨b2,#[.slice A1 l1 n1,.slice (some ⟨de,oo,none⟩) l2 cx,.string c1,.string c2,.string c3,.string c4], 32, none⟩,⟨b3,#[.int .i64 3,.int .i64 i,.int .i64 j], 56, none⟩] [] [] [] [] [] (by kernel_rfl) B.out ⟨K2.out,K3.out,trivial⟩ trivial ⟨pu,pu,ld 0 4,pu,ld 0 1,pu,ld 1 2,?_,?_,cl HTH.out,cl HMU.out,pu,trivial⟩ ?_
 ·intro L a U ho J hn dd KK kk; refine .free rfl ?_; have r4:=J.read 4 rfl (dd.get 4 rfl); have r6:=J.read 6 rfl (dd.get 6 rfl); go_simp; exact kk.out _ _ (J.st 7 rfl rfl)
 ·intro L a U ho J hn dd KK kk; refine .free rfl ?_; have r7:=J.read 7 rfl (dd.get 7 rfl); have e0:=(J.bb.cell (p:=⟨de,oo + j * 3,none⟩) hde).trans X0.out; have e1:=(J.bb.cell (p:=⟨de,oo + j * 3 + 1,none⟩) hde).trans X1.out; have e2:=(J.bb.cell (p:=⟨de,oo + j * 3 + 2,none⟩) hde).trans X2.out; go_simp; exact kk.out _ _ (J.st 8 rfl rfl)
 rintro σ W9 _ _ _ _ B9
 simp only [slotsOf,finX,nval,nvalN,nvalA,Nat.reduceBEq,cond_true,cond_false,putAll,Act.put,List.setIfInBounds_toArray,List.set_cons_succ,List.set_cons_zero]
 go_wp2
 go_ret
 exact ⟨rfl,B9.out⟩

set_option maxRecDepth 100000 in
set_option maxHeartbeats 4000000 in
theorem cost_4 (q:CQ) (ok:OkQ q) (i j:Nat) (hi:i≤q.L.length) (hj:j≤q.R.length) (hlt:i < q.L.length) (sl sr:Value) (w:World) (he:Env w) (hq:QAt w sl sr q) :
  Ret Tryz.prog w 62 #[.agg #[sl,sr,.string (qT (2 * q.ch)),.string (qT (2 * q.mi)),.string (qT (2 * q.ga)),.string (qT (2 * q.re))],.agg #[.int .i64 4,.int .i64 i,.int .i64 j]] (.string (qT (cst q 4 i j))):=by
 intro W hW
 have hdd0:=hW.size
 obtain ⟨de,oo,cx,rfl,hde,q1⟩:=hq.l.cell i hlt
 obtain ⟨A2,n2,rfl,_⟩:=hq.r
 have hx:=ok.okl i hlt
 have hc:cst q 4 i j=q.re * (q.L[i].t - q.L[i].f):=by
  unfold cst thk
  rw [List.getElem?_eq_getElem hlt]
  rfl
 rw [hc]
 have hcc:=ok.re
 generalize hxe:q.L[i]=x at *
 obtain ⟨_,x1,x2,x3,_,_⟩:=hx
 have HTH:=Lib.hid (fun W' (h:Below W.heap.size W W')=>thick_any x.u x.f x.t (by omega) (by omega) w he W' (hW.trans (h.mono hW.size)))
 have HMU:=Lib.hid (fun W' (h:Below W.heap.size W W')=>rMulQ q.re (x.t - x.f) (by omega) (by omega) w he W' (hW.trans (h.mono hW.size)))
 have X0:Hid (W.cell? ⟨de,oo + i * 3,none⟩=some (.string x.u)):=Lib.hid ((hW.cell (p:=⟨de,oo + i * 3,none⟩) hde).trans (q1 0 _ rfl))
 have X1:Hid (W.cell? ⟨de,oo + i * 3 + 1,none⟩=some (.string (qT (2 * x.f)))):=Lib.hid ((hW.cell (p:=⟨de,oo + i * 3 + 1,none⟩) hde).trans (q1 1 _ rfl))
 have X2:Hid (W.cell? ⟨de,oo + i * 3 + 2,none⟩=some (.string (qT (2 * x.t)))):=Lib.hid ((hW.cell (p:=⟨de,oo + i * 3 + 2,none⟩) hde).trans (q1 2 _ rfl))
 replace hde:de < W.heap.size:=Nat.lt_of_lt_of_le hde hdd0
 have hll:=ok.hl
 have hrr:=ok.hr
 have hii:(i:Int) < (q.L.length:Int):=by omega
 have B:=Lib.hid (Below.refl W.heap.size W)
 clear ok hq he hcc x1 x2 x3 hc q1 hdd0 hlt hW hxe
 generalize x.u=xu at *
 generalize qT (2 * x.f)=xf at *
 generalize qT (2 * x.t)=xt at *
 generalize qT (q.re * (x.t - x.f))=tr at *
 generalize qT (2 * (x.t - x.f))=tk at *
 generalize q.L.length=l1 at *
 generalize q.R.length=l2 at *
 generalize qT (2 * q.ch)=c1 at *
 generalize qT (2 * q.mi)=c2 at *
 generalize qT (2 * q.ga)=c3 at *
 generalize qT (2 * q.re)=c4 at *
 go_enter Tryz.func62, Tryz.ntmps62
 go_upto_region 1 with (fail)
 have K2:=Lib.hid (Blk.fresh W #[.slice (some ⟨de,oo,none⟩) l1 cx,.slice A2 l2 n2,.string c1,.string c2,.string c3,.string c4] 32)
 have q2:=below_new W (.cells #[.slice (some ⟨de,oo,none⟩) l1 cx,.slice A2 l2 n2,.string c1,.string c2,.string c3,.string c4] 32)
 have HSZ:(W.alloc (.cells #[.slice (some ⟨de,oo,none⟩) l1 cx,.slice A2 l2 n2,.string c1,.string c2,.string c3,.string c4] 32)).heap.size=W.heap.size + 1:=by simp
 replace B:=Lib.hid (B.out.trans (q2.mono B.out.size))
 generalize (W.alloc (.cells #[.slice (some ⟨de,oo,none⟩) l1 cx,.slice A2 l2 n2,.string c1,.string c2,.string c3,.string c4] 32))=W1 at *
 have K3:=Lib.hid (Blk.fresh W1 #[.int .i64 4,.int .i64 i,.int .i64 j] 56)
 have q3:=below_new W1 (.cells #[.int .i64 4,.int .i64 i,.int .i64 j] 56)
 replace B:=Lib.hid (B.out.trans (q3.mono B.out.size))
 replace K2:=Lib.hid (K2.out.below q3)
 clear q2 q3
 generalize (W1.alloc (.cells #[.int .i64 4,.int .i64 i,.int .i64 j] 56))=W2 at *
 rw [HSZ] at K3
 clear HSZ
 obtain ⟨b2,hb2e⟩:∃ b2,W.heap.size=b2:=⟨_,rfl⟩
 rw [hb2e] at K2 K3 ⊢
 have HB2E:=Lib.hid hb2e
 clear hb2e
 generalize b2 + 1=b3 at *
 have y0:=K2.out.at_ 0 _ rfl
 have y1:=K2.out.at_ 1 _ rfl
 have z0:=K3.out.at_ 0 _ rfl
 have z1:=K3.out.at_ 1 _ rfl
 have z2:=K3.out.at_ 2 _ rfl
 go_upto_region 13 with (fail)
 clear y0 y1 z0 z1 z2
 refine wp_tab (.v 79 (.pointer (some ⟨b2,2,none⟩)) :: .v 80 (.pointer (some ⟨b2,5,none⟩)) :: .v 81 (.string c4) :: .v 82 (.pointer (some ⟨b2,0,none⟩)) :: .v 83 (.slice (some ⟨de,oo,none⟩) l1 cx) :: .v 84 (.pointer (some ⟨b3,1,none⟩)) :: .v 85 (.int .i64 i) :: .v 86 (.pointer (some ⟨de,oo + i * 3,none⟩)) :: .v 87 (.agg #[.string xu,.string xf,.string xt]) :: .v 88 (.string tk) :: .v 89 (.string tr) :: .v 4 (.string tr) :: []) [] [⟨b2,#[.slice (some ⟨de,oo,none⟩) l1 cx,.slice A2 l2 n2,.string c1,.string c2,.string c3,.string c4], 32, none⟩,⟨b3,#[.int .i64 4,.int .i64 i,.int .i64 j], 56, none⟩] [] [] [] [] [] (by kernel_rfl) B.out ⟨K2.out,K3.out,trivial⟩ trivial ⟨pu,pu,ld 0 5,pu,ld 0 0,pu,ld 1 1,?_,?_,cl HTH.out,cl HMU.out,pu,trivial⟩ ?_
 ·intro L a U ho J hn dd KK kk; refine .free rfl ?_; have r4:=J.read 4 rfl (dd.get 4 rfl); have r6:=J.read 6 rfl (dd.get 6 rfl); go_simp; exact kk.out _ _ (J.st 7 rfl rfl)
 ·intro L a U ho J hn dd KK kk; refine .free rfl ?_; have r7:=J.read 7 rfl (dd.get 7 rfl); have e0:=(J.bb.cell (p:=⟨de,oo + i * 3,none⟩) hde).trans X0.out; have e1:=(J.bb.cell (p:=⟨de,oo + i * 3 + 1,none⟩) hde).trans X1.out; have e2:=(J.bb.cell (p:=⟨de,oo + i * 3 + 2,none⟩) hde).trans X2.out; go_simp; exact kk.out _ _ (J.st 8 rfl rfl)
 rintro σ W9 _ _ _ _ B9
 simp only [slotsOf,finX,nval,nvalN,nvalA,Nat.reduceBEq,cond_true,cond_false,putAll,Act.put,List.setIfInBounds_toArray,List.set_cons_succ,List.set_cons_zero]
 go_wp2
 go_ret
 exact ⟨rfl,B9.out⟩

set_option maxRecDepth 100000 in
set_option maxHeartbeats 4000000 in
theorem cost_5 (q:CQ) (ok:OkQ q) (i j:Nat) (hi:i≤q.L.length) (hj:j≤q.R.length) (hlt:j < q.R.length) (sl sr:Value) (w:World) (he:Env w) (hq:QAt w sl sr q) :
  Ret Tryz.prog w 62 #[.agg #[sl,sr,.string (qT (2 * q.ch)),.string (qT (2 * q.mi)),.string (qT (2 * q.ga)),.string (qT (2 * q.re))],.agg #[.int .i64 5,.int .i64 i,.int .i64 j]] (.string (qT (cst q 5 i j))):=by
 intro W hW
 have hdd0:=hW.size
 obtain ⟨de,oo,cx,rfl,hde,q1⟩:=hq.r.cell j hlt
 obtain ⟨A1,n1,rfl,_⟩:=hq.l
 have hx:=ok.okr j hlt
 have hc:cst q 5 i j=q.re * (q.R[j].t - q.R[j].f):=by
  unfold cst thk
  rw [List.getElem?_eq_getElem hlt]
  rfl
 rw [hc]
 have hcc:=ok.re
 generalize hxe:q.R[j]=x at *
 obtain ⟨_,x1,x2,x3,_,_⟩:=hx
 have HTH:=Lib.hid (fun W' (h:Below W.heap.size W W')=>thick_any x.u x.f x.t (by omega) (by omega) w he W' (hW.trans (h.mono hW.size)))
 have HMU:=Lib.hid (fun W' (h:Below W.heap.size W W')=>rMulQ q.re (x.t - x.f) (by omega) (by omega) w he W' (hW.trans (h.mono hW.size)))
 have X0:Hid (W.cell? ⟨de,oo + j * 3,none⟩=some (.string x.u)):=Lib.hid ((hW.cell (p:=⟨de,oo + j * 3,none⟩) hde).trans (q1 0 _ rfl))
 have X1:Hid (W.cell? ⟨de,oo + j * 3 + 1,none⟩=some (.string (qT (2 * x.f)))):=Lib.hid ((hW.cell (p:=⟨de,oo + j * 3 + 1,none⟩) hde).trans (q1 1 _ rfl))
 have X2:Hid (W.cell? ⟨de,oo + j * 3 + 2,none⟩=some (.string (qT (2 * x.t)))):=Lib.hid ((hW.cell (p:=⟨de,oo + j * 3 + 2,none⟩) hde).trans (q1 2 _ rfl))
 replace hde:de < W.heap.size:=Nat.lt_of_lt_of_le hde hdd0
 have hll:=ok.hl
 have hrr:=ok.hr
 have hii:(j:Int) < (q.R.length:Int):=by omega
 have B:=Lib.hid (Below.refl W.heap.size W)
 clear ok hq he hcc x1 x2 x3 hc q1 hdd0 hlt hW hxe
 generalize x.u=xu at *
 generalize qT (2 * x.f)=xf at *
 generalize qT (2 * x.t)=xt at *
 generalize qT (q.re * (x.t - x.f))=tr at *
 generalize qT (2 * (x.t - x.f))=tk at *
 generalize q.L.length=l1 at *
 generalize q.R.length=l2 at *
 generalize qT (2 * q.ch)=c1 at *
 generalize qT (2 * q.mi)=c2 at *
 generalize qT (2 * q.ga)=c3 at *
 generalize qT (2 * q.re)=c4 at *
 go_enter Tryz.func62, Tryz.ntmps62
 go_upto_region 1 with (fail)
 have K2:=Lib.hid (Blk.fresh W #[.slice A1 l1 n1,.slice (some ⟨de,oo,none⟩) l2 cx,.string c1,.string c2,.string c3,.string c4] 32)
 have q2:=below_new W (.cells #[.slice A1 l1 n1,.slice (some ⟨de,oo,none⟩) l2 cx,.string c1,.string c2,.string c3,.string c4] 32)
 have HSZ:(W.alloc (.cells #[.slice A1 l1 n1,.slice (some ⟨de,oo,none⟩) l2 cx,.string c1,.string c2,.string c3,.string c4] 32)).heap.size=W.heap.size + 1:=by simp
 replace B:=Lib.hid (B.out.trans (q2.mono B.out.size))
 generalize (W.alloc (.cells #[.slice A1 l1 n1,.slice (some ⟨de,oo,none⟩) l2 cx,.string c1,.string c2,.string c3,.string c4] 32))=W1 at *
 have K3:=Lib.hid (Blk.fresh W1 #[.int .i64 5,.int .i64 i,.int .i64 j] 56)
 have q3:=below_new W1 (.cells #[.int .i64 5,.int .i64 i,.int .i64 j] 56)
 replace B:=Lib.hid (B.out.trans (q3.mono B.out.size))
 replace K2:=Lib.hid (K2.out.below q3)
 clear q2 q3
 generalize (W1.alloc (.cells #[.int .i64 5,.int .i64 i,.int .i64 j] 56))=W2 at *
 rw [HSZ] at K3
 clear HSZ
 obtain ⟨b2,hb2e⟩:∃ b2,W.heap.size=b2:=⟨_,rfl⟩
 rw [hb2e] at K2 K3 ⊢
 have HB2E:=Lib.hid hb2e
 clear hb2e
 generalize b2 + 1=b3 at *
 have y0:=K2.out.at_ 0 _ rfl
 have y1:=K2.out.at_ 1 _ rfl
 have z0:=K3.out.at_ 0 _ rfl
 have z1:=K3.out.at_ 1 _ rfl
 have z2:=K3.out.at_ 2 _ rfl
 go_upto_region 14 with (fail)
 clear y0 y1 z0 z1 z2
 refine wp_tab (.v 90 (.pointer (some ⟨b2,2,none⟩)) :: .v 91 (.pointer (some ⟨b2,5,none⟩)) :: .v 92 (.string c4) :: .v 93 (.pointer (some ⟨b2,1,none⟩)) :: .v 94 (.slice (some ⟨de,oo,none⟩) l2 cx) :: .v 95 (.pointer (some ⟨b3,2,none⟩)) :: .v 96 (.int .i64 j) :: .v 97 (.pointer (some ⟨de,oo + j * 3,none⟩)) :: .v 98 (.agg #[.string xu,.string xf,.string xt]) :: .v 99 (.string tk) :: .v 100 (.string tr) :: .v 4 (.string tr) :: []) [] [⟨b2,#[.slice A1 l1 n1,.slice (some ⟨de,oo,none⟩) l2 cx,.string c1,.string c2,.string c3,.string c4], 32, none⟩,⟨b3,#[.int .i64 5,.int .i64 i,.int .i64 j], 56, none⟩] [] [] [] [] [] (by kernel_rfl) B.out ⟨K2.out,K3.out,trivial⟩ trivial ⟨pu,pu,ld 0 5,pu,ld 0 1,pu,ld 1 2,?_,?_,cl HTH.out,cl HMU.out,pu,trivial⟩ ?_
 ·intro L a U ho J hn dd KK kk; refine .free rfl ?_; have r4:=J.read 4 rfl (dd.get 4 rfl); have r6:=J.read 6 rfl (dd.get 6 rfl); go_simp; exact kk.out _ _ (J.st 7 rfl rfl)
 ·intro L a U ho J hn dd KK kk; refine .free rfl ?_; have r7:=J.read 7 rfl (dd.get 7 rfl); have e0:=(J.bb.cell (p:=⟨de,oo + j * 3,none⟩) hde).trans X0.out; have e1:=(J.bb.cell (p:=⟨de,oo + j * 3 + 1,none⟩) hde).trans X1.out; have e2:=(J.bb.cell (p:=⟨de,oo + j * 3 + 2,none⟩) hde).trans X2.out; go_simp; exact kk.out _ _ (J.st 8 rfl rfl)
 rintro σ W9 _ _ _ _ B9
 simp only [slotsOf,finX,nval,nvalN,nvalA,Nat.reduceBEq,cond_true,cond_false,putAll,Act.put,List.setIfInBounds_toArray,List.set_cons_succ,List.set_cons_zero]
 go_wp2
 go_ret
 exact ⟨rfl,B9.out⟩

end Go.Proofs.YthhkmihjnnfpgaaGreatDoor

/- The cost of a match; the cost of a step. -/
namespace Go.Proofs.YthhkmihjnnfpgaaGreatDoor
set_option linter.all false
open Go.RowKit

set_option maxRecDepth 100000 in
set_option maxHeartbeats 4000000 in
theorem cost_1 (q:CQ) (ok:OkQ q) (i j:Nat) (hi:i < q.L.length) (hj:j < q.R.length) (sl sr:Value) (w:World) (he:Env w) (hq:QAt w sl sr q) :
  Ret Tryz.prog w 62 #[.agg #[sl,sr,.string (qT (2 * q.ch)),.string (qT (2 * q.mi)),.string (qT (2 * q.ga)),.string (qT (2 * q.re))],.agg #[.int .i64 1,.int .i64 i,.int .i64 j]] (.string (qT (cst q 1 i j))):=by
 intro W hW
 have hdd0:=hW.size
 obtain ⟨dx,ox,cx,rfl,hdx,q1⟩:=hq.l.cell i hi
 obtain ⟨dy,oy,cy,rfl,hdy,q2⟩:=hq.r.cell j hj
 have hx:=ok.okl i hi
 have hy:=ok.okr j hj
 have hc:Hid (cst q 1 i j=q.ch * (((q.L[i].t - q.L[i].f) - (q.R[j].t - q.R[j].f)).natAbs:Int) + (if q.L[i].u=q.R[j].u then 0 else q.mi * ((q.L[i].t - q.L[i].f) + (q.R[j].t - q.R[j].f)))):=by
  show _=_
  unfold cst thk unt
  rw [List.getElem?_eq_getElem hi,List.getElem?_eq_getElem hj]
  rfl
 generalize hce:cst q 1 i j=cc at *
 have k1:=ok.ch
 have k2:=ok.mi
 generalize q.L[i]=x at *
 generalize q.R[j]=y at *
 obtain ⟨_,x1,x2,x3,_,_⟩:=hx
 obtain ⟨_,y1,y2,y3,_,_⟩:=hy
 have up:∀ W',Below W.heap.size W W'→Below w.heap.size w W':=fun W' h=>hW.trans (h.mono hW.size)
 have HT1:=Lib.hid (fun W' (h:Below W.heap.size W W')=>thick_any x.u x.f x.t (by omega) (by omega) w he W' (up W' h))
 have HT2:=Lib.hid (fun W' (h:Below W.heap.size W W')=>thick_any y.u y.f y.t (by omega) (by omega) w he W' (up W' h))
 have hm1:(q.ch * (((x.t - x.f) - (y.t - y.f)).natAbs:Int)).natAbs < 100000:=by
  have e:=Int.natAbs_mul q.ch (((x.t - x.f) - (y.t - y.f)).natAbs:Int)
  have:=Nat.mul_le_mul (show q.ch.natAbs≤20 by omega) (show ((((x.t - x.f) - (y.t - y.f)).natAbs:Int)).natAbs≤1000 by omega)
  omega
 have hm2:(q.mi * ((x.t - x.f) + (y.t - y.f))).natAbs < 100000:=by
  have e:=Int.natAbs_mul q.mi ((x.t - x.f) + (y.t - y.f))
  have:=Nat.mul_le_mul (show q.mi.natAbs≤20 by omega) (show ((x.t - x.f) + (y.t - y.f)).natAbs≤2000 by omega)
  omega
 have HSU:=Lib.hid (fun W' (h:Below W.heap.size W W')=>rSubQ (2 * (x.t - x.f)) (2 * (y.t - y.f)) (by omega) (by omega) w he W' (up W' h))
 rw [show 2 * (x.t - x.f) - 2 * (y.t - y.f)=2 * ((x.t - x.f) - (y.t - y.f)) by omega] at HSU
 have HAB:=Lib.hid (fun W' (h:Below W.heap.size W W')=>rAbsQ (2 * ((x.t - x.f) - (y.t - y.f))) w he W' (up W' h))
 rw [show ((2 * ((x.t - x.f) - (y.t - y.f))).natAbs:Int)=2 * (((x.t - x.f) - (y.t - y.f)).natAbs:Int) by omega] at HAB
 have HM1:=Lib.hid (fun W' (h:Below W.heap.size W W')=>rMulQ q.ch (((x.t - x.f) - (y.t - y.f)).natAbs:Int) (by omega) (by omega) w he W' (up W' h))
 have HAD:=Lib.hid (fun W' (h:Below W.heap.size W W')=>rAddQ (2 * (x.t - x.f)) (2 * (y.t - y.f)) (by omega) (by omega) w he W' (up W' h))
 rw [show 2 * (x.t - x.f) + 2 * (y.t - y.f)=2 * ((x.t - x.f) + (y.t - y.f)) by omega] at HAD
 have HM2:=Lib.hid (fun W' (h:Below W.heap.size W W')=>rMulQ q.mi ((x.t - x.f) + (y.t - y.f)) (by omega) (by omega) w he W' (up W' h))
 have HA2:=Lib.hid (fun W' (h:Below W.heap.size W W')=>rAddQ (q.ch * (((x.t - x.f) - (y.t - y.f)).natAbs:Int)) (q.mi * ((x.t - x.f) + (y.t - y.f))) (by omega) (by omega) w he W' (up W' h))
 have hcq:Hid (qT cc=if x.u=y.u then qT (q.ch * (((x.t - x.f) - (y.t - y.f)).natAbs:Int)) else qT (q.ch * (((x.t - x.f) - (y.t - y.f)).natAbs:Int) + q.mi * ((x.t - x.f) + (y.t - y.f)))):=by
  show _=_
  rw [hc.out]
  split
  ·rw [Int.add_zero]
  ·rfl
 have X0:Hid (W.cell? ⟨dx,ox + i * 3,none⟩=some (.string x.u)):=Lib.hid ((hW.cell (p:=⟨dx,ox + i * 3,none⟩) hdx).trans (q1 0 _ rfl))
 have X1:Hid (W.cell? ⟨dx,ox + i * 3 + 1,none⟩=some (.string (qT (2 * x.f)))):=Lib.hid ((hW.cell (p:=⟨dx,ox + i * 3 + 1,none⟩) hdx).trans (q1 1 _ rfl))
 have X2:Hid (W.cell? ⟨dx,ox + i * 3 + 2,none⟩=some (.string (qT (2 * x.t)))):=Lib.hid ((hW.cell (p:=⟨dx,ox + i * 3 + 2,none⟩) hdx).trans (q1 2 _ rfl))
 have Y0:Hid (W.cell? ⟨dy,oy + j * 3,none⟩=some (.string y.u)):=Lib.hid ((hW.cell (p:=⟨dy,oy + j * 3,none⟩) hdy).trans (q2 0 _ rfl))
 have Y1:Hid (W.cell? ⟨dy,oy + j * 3 + 1,none⟩=some (.string (qT (2 * y.f)))):=Lib.hid ((hW.cell (p:=⟨dy,oy + j * 3 + 1,none⟩) hdy).trans (q2 1 _ rfl))
 have Y2:Hid (W.cell? ⟨dy,oy + j * 3 + 2,none⟩=some (.string (qT (2 * y.t)))):=Lib.hid ((hW.cell (p:=⟨dy,oy + j * 3 + 2,none⟩) hdy).trans (q2 2 _ rfl))
 replace hdx:dx < W.heap.size:=Nat.lt_of_lt_of_le hdx hdd0
 replace hdy:dy < W.heap.size:=Nat.lt_of_lt_of_le hdy hdd0
 have hii:(i:Int) < (q.L.length:Int):=by omega
 have hjj:(j:Int) < (q.R.length:Int):=by omega
 have B:=Lib.hid (Below.refl W.heap.size W)
 clear ok hq he hc hce k1 k2 x1 x2 x3 y1 y2 y3 hm1 hm2 q1 q2 hdd0 hi hj up hW
 have hu:=ba_beq x.u y.u
 have HUE:Hid (decide (x.u=y.u)=true→qT cc=qT (q.ch * (((x.t - x.f) - (y.t - y.f)).natAbs:Int))):=Lib.hid (fun h=>by rw [hcq.out,if_pos (of_decide_eq_true h)])
 have HUN:Hid (decide (x.u=y.u)=false→qT cc=qT (q.ch * (((x.t - x.f) - (y.t - y.f)).natAbs:Int) + q.mi * ((x.t - x.f) + (y.t - y.f)))):=Lib.hid (fun h=>by rw [hcq.out,if_neg (of_decide_eq_false h)])
 clear hcq
 generalize decide (x.u=y.u)=ue at *
 generalize qT cc=rr at *
 generalize x.u=xu at *
 generalize y.u=yu at *
 generalize qT (q.ch * (((x.t - x.f) - (y.t - y.f)).natAbs:Int) + q.mi * ((x.t - x.f) + (y.t - y.f)))=r2 at *
 generalize qT (q.ch * (((x.t - x.f) - (y.t - y.f)).natAbs:Int))=m1 at *
 generalize qT (q.mi * ((x.t - x.f) + (y.t - y.f)))=m2 at *
 generalize qT (2 * (((x.t - x.f) - (y.t - y.f)).natAbs:Int))=a1 at *
 generalize qT (2 * ((x.t - x.f) - (y.t - y.f)))=s1 at *
 generalize qT (2 * ((x.t - x.f) + (y.t - y.f)))=s2 at *
 generalize qT (2 * (x.t - x.f))=t1 at *
 generalize qT (2 * (y.t - y.f))=t2 at *
 generalize qT (2 * x.f)=xf at *
 generalize qT (2 * x.t)=xt at *
 generalize qT (2 * y.f)=yf at *
 generalize qT (2 * y.t)=yt at *
 generalize q.L.length=l1 at *
 generalize q.R.length=l2 at *
 generalize qT (2 * q.ch)=c1 at *
 generalize qT (2 * q.mi)=c2 at *
 generalize qT (2 * q.ga)=c3 at *
 generalize qT (2 * q.re)=c4 at *
 go_enter Tryz.func62, Tryz.ntmps62
 go_upto_region 1 with (fail)
 have K2:=Lib.hid (Blk.fresh W #[.slice (some ⟨dx,ox,none⟩) l1 cx,.slice (some ⟨dy,oy,none⟩) l2 cy,.string c1,.string c2,.string c3,.string c4] 32)
 have q2:=below_new W (.cells #[.slice (some ⟨dx,ox,none⟩) l1 cx,.slice (some ⟨dy,oy,none⟩) l2 cy,.string c1,.string c2,.string c3,.string c4] 32)
 have HSZ:(W.alloc (.cells #[.slice (some ⟨dx,ox,none⟩) l1 cx,.slice (some ⟨dy,oy,none⟩) l2 cy,.string c1,.string c2,.string c3,.string c4] 32)).heap.size=W.heap.size + 1:=by simp
 replace B:=Lib.hid (B.out.trans (q2.mono B.out.size))
 generalize (W.alloc (.cells #[.slice (some ⟨dx,ox,none⟩) l1 cx,.slice (some ⟨dy,oy,none⟩) l2 cy,.string c1,.string c2,.string c3,.string c4] 32))=W1 at *
 have K3:=Lib.hid (Blk.fresh W1 #[.int .i64 1,.int .i64 i,.int .i64 j] 56)
 have q3:=below_new W1 (.cells #[.int .i64 1,.int .i64 i,.int .i64 j] 56)
 replace B:=Lib.hid (B.out.trans (q3.mono B.out.size))
 replace K2:=Lib.hid (K2.out.below q3)
 clear q2 q3
 generalize (W1.alloc (.cells #[.int .i64 1,.int .i64 i,.int .i64 j] 56))=W2 at *
 rw [HSZ] at K3
 clear HSZ
 obtain ⟨b2,hb2e⟩:∃ b2,W.heap.size=b2:=⟨_,rfl⟩
 rw [hb2e] at K2 K3 ⊢
 have HB2E:=Lib.hid hb2e
 clear hb2e
 generalize b2 + 1=b3 at *
 have y0:=K2.out.at_ 0 _ rfl
 have y1:=K2.out.at_ 1 _ rfl
 have z0:=K3.out.at_ 0 _ rfl
 have z1:=K3.out.at_ 1 _ rfl
 have z2:=K3.out.at_ 2 _ rfl
 go_upto_region 3 with (fail)
 clear y0 y1 z0 z1 z2
 have lt2:=K2.out.lt
 have lt3:=K3.out.lt
 refine wp_tab (.v 12 (.pointer (some ⟨b2,0,none⟩)) :: .v 13 (.slice (some ⟨dx,ox,none⟩) l1 cx) :: .v 14 (.pointer (some ⟨b3,1,none⟩)) :: .v 15 (.int .i64 i) :: .v 16 (.pointer (some ⟨dx,ox + i * 3,none⟩)) :: .v 17 (.agg #[.string xu,.string xf,.string xt]) :: .v 18 (.pointer (some ⟨b2,1,none⟩)) :: .v 19 (.slice (some ⟨dy,oy,none⟩) l2 cy) :: .v 20 (.pointer (some ⟨b3,2,none⟩)) :: .v 21 (.int .i64 j) :: .v 22 (.pointer (some ⟨dy,oy + j * 3,none⟩)) :: .v 23 (.agg #[.string yu,.string yf,.string yt]) :: .n 5 :: .n 6 :: .z :: .z :: []) [⟨12,5,fun g=>.pointer (some ⟨g,0,none⟩),#[.string ⟨#[]⟩,.string ⟨#[]⟩,.string ⟨#[]⟩], 86, some (14,#[.string xu,.string xf,.string xt])⟩,⟨13,6,fun g=>.pointer (some ⟨g,0,none⟩),#[.string ⟨#[]⟩,.string ⟨#[]⟩,.string ⟨#[]⟩], 86, some (15,#[.string yu,.string yf,.string yt])⟩] [⟨b2,#[.slice (some ⟨dx,ox,none⟩) l1 cx,.slice (some ⟨dy,oy,none⟩) l2 cy,.string c1,.string c2,.string c3,.string c4], 32, none⟩,⟨b3,#[.int .i64 1,.int .i64 i,.int .i64 j], 56, none⟩] [] [(14,12),(15,13)] [(0,1)] [] [] (by kernel_rfl) B.out ⟨K2.out,K3.out,trivial⟩ trivial ⟨pu,ld 0 0,pu,ld 1 1,?_,?_,pu,ld 0 1,pu,ld 1 2,?_,?_,ml 0,ml 1,?_,?_,trivial⟩ ?_
 ·intro L a U ho J hn dd KK kk; refine .free rfl ?_; have r1:=J.read 1 rfl (dd.get 1 rfl); have r3:=J.read 3 rfl (dd.get 3 rfl); go_simp; exact kk.out _ _ (J.st 4 rfl rfl)
 ·intro L a U ho J hn dd KK kk; refine .free rfl ?_; have r4:=J.read 4 rfl (dd.get 4 rfl); have e0:=(J.bb.cell (p:=⟨dx,ox + i * 3,none⟩) hdx).trans X0.out; have e1:=(J.bb.cell (p:=⟨dx,ox + i * 3 + 1,none⟩) hdx).trans X1.out; have e2:=(J.bb.cell (p:=⟨dx,ox + i * 3 + 2,none⟩) hdx).trans X2.out; go_simp; exact kk.out _ _ (J.st 5 rfl rfl)
 ·intro L a U ho J hn dd KK kk; refine .free rfl ?_; have r7:=J.read 7 rfl (dd.get 7 rfl); have r9:=J.read 9 rfl (dd.get 9 rfl); go_simp; exact kk.out _ _ (J.st 10 rfl rfl)
 ·intro L a U ho J hn dd KK kk; refine .free rfl ?_; have r10:=J.read 10 rfl (dd.get 10 rfl); have e0:=(J.bb.cell (p:=⟨dy,oy + j * 3,none⟩) hdy).trans Y0.out; have e1:=(J.bb.cell (p:=⟨dy,oy + j * 3 + 1,none⟩) hdy).trans Y1.out; have e2:=(J.bb.cell (p:=⟨dy,oy + j * 3 + 2,none⟩) hdy).trans Y2.out; go_simp; exact kk.out _ _ (J.st 11 rfl rfl)
 ·intro L a U ho J hn dd KK kk; refine .free rfl ?_; have r5:a.tmps[(5:Nat)]?.getD undef=.pointer (some ⟨(blkOf (slotOf a 5)),0,none⟩):=J.readN 0 rfl (dd.get 12 rfl); have r5:=J.read 5 rfl (dd.get 5 rfl); have kb:=(J.nwB 0 rfl (dd.get 12 rfl) hn).blk; have c0:=kb.at_ 0 _ rfl; have z0:=kb.free 0; have c1:=kb.at_ 1 _ rfl; have z1:=kb.free 1; have c2:=kb.at_ 2 _ rfl; have z2:=kb.free 2; clear kb; go_simp; exact kk.out undef _ (J.storedN 14 0 rfl rfl rfl rfl rfl 0 [.string xu,.string xf,.string xt] rfl ⟨lt2,lt3,trivial⟩ (dd.get 12 rfl) hn ⟨.inr (dd.get 12 rfl),.inl (by decide),trivial⟩)
 ·intro L a U ho J hn dd KK kk; refine .free rfl ?_; have r6:a.tmps[(6:Nat)]?.getD undef=.pointer (some ⟨(blkOf (slotOf a 6)),0,none⟩):=J.readN 1 rfl (dd.get 13 rfl); have r11:=J.read 11 rfl (dd.get 11 rfl); have kb:=(J.nwB 1 rfl (dd.get 13 rfl) hn).blk; have c0:=kb.at_ 0 _ rfl; have z0:=kb.free 0; have c1:=kb.at_ 1 _ rfl; have z1:=kb.free 1; have c2:=kb.at_ 2 _ rfl; have z2:=kb.free 2; clear kb; go_simp; exact kk.out undef _ (J.storedN 15 1 rfl rfl rfl rfl rfl 0 [.string yu,.string yf,.string yt] rfl ⟨lt2,lt3,trivial⟩ (dd.get 13 rfl) hn ⟨.inl (by decide),.inr (dd.get 13 rfl),trivial⟩)
 clear K2 K3 B lt2 lt3 X0 X1 X2 Y0 Y1 Y2 hii hjj
 rintro σ W9 ⟨⟨_,K5⟩,⟨_,K6⟩,_⟩ ⟨K2,K3,_⟩ _ _ B
 simp only [slotsOf,finX,nval,nvalN,nvalA,Nat.reduceBEq,cond_true,cond_false,putAll,Act.put,List.setIfInBounds_toArray,List.set_cons_succ,List.set_cons_zero]
 generalize blkOf (σ 5)=b5 at *
 generalize blkOf (σ 6)=b6 at *
 go_upto_region 4 with (fail)
 refine wp_tab (.v 24 (.pointer (some ⟨b2,2,none⟩)) :: .v 25 (.pointer (some ⟨b2,2,none⟩)) :: .v 26 (.string c1) :: .v 27 (.agg #[.string xu,.string xf,.string xt]) :: .v 28 (.string t1) :: .v 29 (.agg #[.string yu,.string yf,.string yt]) :: .v 30 (.string t2) :: .v 31 (.string s1) :: .v 32 (.string a1) :: .v 33 (.string m1) :: .v 7 (.string m1) :: []) [] [⟨b2,#[.slice (some ⟨dx,ox,none⟩) l1 cx,.slice (some ⟨dy,oy,none⟩) l2 cy,.string c1,.string c2,.string c3,.string c4], 32, none⟩,⟨b5,#[.string xu,.string xf,.string xt], 86, none⟩,⟨b6,#[.string yu,.string yf,.string yt], 86, none⟩] [] [] [] [] [] (by kernel_rfl) B.out ⟨K2.out,K5.out,K6.out,trivial⟩ trivial ⟨pu,pu,ld 0 2,ld 1 0,cl HT1.out,ld 2 0,cl HT2.out,cl HSU.out,cl HAB.out,cl HM1.out,pu,trivial⟩ ?_
 clear K2 K5 K6 B HSU HAB HM1
 rintro σ2 W10 _ ⟨K2,K5,K6,_⟩ _ _ B
 simp only [slotsOf,finX,nval,nvalN,nvalA,Nat.reduceBEq,cond_true,cond_false,putAll,Act.put,List.setIfInBounds_toArray,List.set_cons_succ,List.set_cons_zero]
 have x0:=K5.out.at_ 0 _ rfl
 have w0:=K6.out.at_ 0 _ rfl
 cases ue with
 | true =>
  have hr:=HUE.out rfl
  subst hr
  go_wp2
  go_ret
  exact ⟨rfl,B.out⟩
 | false =>
  have hr:=HUN.out rfl
  subst hr
  go_upto_region 6 with (fail)
  clear x0 w0
  refine wp_tab (.v 39 (.string m1) :: .v 40 (.pointer (some ⟨b2,2,none⟩)) :: .v 41 (.pointer (some ⟨b2,3,none⟩)) :: .v 42 (.string c2) :: .v 43 (.agg #[.string xu,.string xf,.string xt]) :: .v 44 (.string t1) :: .v 45 (.agg #[.string yu,.string yf,.string yt]) :: .v 46 (.string t2) :: .v 47 (.string s2) :: .v 48 (.string m2) :: .v 49 (.string rr) :: .v 7 (.string rr) :: []) [] [⟨b2,#[.slice (some ⟨dx,ox,none⟩) l1 cx,.slice (some ⟨dy,oy,none⟩) l2 cy,.string c1,.string c2,.string c3,.string c4], 32, none⟩,⟨b5,#[.string xu,.string xf,.string xt], 86, none⟩,⟨b6,#[.string yu,.string yf,.string yt], 86, none⟩] [] [(11,0)] [] [] [(7,11,.string m1)] (by kernel_rfl) B.out ⟨K2.out,K5.out,K6.out,trivial⟩ ⟨rfl,trivial⟩ ⟨?_,pu,pu,ld 0 3,ld 1 0,cl HT1.out,ld 2 0,cl HT2.out,cl HAD.out,cl HM2.out,cl HA2.out,?_,trivial⟩ ?_
  ·intro L a U ho J hn dd KK kk; refine .free rfl ?_; have r7:a.tmps[(7:Nat)]?.getD undef=.string m1:=J.readP 0 rfl (fun h=>hn (J.ord 0 _ rfl h)); go_simp; exact kk.out _ _ (J.st 0 rfl rfl)
  ·intro L a U ho J hn dd KK kk; refine .free rfl ?_; have r49:=J.read 10 rfl (dd.get 10 rfl); go_simp; exact kk.out _ _ (J.sto 11 rfl rfl ⟨.inr (dd.get 0 rfl),trivial⟩ (Below.refl _ _))
  rintro σ3 W11 _ _ _ _ B11
  simp only [slotsOf,finX,nval,nvalN,nvalA,Nat.reduceBEq,cond_true,cond_false,putAll,Act.put,List.setIfInBounds_toArray,List.set_cons_succ,List.set_cons_zero]
  go_wp2
  go_ret
  exact ⟨rfl,B11.out⟩

theorem cost_any (q:CQ) (ok:OkQ q) (k i j:Nat) (hk:1≤k∧k≤5) (hs:okS q k i j) (sl sr:Value) (w:World) (he:Env w) (hq:QAt w sl sr q) :
  Ret Tryz.prog w 62 #[.agg #[sl,sr,.string (qT (2 * q.ch)),.string (qT (2 * q.mi)),.string (qT (2 * q.ga)),.string (qT (2 * q.re))],.agg #[.int .i64 k,.int .i64 i,.int .i64 j]] (.string (qT (cst q k i j))):=by
 obtain ⟨h1,h2,_,_⟩:=hs
 have h3:=(nx_more (i:=i) (j:=j) (show k ∈ kinds by unfold kinds; simp; omega)).2
 rcases (show k=1 ∨ k=2 ∨ k=3 ∨ k=4 ∨ k=5 by omega) with rfl | rfl | rfl | rfl | rfl
 ·exact cost_1 q ok i j h1 h2 sl sr w he hq
 ·exact cost_2 q ok i j (by omega) (by omega) h1 sl sr w he hq
 ·exact cost_3 q ok i j (by omega) (by omega) h2 sl sr w he hq
 ·exact cost_4 q ok i j (by omega) (by omega) h1 sl sr w he hq
 ·exact cost_5 q ok i j (by omega) (by omega) h2 sl sr w he hq

end Go.Proofs.YthhkmihjnnfpgaaGreatDoor
