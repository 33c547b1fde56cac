/- The law's rests and best of chapter 44. -/
import Derived.Test.YthhkmihjnnfpgaaGreatDoorGCorRa
import Derived.Test.YthhkmihjnnfpgaaGreatDoorGCorTa
import Derived.Test.YthhkmihjnnfpgaaGreatDoorGCorY
/- The law's rests. -/
namespace Go.Proofs.YthhkmihjnnfpgaaGreatDoor
set_option linter.all false
open Go.RowKit

attribute [local go_sem] Oper.semAt_some

set_option maxRecDepth 100000 in
set_option maxHeartbeats 8000000 in
theorem lrests_any (q:CQ) (ok:OkQ q) (sl sr:Value) (w0:World) (he:Env w0) (hq:QAt w0 sl sr q) :
  Calls Tryz.prog 18 #[.agg #[sl,sr,.string (qT (2 * q.ch)),.string (qT (2 * q.mi)),.string (qT (2 * q.ga)),.string (qT (2 * q.re))]] w0 fun e w'=>∃ lb wb rl rw_,e=.returned (.tuple #[.slice (some ⟨lb,0,none⟩) (q.L.length + 1) (q.L.length + 1),.slice (some ⟨wb,0,none⟩) (q.L.length + 1) (q.L.length + 1)]) ∧
   TabS w' lb (q.L.length + 1) (q.R.length + 1) 0 rl (fun p r=>.string (qT (rst q p r))) 71 28 ∧ TabS w' wb (q.L.length + 1) (q.R.length + 1) 0 rw_ (fun p r=>.int .i64 (cnt q p r:Nat)) 50 3 ∧ w0.heap.size≤lb∧w0.heap.size≤wb∧(∀ p,p < q.L.length + 1→w0.heap.size≤rl p∧w0.heap.size≤rw_ p)∧Below w0.heap.size w0 w':=by
 have hll:=ok.hl
 have hrr:=ok.hr
 have HE:=Lib.hid he
 have HQ:=Lib.hid hq
 have OK:=Lib.hid ok
 obtain ⟨A1,n1,rfl,_⟩:=hq.l
 obtain ⟨A2,n2,rfl,_⟩:=hq.r
 clear he hq ok
 have B:=Lib.hid (Below.refl w0.heap.size w0)
 have hm1:=run_mkv (P:=Tryz.prog) (t := 44) (e := 71) (z:=.slice none 0 0) (bytes:=24) Tryz.underlying44 (by kernel_rfl) rfl (by omega) (q.L.length + 1) (by omega) ((q.L.length:Int) + 1) (by omega)
 have hm2:=run_mkv (P:=Tryz.prog) (t := 45) (e := 50) (z:=.slice none 0 0) (bytes:=24) Tryz.underlying45 (by kernel_rfl) rfl (by omega) (q.L.length + 1) (by omega) ((q.L.length:Int) + 1) (by omega)
 have hm3:=run_mkv (P:=Tryz.prog) (t := 71) (e := 28) (z:=(.string ⟨#[]⟩)) (bytes:=16) Tryz.underlying71 (by kernel_rfl) rfl (by omega) (q.R.length + 1) (by omega) ((q.R.length:Int) + 1) (by omega)
 have hm4:=run_mkv (P:=Tryz.prog) (t := 50) (e := 3) (z:=(.int .i64 0)) (bytes:=8) Tryz.underlying50 (by kernel_rfl) rfl (by omega) (q.R.length + 1) (by omega) ((q.R.length:Int) + 1) (by omega)
 obtain ⟨z1,hz1⟩:∃ z,((List.range (q.L.length + 1)).map (fun _=>Value.slice none 0 0)).toArray=z:=⟨_,rfl⟩
 obtain ⟨zl2,hz2⟩:∃ z,((List.range (q.R.length + 1)).map (fun _=>Value.string ⟨#[]⟩)).toArray=z:=⟨_,rfl⟩
 obtain ⟨zw2,hz3⟩:∃ z,((List.range (q.R.length + 1)).map (fun _=>Value.int .i64 0)).toArray=z:=⟨_,rfl⟩
 rw [hz1] at hm1 hm2
 rw [hz2] at hm3
 rw [hz3] at hm4
 have HZ1:=Lib.hid hz1
 have HZ2:=Lib.hid hz2
 have HZ3:=Lib.hid hz3
 clear hz1 hz2 hz3
 have HM3:=Lib.hid hm3
 have HM4:=Lib.hid hm4
 clear hm3 hm4
 go_enter Tryz.func18, Tryz.ntmps18
 go_upto_region 1 with (fail)
 have K1:=Lib.hid (Blk.fresh w0 #[.slice A1 q.L.length n1,.slice A2 q.R.length n2,.string (qT (2 * q.ch)),.string (qT (2 * q.mi)),.string (qT (2 * q.ga)),.string (qT (2 * q.re))] 32)
 have q1:=below_new w0 (.cells #[.slice A1 q.L.length n1,.slice A2 q.R.length n2,.string (qT (2 * q.ch)),.string (qT (2 * q.mi)),.string (qT (2 * q.ga)),.string (qT (2 * q.re))] 32)
 replace B:=Lib.hid (B.out.trans (q1.mono B.out.size))
 clear q1
 generalize (w0.alloc (.cells #[.slice A1 q.L.length n1,.slice A2 q.R.length n2,.string (qT (2 * q.ch)),.string (qT (2 * q.mi)),.string (qT (2 * q.ga)),.string (qT (2 * q.re))] 32))=W1 at *
 obtain ⟨b1,hb1⟩:∃ b,w0.heap.size=b:=⟨_,rfl⟩
 have HB1:=Lib.hid hb1
 rw [hb1] at K1 ⊢
 clear hb1
 obtain ⟨l1,hl1⟩:∃ n,q.L.length=n:=⟨_,rfl⟩
 obtain ⟨l2,hl2⟩:∃ n,q.R.length=n:=⟨_,rfl⟩
 have HL1:=Lib.hid hl1
 have HL2:=Lib.hid hl2
 rw [hl1,hl2] at K1
 rw [hl1] at hm1 hm2
 rw [hl2] at HM3 HM4
 rw [hl1,hl2]
 rw [hl1] at hll
 rw [hl2] at hrr
 clear hl1 hl2
 obtain ⟨c1,hc1⟩:∃ c,qT (2 * q.ch)=c:=⟨_,rfl⟩
 obtain ⟨c2,hc2⟩:∃ c,qT (2 * q.mi)=c:=⟨_,rfl⟩
 obtain ⟨c3,hc3⟩:∃ c,qT (2 * q.ga)=c:=⟨_,rfl⟩
 obtain ⟨c4,hc4⟩:∃ c,qT (2 * q.re)=c:=⟨_,rfl⟩
 rw [hc1,hc2,hc3,hc4] at K1
 rw [hc1,hc2,hc3,hc4]
 have HC:=Lib.hid (And.intro hc1 (And.intro hc2 (And.intro hc3 hc4)))
 clear hc1 hc2 hc3 hc4
 refine wp_tab (.v 16 (.pointer (some ⟨b1,0,none⟩)) :: .v 17 (.slice A1 l1 n1) :: .v 18 (.int .i64 l1) :: .v 19 (.pointer (some ⟨b1,1,none⟩)) :: .v 20 (.slice A2 l2 n2) :: .v 21 (.int .i64 l2) :: .v 4 (.int .i64 l1) :: .v 5 (.int .i64 l2) :: []) [] [⟨b1,#[.slice A1 l1 n1,.slice A2 l2 n2,.string c1,.string c2,.string c3,.string c4], 32, none⟩] [] [] [] [] [] (by kernel_rfl) B.out ⟨K1.out,trivial⟩ trivial ⟨pu,ld 0 0,pu,pu,ld 0 1,pu,pu,pu,trivial⟩ ?_
 clear K1 B
 rintro σ W2 _ ⟨K1,_⟩ _ _ B
 simp only [slotsOf,finX,nval,nvalN,nvalA,Nat.reduceBEq,cond_true,cond_false,putAll,Act.put,List.setIfInBounds_toArray,List.set_cons_succ,List.set_cons_zero]
 go_upto_region 3 with (fail)
 have kl:=Blk.fresh W2 z1 71
 have q3:=below_new W2 (.cells z1 71)
 have h3:b1 < W2.heap.size:=K1.out.lt
 have hs3:(W2.alloc (.cells z1 71)).heap.size=W2.heap.size + 1:=by simp
 replace K1:=Lib.hid (K1.out.below q3)
 replace B:=Lib.hid (B.out.trans (q3.mono B.out.size))
 generalize (W2.alloc (.cells z1 71))=W3 at *
 obtain ⟨lb,hlb⟩:∃ b,W2.heap.size=b:=⟨_,rfl⟩
 rw [hlb] at kl h3 hs3 ⊢
 have KL:=Lib.hid kl
 have HS3:=Lib.hid (And.intro h3 hs3)
 clear kl q3 h3 hs3 hlb
 go_upto_region 4 with (fail)
 have kw:=Blk.fresh W3 z1 50
 have q4:=below_new W3 (.cells z1 50)
 replace K1:=Lib.hid (K1.out.below q4)
 replace KL:=Lib.hid (KL.out.below q4)
 replace B:=Lib.hid (B.out.trans (q4.mono B.out.size))
 generalize (W3.alloc (.cells z1 50))=W4 at *
 obtain ⟨wb,hwb⟩:∃ b,W3.heap.size=b:=⟨_,rfl⟩
 rw [hwb] at kw ⊢
 have KW:=Lib.hid kw
 have HS4:Hid (w0.heap.size≤b1∧b1 < lb∧lb < wb):=Lib.hid (by have h1:=HS3.out; have h2:=HB1.out; rw [hwb] at h1; omega)
 clear kw q4 hwb HS3 hm1 hm2
 have LR0:Hid (LR w0 b1 lb wb (l1 + 1) (l1 + 1) (fun p=>p) (fun p=>p) q (.slice A1 l1 n1) (.slice A2 l2 n2) (tabE (fun p r=>.string (qT (rst q p r))) (.string ⟨#[]⟩) (l1 + 1) (0)) (tabE (fun p r=>.int .i64 (cnt q p r:Nat)) (.int .i64 0) (l1 + 1) (0)) W4):=Lib.hid (by
  have hc:=HC.out
  refine ⟨B.out,by rw [hc.1,hc.2.1,hc.2.2.1,hc.2.2.2]; exact K1.out,?_,?_,HS4.out,fun p h1 h2=>?_,fun p h1 h2=>?_,fun p r h1 h2=>?_⟩
  ·rw [← HL1.out]
   exact TabS.nil (by rw [HZ1.out]; exact KL.out) _ _
  ·rw [← HL1.out]
   exact TabS.nil (by rw [HZ1.out]; exact KW.out) _ _
  ·have:=HL1.out; omega
  ·have:=HL1.out; omega
  ·have:=HL1.out; omega)
 clear K1 KL KW B
 obtain ⟨N,hN⟩:∃ n,l1 + 1=n:=⟨_,rfl⟩
 have HN:=Lib.hid hN
 rw [hN]
 rw [hN] at LR0
 clear hN
 go_wp2
 go_loopw [8] (fun iv wr=>∃ (k:Nat) (rl rw_:Nat→Nat),k≤N∧iv=.int .i64 ((k:Int) - 1)∧LR w0 b1 lb wb k k rl rw_ q (.slice A1 l1 n1) (.slice A2 l2 n2) (tabE (fun p r=>.string (qT (rst q p r))) (.string ⟨#[]⟩) (k) (0)) (tabE (fun p r=>.int .i64 (cnt q p r:Nat)) (.int .i64 0) (k) (0)) wr) (fun iv _=>(intOf iv + 1).toNat)
 case atStart=>exact ⟨N,_,_,Nat.le_refl _,by have:=HN.out; rw [show ((N:Int) - 1)=(l1:Int) by omega],LR0.out⟩
 case round =>
  clear LR0
  obtain ⟨k,rl,rw_,hk,rfl,lr⟩:=hrel
  have S:=Lib.hid lr
  clear lr
  by_cases hk0:k=0
  ·subst hk0
   rw [show (((0:Nat):Int) - 1) = -1 from rfl]
   have HT:Hid (TabS wr lb (q.L.length + 1) (q.R.length + 1) 0 rl (fun p r=>.string (qT (rst q p r))) 71 28 ∧ TabS wr wb (q.L.length + 1) (q.R.length + 1) 0 rw_ (fun p r=>.int .i64 (cnt q p r:Nat)) 50 3):=Lib.hid ⟨S.out.tl.congr (fun p r _ _ _=>if_pos (by omega)),S.out.tw.congr (fun p r _ _ _=>if_pos (by omega))⟩
   have HSZ:Hid (w0.heap.size≤lb∧w0.heap.size≤wb∧(∀ p,p < q.L.length + 1→w0.heap.size≤rl p∧w0.heap.size≤rw_ p)):=Lib.hid (by
    have h1:=S.out.s1
    refine ⟨by omega,by omega,fun p hp=>?_⟩
    have h2:=S.out.s2 p (Nat.zero_le _) hp
    have h4:=S.out.s4 p (Nat.zero_le _) hp
    omega)
   have HBB:=Lib.hid S.out.bb
   clear S
   go_wp2
   go_ret2
   exact ⟨lb,wb,rl,rw_,(by rw [HL1.out,HN.out]; rfl),HT.out.1,HT.out.2,HSZ.out.1,HSZ.out.2.1,HSZ.out.2.2,HBB.out⟩
  obtain ⟨i,rfl⟩:∃ i,k=i + 1:=⟨k - 1,by omega⟩
  rw [show (((i + 1:Nat):Int) - 1)=(i:Int) by omega]
  have hge:(i:Int) ≥ 0:=by omega
  have hge2:decide ((i:Int) ≥ 0)=true:=decide_eq_true hge
  have hiN:i < N:=by omega
  have hm3:=HM3.out
  have hm4:=HM4.out
  have HWL:=Lib.hid (And.intro S.out.tl.out.lt S.out.tw.out.lt)
  have HWR:Hid (∀ p,i + 1≤p→p < q.L.length + 1→rl p < wr.heap.size∧rw_ p < wr.heap.size):=Lib.hid (fun p h1 h2=>⟨(S.out.tl.row p h1 h2).lt,(S.out.tw.row p h1 h2).lt⟩)
  have hwr:IntKind.i64.wrap ((l2:Int) + 1)=(l2:Int) + 1:=IntWalk.i64_in _ (by omega)
  go_upto_region 7 with (fail)
  refine wp_region_par2 (by kernel_rfl) [33,34,35,36,37,38,39,40,41,42,43,44] (fun L σ U=>Vals [some 33,some 34,some 35,some 36,some 37,some 38,none,some 40,some 41,none,some 43,none,some 44,none] [(.slice (some ⟨lb,0,none⟩) N N),(.int .i64 i),(.slice (some ⟨wb,0,none⟩) N N),(.int .i64 i),(.int .i64 l2),(.int .i64 ((l2:Int) + 1)),undef,(.int .i64 l2),(.int .i64 ((l2:Int) + 1)),undef,(.pointer (some ⟨lb,i,none⟩)),undef,(.pointer (some ⟨wb,i,none⟩)),undef] L σ∧R7 w0 wr b1 lb wb i rl rw_ q (.slice A1 l1 n1) (.slice A2 l2 n2) (tabE (fun p r=>.string (qT (rst q p r))) (.string ⟨#[]⟩) (i + 1) (0)) (tabE (fun p r=>.int .i64 (cnt q p r:Nat)) (.int .i64 0) (i + 1) (0)) L σ U) (by kernel_rfl) (by kernel_rfl) (by kernel_rfl) ?_ ?_ ?_
  ·exact ⟨Vals.start,⟨(Below.refl wr.heap.size wr).drew.size,fun h=>h.elim,fun h=>h.elim,fun h=>h.elim,⟨fun h=>h.elim,fun h=>h.elim⟩,.inl ⟨fun h=>h,fun h=>h,S.out.below (Below.refl _ _).drew⟩⟩⟩
  ·refine ⟨?_,?_,?_,?_,?_,?_,?_,?_,?_,?_,?_,?_,?_,?_,trivial⟩
   ·rintro L a U ho ⟨V,R⟩ hn hd K hK
    clear hd
    refine Wants.free rfl ?_
    have jr:a.tmps[(6:Nat)]?.getD undef=.slice (some ⟨lb,0,none⟩) N N:=onlyAt_slot ho 6 rfl
    have RR:=Lib.hid R
    have VV:=Lib.hid V
    clear R V
    go_simp
    exact hK.out (.slice (some ⟨lb,0,none⟩) N N) _ ⟨VV.out.set 0 _ _ rfl rfl rfl,RR.out.pure 0 _ _ (by decide) (by decide)⟩
   ·rintro L a U ho ⟨V,R⟩ hn hd K hK
    clear hd
    refine Wants.free rfl ?_
    have jr:a.tmps[(8:Nat)]?.getD undef=.int .i64 i:=onlyAt_slot ho 8 rfl
    have RR:=Lib.hid R
    have VV:=Lib.hid V
    clear R V
    go_simp
    exact hK.out (.int .i64 i) _ ⟨VV.out.set 1 _ _ rfl rfl rfl,RR.out.pure 1 _ _ (by decide) (by decide)⟩
   ·rintro L a U ho ⟨V,R⟩ hn hd K hK
    clear hd
    refine Wants.free rfl ?_
    have jr:a.tmps[(7:Nat)]?.getD undef=.slice (some ⟨wb,0,none⟩) N N:=onlyAt_slot ho 7 rfl
    have RR:=Lib.hid R
    have VV:=Lib.hid V
    clear R V
    go_simp
    exact hK.out (.slice (some ⟨wb,0,none⟩) N N) _ ⟨VV.out.set 2 _ _ rfl rfl rfl,RR.out.pure 2 _ _ (by decide) (by decide)⟩
   ·rintro L a U ho ⟨V,R⟩ hn hd K hK
    clear hd
    refine Wants.free rfl ?_
    have jr:a.tmps[(8:Nat)]?.getD undef=.int .i64 i:=onlyAt_slot ho 8 rfl
    have RR:=Lib.hid R
    have VV:=Lib.hid V
    clear R V
    go_simp
    exact hK.out (.int .i64 i) _ ⟨VV.out.set 3 _ _ rfl rfl rfl,RR.out.pure 3 _ _ (by decide) (by decide)⟩
   ·rintro L a U ho ⟨V,R⟩ hn hd K hK
    clear hd
    refine Wants.free rfl ?_
    have jr:a.tmps[(5:Nat)]?.getD undef=.int .i64 l2:=onlyAt_slot ho 5 rfl
    have RR:=Lib.hid R
    have VV:=Lib.hid V
    clear R V
    go_simp
    exact hK.out (.int .i64 l2) _ ⟨VV.out.set 4 _ _ rfl rfl rfl,RR.out.pure 4 _ _ (by decide) (by decide)⟩
   ·rintro L a U ho ⟨V,R⟩ hn hd K hK
    have jh4:=hd.get 4 rfl
    clear hd
    refine Wants.free rfl ?_
    have jr4:=V.read 4 rfl rfl jh4
    have RR:=Lib.hid R
    have VV:=Lib.hid V
    clear R V
    go_simp
    exact hK.out (.int .i64 ((l2:Int) + 1)) _ ⟨VV.out.set 5 _ _ rfl rfl rfl,RR.out.pure 5 _ _ (by decide) (by decide)⟩
   ·rintro L a U ho ⟨V,R⟩ hn hd K hK
    have jh5:=hd.get 5 rfl
    clear hd
    refine Wants.free rfl ?_
    have jr5:=V.read 5 rfl rfl jh5
    have R2:=R.mkA hn
    rw [HZ2.out,HL2.out] at R2
    have RR:=Lib.hid R2
    have VV:=Lib.hid V
    clear R R2 V
    go_simp
    exact hK.out _ _ ⟨vals_apart VV.out 6 39 _ rfl rfl,RR.out⟩
   ·rintro L a U ho ⟨V,R⟩ hn hd K hK
    clear hd
    refine Wants.free rfl ?_
    have jr:a.tmps[(5:Nat)]?.getD undef=.int .i64 l2:=onlyAt_slot ho 5 rfl
    have RR:=Lib.hid R
    have VV:=Lib.hid V
    clear R V
    go_simp
    exact hK.out (.int .i64 l2) _ ⟨VV.out.set 7 _ _ rfl rfl rfl,RR.out.pure 7 _ _ (by decide) (by decide)⟩
   ·rintro L a U ho ⟨V,R⟩ hn hd K hK
    have jh7:=hd.get 7 rfl
    clear hd
    refine Wants.free rfl ?_
    have jr7:=V.read 7 rfl rfl jh7
    have RR:=Lib.hid R
    have VV:=Lib.hid V
    clear R V
    go_simp
    exact hK.out (.int .i64 ((l2:Int) + 1)) _ ⟨VV.out.set 8 _ _ rfl rfl rfl,RR.out.pure 8 _ _ (by decide) (by decide)⟩
   ·rintro L a U ho ⟨V,R⟩ hn hd K hK
    have jh8:=hd.get 8 rfl
    clear hd
    refine Wants.free rfl ?_
    have jr8:=V.read 8 rfl rfl jh8
    have R2:=R.mkB hn
    rw [HZ3.out,HL2.out] at R2
    have RR:=Lib.hid R2
    have VV:=Lib.hid V
    clear R R2 V
    go_simp
    exact hK.out _ _ ⟨vals_apart VV.out 9 42 _ rfl rfl,RR.out⟩
   ·rintro L a U ho ⟨V,R⟩ hn hd K hK
    have jh0:=hd.get 0 rfl
    have jh1:=hd.get 1 rfl
    clear hd
    refine Wants.free rfl ?_
    have jr0:=V.read 0 rfl rfl jh0
    have jr1:=V.read 1 rfl rfl jh1
    have RR:=Lib.hid R
    have VV:=Lib.hid V
    clear R V
    go_simp
    exact hK.out (.pointer (some ⟨lb,i,none⟩)) _ ⟨VV.out.set 10 _ _ rfl rfl rfl,RR.out.pure 10 _ _ (by decide) (by decide)⟩
   ·rintro L a U ho ⟨V,R⟩ hn hd K hK
    have jh10:=hd.get 10 rfl
    have jh6:=hd.get 6 rfl
    clear hd
    refine Wants.free rfl ?_
    have jr10:=V.read 10 rfl rfl jh10
    obtain ⟨g,hg,_,_⟩:=R.a jh6
    have jr39:a.tmps[(39:Nat)]?.getD undef=.slice (some ⟨g,0,none⟩) (q.R.length + 1) (q.R.length + 1):=hg
    have fc:U.frozen? ⟨lb,i,none⟩=false∧∃ v,U.cell? ⟨lb,i,none⟩=some v:=by
     rcases R.st with ⟨_,_,h3⟩ | ⟨h1,_⟩ | ⟨h1,_⟩
     ·exact ⟨h3.tl.out.free i,h3.tl.cell0 i (by have:=HL1.out; have:=HN.out; omega)⟩
     ·exact absurd h1 hn
     ·exact absurd h1 hn
    obtain ⟨f1,u,f2⟩:=fc
    have RR:=Lib.hid (R.stA hn jh6 (by have:=HL1.out; have:=HN.out; omega) hg HWL.out HWR.out undef)
    have VV:=Lib.hid V
    clear R V hg
    go_simp
    exact hK.out undef _ ⟨VV.out.same 11 _ rfl,RR.out⟩
   ·rintro L a U ho ⟨V,R⟩ hn hd K hK
    have jh2:=hd.get 2 rfl
    have jh3:=hd.get 3 rfl
    clear hd
    refine Wants.free rfl ?_
    have jr2:=V.read 2 rfl rfl jh2
    have jr3:=V.read 3 rfl rfl jh3
    have RR:=Lib.hid R
    have VV:=Lib.hid V
    clear R V
    go_simp
    exact hK.out (.pointer (some ⟨wb,i,none⟩)) _ ⟨VV.out.set 12 _ _ rfl rfl rfl,RR.out.pure 12 _ _ (by decide) (by decide)⟩
   ·rintro L a U ho ⟨V,R⟩ hn hd K hK
    have jh12:=hd.get 12 rfl
    have jh9:=hd.get 9 rfl
    have jh11:=hd.get 11 rfl
    clear hd
    refine Wants.free rfl ?_
    have jr12:=V.read 12 rfl rfl jh12
    obtain ⟨g,hg,_,_⟩:=R.b jh9
    have jr42:a.tmps[(42:Nat)]?.getD undef=.slice (some ⟨g,0,none⟩) (q.R.length + 1) (q.R.length + 1):=hg
    have fc:U.frozen? ⟨wb,i,none⟩=false∧∃ v,U.cell? ⟨wb,i,none⟩=some v:=by
     rcases R.st with ⟨h1,_⟩ | ⟨_,_,_,_,h3⟩ | ⟨_,h1,_⟩
     ·exact absurd jh11 h1
     ·exact ⟨h3.tw.out.free i,h3.tw.cell0 i (by have:=HL1.out; have:=HN.out; omega)⟩
     ·exact absurd h1 hn
    obtain ⟨f1,u,f2⟩:=fc
    have RR:=Lib.hid (R.stB hn jh9 jh11 (by have:=HL1.out; have:=HN.out; omega) hg HWL.out HWR.out undef)
    have VV:=Lib.hid V
    clear R V hg
    go_simp
    exact hK.out undef _ ⟨VV.out.same 13 _ rfl,RR.out⟩
  rintro L σ W7 ⟨V,R⟩ hL
  have jf0:=V 0 _ _ rfl rfl (hL 0 (by decide))
  have jf1:=V 1 _ _ rfl rfl (hL 1 (by decide))
  have jf2:=V 2 _ _ rfl rfl (hL 2 (by decide))
  have jf3:=V 3 _ _ rfl rfl (hL 3 (by decide))
  have jf4:=V 4 _ _ rfl rfl (hL 4 (by decide))
  have jf5:=V 5 _ _ rfl rfl (hL 5 (by decide))
  have jf7:=V 7 _ _ rfl rfl (hL 7 (by decide))
  have jf8:=V 8 _ _ rfl rfl (hL 8 (by decide))
  have jf10:=V 10 _ _ rfl rfl (hL 10 (by decide))
  have jf12:=V 12 _ _ rfl rfl (hL 12 (by decide))
  obtain ⟨gl,j39,_,_⟩:=R.a (hL 6 (by decide))
  obtain ⟨gw,j42,_,_⟩:=R.b (hL 9 (by decide))
  have S7:∃ rl2 rw2,LR w0 b1 lb wb i i rl2 rw2 q (.slice A1 l1 n1) (.slice A2 l2 n2) (tabE (fun p r=>.string (qT (rst q p r))) (.string ⟨#[]⟩) (i) (q.R.length + 1)) (tabE (fun p r=>.int .i64 (cnt q p r:Nat)) (.int .i64 0) (i) (q.R.length + 1)) W7:=by
   rcases R.st with ⟨h1,_⟩ | ⟨_,h1,_⟩ | ⟨_,_,g,h,h3⟩
   ·exact absurd (hL 11 (by decide)) h1
   ·exact absurd (hL 13 (by decide)) h1
   ·exact ⟨_,_,h3.congr (fun p r _ _ h=>tabE_row _ _ i (q.R.length + 1) p r h) (fun p r _ _ h=>tabE_row _ _ i (q.R.length + 1) p r h)⟩
  clear V R hL
  rw [show List.map σ [33,34,35,36,37,38,39,40,41,42,43,44]=[σ 33,σ 34,σ 35,σ 36,σ 37,σ 38,σ 39,σ 40,σ 41,σ 42,σ 43,σ 44] from rfl,jf0,jf1,jf2,jf3,jf4,jf5,jf7,jf8,jf10,jf12,j39,j42]
  simp only [putAll,List.map,Act.put,List.setIfInBounds_toArray,List.set_cons_succ,List.set_cons_zero]
  obtain ⟨rl2,rw2,s7⟩:=S7
  have S2:=Lib.hid s7
  clear s7 S jf0 jf1 jf2 jf3 jf4 jf5 jf7 jf8 jf10 jf12 j39 j42 hm3 hm4
  rw [HL2.out] at S2
  go_wp2
  go_loopw [9] (fun jv wx=>∃ m:Nat,m≤l2 + 1∧jv=.int .i64 ((m:Int) - 1)∧LR w0 b1 lb wb i i rl2 rw2 q (.slice A1 l1 n1) (.slice A2 l2 n2) (tabE (fun p r=>.string (qT (rst q p r))) (.string ⟨#[]⟩) (i) (m)) (tabE (fun p r=>.int .i64 (cnt q p r:Nat)) (.int .i64 0) (i) (m)) wx) (fun jv _=>(intOf jv + 1).toNat)
  case atStart=>exact ⟨l2 + 1,Nat.le_refl _,by rw [show (((l2 + 1:Nat):Int) - 1)=(l2:Int) by omega],S2.out⟩
  case round =>
   clear S2
   obtain ⟨m,hm,rfl,lr⟩:=hrel
   have S:=Lib.hid lr
   clear lr
   by_cases hm0:m=0
   ·subst hm0
    rw [show (((0:Nat):Int) - 1) = -1 from rfl]
    have hwi:IntKind.i64.wrap ((i:Int) - 1)=(i:Int) - 1:=IntWalk.i64_in _ (by have:=HN.out; omega)
    go_wp2
    exact ⟨⟨i,rl2,rw2,by omega,rfl,S.out⟩,by simp [intOf] <;> omega⟩
   obtain ⟨j,rfl⟩:∃ j,m=j + 1:=⟨m - 1,by omega⟩
   rw [show (((j + 1:Nat):Int) - 1)=(j:Int) by omega]
   have hgj:(j:Int) ≥ 0:=by omega
   have hgj2:decide ((j:Int) ≥ 0)=true:=decide_eq_true hgj
   by_cases hcor:i=l1∧j=l2
   ·obtain ⟨hci,hcj⟩:=hcor
    have m1:((i:Int) == (l1:Int))=true:=by rw [beq_iff_eq]; omega
    have m2:((j:Int) == (l2:Int))=true:=by rw [beq_iff_eq]; omega
    have HII:Hid (i < q.L.length + 1):=Lib.hid (by have:=HL1.out; omega)
    have HJJ:Hid (j < q.R.length + 1):=Lib.hid (by have:=HL2.out; omega)
    have HXL:Hid (∀ cl cw U,LR w0 b1 lb wb i i rl2 rw2 q (.slice A1 l1 n1) (.slice A2 l2 n2) cl cw U→U.cell? ⟨lb,i,none⟩=some (.slice (some ⟨rl2 i,0,none⟩) (l2 + 1) (l2 + 1))):=Lib.hid (fun cl cw U h=>by have:=h.tl.cell1 i (Nat.le_refl _) HII.out; rw [HL2.out] at this; exact this)
    have HXW:Hid (∀ cl cw U,LR w0 b1 lb wb i i rl2 rw2 q (.slice A1 l1 n1) (.slice A2 l2 n2) cl cw U→U.cell? ⟨wb,i,none⟩=some (.slice (some ⟨rw2 i,0,none⟩) (l2 + 1) (l2 + 1))):=Lib.hid (fun cl cw U h=>by have:=h.tw.cell1 i (Nat.le_refl _) HII.out; rw [HL2.out] at this; exact this)
    have HFL:Hid (∀ cl cw U,LR w0 b1 lb wb i i rl2 rw2 q (.slice A1 l1 n1) (.slice A2 l2 n2) cl cw U→U.frozen? ⟨rl2 i,j,none⟩=false∧∃ v,U.cell? ⟨rl2 i,j,none⟩=some v):=Lib.hid (fun cl cw U h=>⟨h.tl.free i j (Nat.le_refl _) HII.out,_,h.tl.cell2 i j (Nat.le_refl _) HII.out HJJ.out⟩)
    have HFW:Hid (∀ cl cw U,LR w0 b1 lb wb i i rl2 rw2 q (.slice A1 l1 n1) (.slice A2 l2 n2) cl cw U→U.frozen? ⟨rw2 i,j,none⟩=false∧∃ v,U.cell? ⟨rw2 i,j,none⟩=some v):=Lib.hid (fun cl cw U h=>⟨h.tw.free i j (Nat.le_refl _) HII.out,_,h.tw.cell2 i j (Nat.le_refl _) HII.out HJJ.out⟩)
    have hiN2:(i:Int) < (N:Int):=by omega
    have hjM:(j:Int) < ((l2 + 1:Nat):Int):=by omega
    have hjM2:(j:Int) < (l2:Int) + 1:=by omega
    have hjM3:j < l2 + 1:=by omega
    have HCC:=Lib.hid (And.intro hci hcj)
    clear hci hcj
    go_upto_region 12 with (fail)
    clear m1 m2
    refine wp_region_par2 (by kernel_rfl) [58,59,60,61,62,63,64,65,66,67,68,69] (fun L σ U=>Vals [some 58,some 59,some 60,some 61,some 62,some 63,some 64,some 65,some 66,some 67,some 68,none,some 69,none] [(.slice (some ⟨lb,0,none⟩) N N),(.int .i64 i),(.pointer (some ⟨lb,i,none⟩)),(.slice (some ⟨rl2 i,0,none⟩) (l2 + 1) (l2 + 1)),(.int .i64 j),(.slice (some ⟨wb,0,none⟩) N N),(.int .i64 i),(.pointer (some ⟨wb,i,none⟩)),(.slice (some ⟨rw2 i,0,none⟩) (l2 + 1) (l2 + 1)),(.int .i64 j),(.pointer (some ⟨rl2 i,j,none⟩)),undef,(.pointer (some ⟨rw2 i,j,none⟩)),undef] L σ∧ST2 (LR w0 b1 lb wb i i rl2 rw2 q (.slice A1 l1 n1) (.slice A2 l2 n2) (tabE (fun p r=>.string (qT (rst q p r))) (.string ⟨#[]⟩) (i) (j + 1)) (tabE (fun p r=>.int .i64 (cnt q p r:Nat)) (.int .i64 0) (i) (j + 1))) (LR w0 b1 lb wb i i rl2 rw2 q (.slice A1 l1 n1) (.slice A2 l2 n2) (updV (tabE (fun p r=>.string (qT (rst q p r))) (.string ⟨#[]⟩) (i) (j + 1)) i j (.string ⟨#[48]⟩)) (tabE (fun p r=>.int .i64 (cnt q p r:Nat)) (.int .i64 0) (i) (j + 1))) (LR w0 b1 lb wb i i rl2 rw2 q (.slice A1 l1 n1) (.slice A2 l2 n2) (updV (tabE (fun p r=>.string (qT (rst q p r))) (.string ⟨#[]⟩) (i) (j + 1)) i j (.string ⟨#[48]⟩)) (updV (tabE (fun p r=>.int .i64 (cnt q p r:Nat)) (.int .i64 0) (i) (j + 1)) i j (.int .i64 1))) 11 13 L U) (by kernel_rfl) (by kernel_rfl) (by kernel_rfl) ?_ ?_ ?_
    ·exact ⟨Vals.start,ST2.start (S.out.below (Below.refl _ _).drew)⟩
    ·refine ⟨?_,?_,?_,?_,?_,?_,?_,?_,?_,?_,?_,?_,?_,?_,trivial⟩
     ·rintro L a U ho ⟨V,R⟩ hn hd K hK
      clear hd
      refine Wants.free rfl ?_
      have jr:a.tmps[(6:Nat)]?.getD undef=.slice (some ⟨lb,0,none⟩) N N:=onlyAt_slot ho 6 rfl
      have RR:=Lib.hid (R.pure 0 (by decide))
      have VV:=Lib.hid V
      clear R V
      go_simp
      exact hK.out (.slice (some ⟨lb,0,none⟩) N N) _ ⟨VV.out.set 0 _ _ rfl rfl rfl,RR.out⟩
     ·rintro L a U ho ⟨V,R⟩ hn hd K hK
      clear hd
      refine Wants.free rfl ?_
      have jr:a.tmps[(8:Nat)]?.getD undef=.int .i64 i:=onlyAt_slot ho 8 rfl
      have RR:=Lib.hid (R.pure 1 (by decide))
      have VV:=Lib.hid V
      clear R V
      go_simp
      exact hK.out (.int .i64 i) _ ⟨VV.out.set 1 _ _ rfl rfl rfl,RR.out⟩
     ·rintro L a U ho ⟨V,R⟩ hn hd K hK
      have jh0:=hd.get 0 rfl
      have jh1:=hd.get 1 rfl
      clear hd
      refine Wants.free rfl ?_
      have jr0:=V.read 0 rfl rfl jh0
      have jr1:=V.read 1 rfl rfl jh1
      have RR:=Lib.hid (R.pure 2 (by decide))
      have VV:=Lib.hid V
      clear R V
      go_simp
      exact hK.out (.pointer (some ⟨lb,i,none⟩)) _ ⟨VV.out.set 2 _ _ rfl rfl rfl,RR.out⟩
     ·rintro L a U ho ⟨V,R⟩ hn hd K hK
      have jh2:=hd.get 2 rfl
      clear hd
      refine Wants.free rfl ?_
      have jr2:=V.read 2 rfl rfl jh2
      have fc:=R.read3 (X:=fun U=>U.cell? ⟨lb,i,none⟩=some (.slice (some ⟨rl2 i,0,none⟩) (l2 + 1) (l2 + 1))) (HXL.out _ _) (HXL.out _ _) (HXL.out _ _)
      have RR:=Lib.hid (R.pure 3 (by decide))
      have VV:=Lib.hid V
      clear R V
      go_simp
      exact hK.out (.slice (some ⟨rl2 i,0,none⟩) (l2 + 1) (l2 + 1)) _ ⟨VV.out.set 3 _ _ rfl rfl rfl,RR.out⟩
     ·rintro L a U ho ⟨V,R⟩ hn hd K hK
      clear hd
      refine Wants.free rfl ?_
      have jr:a.tmps[(9:Nat)]?.getD undef=.int .i64 j:=onlyAt_slot ho 9 rfl
      have RR:=Lib.hid (R.pure 4 (by decide))
      have VV:=Lib.hid V
      clear R V
      go_simp
      exact hK.out (.int .i64 j) _ ⟨VV.out.set 4 _ _ rfl rfl rfl,RR.out⟩
     ·rintro L a U ho ⟨V,R⟩ hn hd K hK
      clear hd
      refine Wants.free rfl ?_
      have jr:a.tmps[(7:Nat)]?.getD undef=.slice (some ⟨wb,0,none⟩) N N:=onlyAt_slot ho 7 rfl
      have RR:=Lib.hid (R.pure 5 (by decide))
      have VV:=Lib.hid V
      clear R V
      go_simp
      exact hK.out (.slice (some ⟨wb,0,none⟩) N N) _ ⟨VV.out.set 5 _ _ rfl rfl rfl,RR.out⟩
     ·rintro L a U ho ⟨V,R⟩ hn hd K hK
      clear hd
      refine Wants.free rfl ?_
      have jr:a.tmps[(8:Nat)]?.getD undef=.int .i64 i:=onlyAt_slot ho 8 rfl
      have RR:=Lib.hid (R.pure 6 (by decide))
      have VV:=Lib.hid V
      clear R V
      go_simp
      exact hK.out (.int .i64 i) _ ⟨VV.out.set 6 _ _ rfl rfl rfl,RR.out⟩
     ·rintro L a U ho ⟨V,R⟩ hn hd K hK
      have jh5:=hd.get 5 rfl
      have jh6:=hd.get 6 rfl
      clear hd
      refine Wants.free rfl ?_
      have jr5:=V.read 5 rfl rfl jh5
      have jr6:=V.read 6 rfl rfl jh6
      have RR:=Lib.hid (R.pure 7 (by decide))
      have VV:=Lib.hid V
      clear R V
      go_simp
      exact hK.out (.pointer (some ⟨wb,i,none⟩)) _ ⟨VV.out.set 7 _ _ rfl rfl rfl,RR.out⟩
     ·rintro L a U ho ⟨V,R⟩ hn hd K hK
      have jh7:=hd.get 7 rfl
      clear hd
      refine Wants.free rfl ?_
      have jr7:=V.read 7 rfl rfl jh7
      have fc:=R.read3 (X:=fun U=>U.cell? ⟨wb,i,none⟩=some (.slice (some ⟨rw2 i,0,none⟩) (l2 + 1) (l2 + 1))) (HXW.out _ _) (HXW.out _ _) (HXW.out _ _)
      have RR:=Lib.hid (R.pure 8 (by decide))
      have VV:=Lib.hid V
      clear R V
      go_simp
      exact hK.out (.slice (some ⟨rw2 i,0,none⟩) (l2 + 1) (l2 + 1)) _ ⟨VV.out.set 8 _ _ rfl rfl rfl,RR.out⟩
     ·rintro L a U ho ⟨V,R⟩ hn hd K hK
      clear hd
      refine Wants.free rfl ?_
      have jr:a.tmps[(9:Nat)]?.getD undef=.int .i64 j:=onlyAt_slot ho 9 rfl
      have RR:=Lib.hid (R.pure 9 (by decide))
      have VV:=Lib.hid V
      clear R V
      go_simp
      exact hK.out (.int .i64 j) _ ⟨VV.out.set 9 _ _ rfl rfl rfl,RR.out⟩
     ·rintro L a U ho ⟨V,R⟩ hn hd K hK
      have jh3:=hd.get 3 rfl
      have jh4:=hd.get 4 rfl
      clear hd
      refine Wants.free rfl ?_
      have jr3:=V.read 3 rfl rfl jh3
      have jr4:=V.read 4 rfl rfl jh4
      have RR:=Lib.hid (R.pure 10 (by decide))
      have VV:=Lib.hid V
      clear R V
      go_simp
      exact hK.out (.pointer (some ⟨rl2 i,j,none⟩)) _ ⟨VV.out.set 10 _ _ rfl rfl rfl,RR.out⟩
     ·rintro L a U ho ⟨V,R⟩ hn hd K hK
      have jh10:=hd.get 10 rfl
      clear hd
      refine Wants.free rfl ?_
      have jr10:=V.read 10 rfl rfl jh10
      obtain ⟨f1,u,f2⟩:=HFL.out _ _ U (R.atA hn)
      have RR:=Lib.hid (R.first hn (by decide) (fun h=>LR.setL (p:=i) (r:=j) (h1:=Nat.le_refl _) (h2:=HII.out) (v:=.string ⟨#[48]⟩) (h:=h)))
      have VV:=Lib.hid V
      clear R V
      go_simp
      exact hK.out undef _ ⟨VV.out.same 11 _ rfl,RR.out⟩
     ·rintro L a U ho ⟨V,R⟩ hn hd K hK
      have jh8:=hd.get 8 rfl
      have jh9:=hd.get 9 rfl
      clear hd
      refine Wants.free rfl ?_
      have jr8:=V.read 8 rfl rfl jh8
      have jr9:=V.read 9 rfl rfl jh9
      have RR:=Lib.hid (R.pure 12 (by decide))
      have VV:=Lib.hid V
      clear R V
      go_simp
      exact hK.out (.pointer (some ⟨rw2 i,j,none⟩)) _ ⟨VV.out.set 12 _ _ rfl rfl rfl,RR.out⟩
     ·rintro L a U ho ⟨V,R⟩ hn hd K hK
      have jh12:=hd.get 12 rfl
      have jhm:=hd.get 11 rfl
      clear hd
      refine Wants.free rfl ?_
      have jr12:=V.read 12 rfl rfl jh12
      obtain ⟨f1,u,f2⟩:=HFW.out _ _ U (R.atB hn jhm)
      have RR:=Lib.hid (R.second hn jhm (fun h=>LR.setW (p:=i) (r:=j) (h1:=Nat.le_refl _) (h2:=HII.out) (v:=.int .i64 1) (h:=h)))
      have VV:=Lib.hid V
      clear R V
      go_simp
      exact hK.out undef _ ⟨VV.out.same 13 _ rfl,RR.out⟩
    rintro L σ W8 ⟨V,R⟩ hL
    have jf0:=V 0 _ _ rfl rfl (hL 0 (by decide))
    have jf1:=V 1 _ _ rfl rfl (hL 1 (by decide))
    have jf2:=V 2 _ _ rfl rfl (hL 2 (by decide))
    have jf3:=V 3 _ _ rfl rfl (hL 3 (by decide))
    have jf4:=V 4 _ _ rfl rfl (hL 4 (by decide))
    have jf5:=V 5 _ _ rfl rfl (hL 5 (by decide))
    have jf6:=V 6 _ _ rfl rfl (hL 6 (by decide))
    have jf7:=V 7 _ _ rfl rfl (hL 7 (by decide))
    have jf8:=V 8 _ _ rfl rfl (hL 8 (by decide))
    have jf9:=V 9 _ _ rfl rfl (hL 9 (by decide))
    have jf10:=V 10 _ _ rfl rfl (hL 10 (by decide))
    have jf12:=V 12 _ _ rfl rfl (hL 12 (by decide))
    have S8:=Lib.hid (R.atC (hL 13 (by decide)))
    clear V R hL
    rw [show List.map σ [58,59,60,61,62,63,64,65,66,67,68,69]=[σ 58,σ 59,σ 60,σ 61,σ 62,σ 63,σ 64,σ 65,σ 66,σ 67,σ 68,σ 69] from rfl,jf0,jf1,jf2,jf3,jf4,jf5,jf6,jf7,jf8,jf9,jf10,jf12]
    clear jf0 jf1 jf2 jf3 jf4 jf5 jf6 jf7 jf8 jf9 jf10 jf12
    simp only [putAll,List.map,Act.put,List.setIfInBounds_toArray,List.set_cons_succ,List.set_cons_zero]
    have hend:rst q i j=0∧cnt q i j=1:=by
     have h:=HCC.out
     have e1:i=q.L.length:=h.1.trans HL1.out.symm
     have e2:j=q.R.length:=h.2.trans HL2.out.symm
     rw [e1,e2]
     exact ⟨rst_end q,cnt_endR q⟩
    have S9:=Lib.hid (S8.out.congr (fun p r _ _ _=>updE (fun p r=>.string (qT (rst q p r))) (.string ⟨#[]⟩) _ i j (by show _=Value.string (qT (rst q i j)); rw [hend.1,qT_zero]) p r) (fun p r _ _ _=>updE (fun p r=>.int .i64 (cnt q p r:Nat)) (.int .i64 0) _ i j (by show _=Value.int .i64 (cnt q i j:Nat); rw [hend.2]; rfl) p r))
    have hwj:IntKind.i64.wrap ((j:Int) - 1)=(j:Int) - 1:=IntWalk.i64_in _ (by omega)
    clear S8 hend HXL HXW HFL HFW HCC
    go_wp2
    exact ⟨⟨j,by omega,rfl,S9.out⟩,by simp [intOf] <;> omega⟩
   have hnc:((i:Int) == (l1:Int))=true→((j:Int) == (l2:Int))=false:=fun h=>by
    rw [beq_iff_eq] at h
    rw [beq_eq_false_iff_ne]
    omega
   have S0:Hid (LR w0 b1 lb wb i i rl2 rw2 q (.slice A1 l1 n1) (.slice A2 l2 n2) (entE (fun p r=>.string (qT (rst q p r))) (.string ⟨#[]⟩) i j (.string (optT (cntP q i j 0).1))) (entE (fun p r=>.int .i64 (cnt q p r:Nat)) (.int .i64 0) i j (.int .i64 ((cntP q i j 0).2:Nat))) wr):=Lib.hid (S.out.congr (fun p r _ _ _=>(entE_z _ _ i j p r).symm) (fun p r _ _ _=>(entE_z _ _ i j p r).symm))
   clear S
   have HIL:Hid (i≤q.L.length∧j≤q.R.length∧¬ (i=q.L.length∧j=q.R.length)):=Lib.hid (by have h1:=HL1.out; have h2:=HL2.out; have h3:=HN.out; omega)
   by_cases hil:(i:Int)=(l1:Int)
   case' pos =>
    have m1:((i:Int) == (l1:Int))=true:=by rw [beq_iff_eq]; exact hil
    have m2:=hnc m1
    clear hnc hcor hil
    go_wp2
    clear m1 m2
   case' neg =>
    have m1:((i:Int) == (l1:Int))=false:=by rw [beq_eq_false_iff_ne]; exact hil
    clear hnc hcor hil
    go_wp2
    clear m1
   all_goals
    (go_loopw [10] (fun kv wk=>∃ k:Nat,1≤k∧k≤6∧kv=.int .i64 k∧LR w0 b1 lb wb i i rl2 rw2 q (.slice A1 l1 n1) (.slice A2 l2 n2) (entE (fun p r=>.string (qT (rst q p r))) (.string ⟨#[]⟩) i j (.string (optT (cntP q i j (k - 1)).1))) (entE (fun p r=>.int .i64 (cnt q p r:Nat)) (.int .i64 0) i j (.int .i64 (((cntP q i j (k - 1)).2:Nat)))) wk) (fun kv _=>(6 - intOf kv).toNat)
     case atStart=>exact ⟨1,by omega,by omega,rfl,S0.out⟩
     case round =>
      clear S0
      obtain ⟨k,hk1,hk6,rfl,lr⟩:=hrel
      have S:=Lib.hid lr
      clear lr
      by_cases hk5:k≤5
      ·have hkz:(k:Int)≤5:=by omega
       have hkd:decide ((k:Int)≤5)=true:=decide_eq_true hkz
       have hwk:IntKind.i64.wrap ((k:Int) + 1)=(k:Int) + 1:=IntWalk.i64_in _ (by omega)
       obtain ⟨P,hP⟩:∃ P,cntP q i j (k - 1)=P:=⟨_,rfl⟩
       rw [hP] at S
       obtain ⟨aP,nP⟩:=P
       dsimp only at S
       have HNX:=Lib.hid ((cntP_st q i j k hk1 hk5).trans (congrArg (fun P=>tryC q i j P k) hP))
       have hbd:=cntP_bd q OK.out i j (k - 1) (by omega)
       rw [hP] at hbd
       have HBD:=Lib.hid hbd
       have HKK:=Lib.hid (And.intro hk1 hk5)
       clear hbd hP
       have hX:∃ X er,costV q k i j=.tuple #[.string X,.int .i64 er]∧(okS q k i j→X=qT (cst q k i j)∧er=0)∧(¬ okS q k i j→er ≠ 0):=by
        by_cases ho:okS q k i j
        ·exact ⟨_,_,costV_ok HKK.out HIL.out.1 HIL.out.2.1 ho,fun _=>⟨rfl,rfl⟩,fun h=>absurd ho h⟩
        ·obtain ⟨er,h1,h2⟩:=costV_no HKK.out HIL.out.1 HIL.out.2.1 ho
         exact ⟨_,_,h2,fun h=>absurd h ho,fun _=>h1⟩
       obtain ⟨X,er,hcv,hxo,hxn⟩:=hX
       have HXO:=Lib.hid hxo
       have HXN0:=Lib.hid hxn
       have hlc:=lcost_any q OK.out k i j _ _ w0 HE.out HQ.out
       rw [HL1.out,HL2.out,hcv] at hlc
       have HLC0:=Lib.hid hlc
       clear hcv hxo hxn hlc
       go_upto_region 17 with (fail)
       have KS:=Lib.hid (Blk.fresh wr #[.int .i64 k,.int .i64 i,.int .i64 j] 56)
       have qs:=below_new wr (.cells #[.int .i64 k,.int .i64 i,.int .i64 j] 56)
       replace S:=Lib.hid (S.out.below qs)
       clear qs
       generalize (wr.alloc (.cells #[.int .i64 k,.int .i64 i,.int .i64 j] 56))=V1 at *
       obtain ⟨bs,hbs⟩:∃ bm,wr.heap.size=bm:=⟨_,rfl⟩
       rw [hbs] at KS ⊢
       clear hbs
       have HLC:Hid (Ret Tryz.prog V1 24 #[.agg #[.slice A1 l1 n1,.slice A2 l2 n2,.string (qT (2 * q.ch)),.string (qT (2 * q.mi)),.string (qT (2 * q.ga)),.string (qT (2 * q.re))],.agg #[.int .i64 k,.int .i64 i,.int .i64 j]] (.tuple #[.string X,.int .i64 er])):=Lib.hid (fun W hW=>HLC0.out W (S.out.bb.trans (hW.mono S.out.bb.size)))
       refine wp_tab (.v 79 (.agg #[.slice A1 l1 n1,.slice A2 l2 n2,.string (qT (2 * q.ch)),.string (qT (2 * q.mi)),.string (qT (2 * q.ga)),.string (qT (2 * q.re))]) :: .v 80 (.agg #[.int .i64 k,.int .i64 i,.int .i64 j]) :: .v 81 (.tuple #[.string X,.int .i64 er]) :: .v 78 (.tuple #[.string X,.int .i64 er]) :: .v 82 (.string X) :: .v 83 (.int .i64 er) :: .v 12 (.string X) :: .v 13 (.int .i64 er) :: []) [] [⟨b1,#[.slice A1 l1 n1,.slice A2 l2 n2,.string (qT (2 * q.ch)),.string (qT (2 * q.mi)),.string (qT (2 * q.ga)),.string (qT (2 * q.re))], 32, none⟩,⟨bs,#[.int .i64 k,.int .i64 i,.int .i64 j], 56, none⟩] [] [] [] [] [] (by kernel_rfl) (Below.refl _ _) ⟨S.out.kq,KS.out,trivial⟩ trivial ⟨ld 0 0,ld 1 0,cl HLC.out,pu,pu,pu,pu,pu,trivial⟩ ?_
       clear HLC
       rintro σ V2 _ ⟨_,KS2,_⟩ _ _ q9
       simp only [slotsOf,finX,nval,nvalN,nvalA,Nat.reduceBEq,cond_true,cond_false,putAll,Act.put,List.setIfInBounds_toArray,List.set_cons_succ,List.set_cons_zero]
       replace S:=Lib.hid (S.out.below q9)
       clear KS q9 HLC0
       by_cases ho:okS q k i j
       ·obtain ⟨rfl,rfl⟩:=HXO.out ho
        have d0:=KS2.at_ 0 _ rfl
        have d1:=KS2.at_ 1 _ rfl
        have d2:=KS2.at_ 2 _ rfl
        have hnx:=lafter_any k i j (by have:=HIL.out.1; have:=HL1.out; omega) (by have:=HIL.out.2.1; have:=HL2.out; omega) V2
        rw [nzI_nat,nzJ_nat k j HKK.out] at hnx
        have HAF:=Lib.hid hnx
        clear hnx HXO HXN0 KS2
        have HOS:=Lib.hid ho
        go_upto_region 20 with (first
         | (go_at_call 32; with_reducible refine (HAF.out _ (Below.refl _ _)).mono ?_; rintro e V3 ⟨rfl,q3⟩)
         | fail "arm")
        clear d0 d1 d2 HAF
        replace S:=Lib.hid (S.out.below q3)
        clear q3
        have hab:=nx_more (i:=i) (j:=j) (kinds_of HKK.out)
        have hoa:=ho.1
        have hob:=ho.2.1
        have hpos:i < nxI k i ∨ (nxI k i=i∧j < nxJ k j):=by omega
        have hb1:=rst_bdQ q OK.out _ _ hoa hob
        have hb2:=cst_bd q OK.out k i j
        have hb3:=cnt_bdQ q OK.out _ _ hoa hob
        have hadd:=rAddQ (cst q k i j) (rst q (nxI k i) (nxJ k j)) (by omega) (by omega) w0 HE.out
        rw [Int.add_comm] at hadd
        have HADD:=Lib.hid hadd
        have HTRY:Hid (cntP q i j k=tryC q i j (aP,nP) k):=HNX
        have HII:Hid (i < q.L.length + 1):=Lib.hid (by omega)
        have HJJ:Hid (j < q.R.length + 1):=Lib.hid (by have:=HIL.out; omega)
        have HA1:Hid (nxI k i < q.L.length + 1∧i≤nxI k i∧nxJ k j < q.R.length + 1):=Lib.hid (by omega)
        have HPOS:=Lib.hid hpos
        have hxa:∀ x,(entE (fun p r=>.string (qT (rst q p r))) (.string ⟨#[]⟩) i j x) (nxI k i) (nxJ k j)=.string (qT (rst q (nxI k i) (nxJ k j))):=fun x=>entE_at _ _ i j x _ _ hpos
        have hxw:∀ x,(entE (fun p r=>.int .i64 (cnt q p r:Nat)) (.int .i64 0) i j x) (nxI k i) (nxJ k j)=.int .i64 (cnt q (nxI k i) (nxJ k j):Nat):=fun x=>entE_at _ _ i j x _ _ hpos
        have HXA0:=Lib.hid (And.intro hxa hxw)
        have hza:(nxI k i:Int) < (N:Int):=by have:=HN.out; have:=HL1.out; omega
        have hzb:(nxJ k j:Int) < ((l2 + 1:Nat):Int):=by have:=HL2.out; omega
        have hzb2:(nxJ k j:Int) < (l2:Int) + 1:=by omega
        have hzb3:nxJ k j < l2 + 1:=by omega
        have hiN2:(i:Int) < (N:Int):=by omega
        have hjM:(j:Int) < ((l2 + 1:Nat):Int):=by omega
        have hjM2:(j:Int) < (l2:Int) + 1:=by omega
        have hjM3:j < l2 + 1:=by omega
        have HSUM:Hid (0≤rst q (nxI k i) (nxJ k j) + cst q k i j∧rst q (nxI k i) (nxJ k j) + cst q k i j≤780000):=Lib.hid (by omega)
        have HCB:=Lib.hid hb3
        clear hoa hob hb1 hb2 hb3 hadd hab hpos hxa hxw ho
        generalize hrc:rst q (nxI k i) (nxJ k j) + cst q k i j=rc at *
        have HTN:Hid (∀ n,tryC q i j (none,n) k=(some rc,cnt q (nxI k i) (nxJ k j))):=Lib.hid (fun n=>by rw [tryC_none HOS.out,hrc])
        have HTL:Hid (∀ y n,rc < y→tryC q i j (some y,n) k=(some rc,cnt q (nxI k i) (nxJ k j))):=Lib.hid (fun y n h=>by rw [tryC_lt HOS.out y n (by rw [hrc]; exact h),hrc])
        have HTE:Hid (∀ y n,rc=y→tryC q i j (some y,n) k=(some y,n + cnt q (nxI k i) (nxJ k j))):=Lib.hid (fun y n h=>tryC_eq HOS.out y n (by rw [hrc]; exact h))
        have HTG:Hid (∀ y n,y < rc→tryC q i j (some y,n) k=(some y,n)):=Lib.hid (fun y n h=>tryC_gt HOS.out y n (by rw [hrc]; exact h))
        clear hrc HOS
        generalize nxI k i=am at *
        generalize nxJ k j=bm at *
        generalize rst q am bm=ro at *
        generalize qT ro=tro at *
        generalize qT (cst q k i j)=tk at *
        generalize cnt q am bm=cnN at *
        obtain ⟨cn,hcn⟩:∃ c:Int,(cnN:Int)=c:=⟨_,rfl⟩
        have HXA1:Hid ((∀ x,(entE (fun p r=>.string (qT (rst q p r))) (.string ⟨#[]⟩) i j x) am bm=.string tro)∧∀ x,(entE (fun p r=>.int .i64 (cnt q p r:Nat)) (.int .i64 0) i j x) am bm=.int .i64 cn):=Lib.hid ⟨HXA0.out.1,fun x=>by rw [← hcn]; exact HXA0.out.2 x⟩
        clear HXA0
        have HCN:=Lib.hid hcn
        clear hcn
        obtain ⟨ra,hra⟩:∃ r,rw2 am=r:=⟨_,rfl⟩
        have HRA:=Lib.hid hra
        clear hra
        obtain ⟨la,hla⟩:∃ r,rl2 am=r:=⟨_,rfl⟩
        have x1:=S.out.tl.cell1 am HA1.out.2.1 HA1.out.1
        have x2:=S.out.tl.cell2 am bm HA1.out.2.1 HA1.out.1 HA1.out.2.2
        rw [HXA1.out.1,hla] at x2
        rw [HL2.out,hla] at x1
        clear hla
        go_upto_region 21 with (first
         | (go_at_call 21; with_reducible refine (HADD.out _ S.out.bb).mono ?_; rintro e V4 ⟨rfl,q4⟩)
         | fail "arm")
        clear x1 x2 HADD
        replace S:=Lib.hid (S.out.below q4)
        clear q4
        obtain ⟨tc,htc⟩:∃ t,qT rc=t:=⟨_,rfl⟩
        rw [htc]
        have HTC:=Lib.hid htc
        clear htc
        have HXL:Hid (∀ cl cw U,LR w0 b1 lb wb i i rl2 rw2 q (.slice A1 l1 n1) (.slice A2 l2 n2) cl cw U→U.cell? ⟨lb,i,none⟩=some (.slice (some ⟨rl2 i,0,none⟩) (l2 + 1) (l2 + 1))):=Lib.hid (fun cl cw U h=>by have:=h.tl.cell1 i (Nat.le_refl _) HII.out; rw [HL2.out] at this; exact this)
        have HXW:Hid (∀ cl cw U,LR w0 b1 lb wb i i rl2 rw2 q (.slice A1 l1 n1) (.slice A2 l2 n2) cl cw U→U.cell? ⟨wb,i,none⟩=some (.slice (some ⟨rw2 i,0,none⟩) (l2 + 1) (l2 + 1))):=Lib.hid (fun cl cw U h=>by have:=h.tw.cell1 i (Nat.le_refl _) HII.out; rw [HL2.out] at this; exact this)
        have HXA:Hid (∀ cl cw U,LR w0 b1 lb wb i i rl2 rw2 q (.slice A1 l1 n1) (.slice A2 l2 n2) cl cw U→U.cell? ⟨wb,am,none⟩=some (.slice (some ⟨ra,0,none⟩) (l2 + 1) (l2 + 1))):=Lib.hid (fun cl cw U h=>by have:=h.tw.cell1 am HA1.out.2.1 HA1.out.1; rw [HL2.out,HRA.out] at this; exact this)
        have HFL:Hid (∀ cl cw U,LR w0 b1 lb wb i i rl2 rw2 q (.slice A1 l1 n1) (.slice A2 l2 n2) cl cw U→U.frozen? ⟨rl2 i,j,none⟩=false∧∃ v,U.cell? ⟨rl2 i,j,none⟩=some v):=Lib.hid (fun cl cw U h=>⟨h.tl.free i j (Nat.le_refl _) HII.out,_,h.tl.cell2 i j (Nat.le_refl _) HII.out HJJ.out⟩)
        have HFW:Hid (∀ cl cw U,LR w0 b1 lb wb i i rl2 rw2 q (.slice A1 l1 n1) (.slice A2 l2 n2) cl cw U→U.frozen? ⟨rw2 i,j,none⟩=false∧∃ v,U.cell? ⟨rw2 i,j,none⟩=some v):=Lib.hid (fun cl cw U h=>⟨h.tw.free i j (Nat.le_refl _) HII.out,_,h.tw.cell2 i j (Nat.le_refl _) HII.out HJJ.out⟩)
        have HXCG:Hid (∀ cl cw U,(cw am bm=.int .i64 cn)→LR w0 b1 lb wb i i rl2 rw2 q (.slice A1 l1 n1) (.slice A2 l2 n2) cl cw U→U.cell? ⟨ra,bm,none⟩=some (.int .i64 cn)):=Lib.hid (fun cl cw U e h=>by have:=h.tw.cell2 am bm HA1.out.2.1 HA1.out.1 HA1.out.2.2; rw [HRA.out,e] at this; exact this)
        have HUPD:Hid (∀ c v,(updV c i j v) am bm=c am bm):=Lib.hid (fun c v=>if_neg (by have:=HPOS.out; omega))
        have y1:=HXL.out _ _ _ S.out
        have y2:=S.out.tl.cell2 i j (Nat.le_refl _) HII.out HJJ.out
        rw [entE_self] at y2
        have t22ok:∀ (ZZ:Prop),ZZ→ZZ:=fun _ h=>h
        clear t22ok
        cases aP with
        | none =>
         have e1:optT none=⟨#[]⟩:=rfl
         rw [e1] at y2
         clear e1
         have HNEW:Hid (cntP q i j k=(some rc,cnN)):=Lib.hid (HTRY.out.trans (HTN.out nP))
         go_upto_region 22 with (fail)
         clear y1 y2
         have HXC:Hid ((∀ U,LR w0 b1 lb wb i i rl2 rw2 q (.slice A1 l1 n1) (.slice A2 l2 n2) (entE (fun p r=>.string (qT (rst q p r))) (.string ⟨#[]⟩) i j (.string (optT none))) (entE (fun p r=>.int .i64 (cnt q p r:Nat)) (.int .i64 0) i j (.int .i64 ((nP:Nat)))) U→U.cell? ⟨ra,bm,none⟩=some (.int .i64 cn))∧(∀ U,LR w0 b1 lb wb i i rl2 rw2 q (.slice A1 l1 n1) (.slice A2 l2 n2) (updV (entE (fun p r=>.string (qT (rst q p r))) (.string ⟨#[]⟩) i j (.string (optT none))) i j (.string tc)) (entE (fun p r=>.int .i64 (cnt q p r:Nat)) (.int .i64 0) i j (.int .i64 ((nP:Nat)))) U→U.cell? ⟨ra,bm,none⟩=some (.int .i64 cn))∧(∀ U,LR w0 b1 lb wb i i rl2 rw2 q (.slice A1 l1 n1) (.slice A2 l2 n2) (updV (entE (fun p r=>.string (qT (rst q p r))) (.string ⟨#[]⟩) i j (.string (optT none))) i j (.string tc)) (updV (entE (fun p r=>.int .i64 (cnt q p r:Nat)) (.int .i64 0) i j (.int .i64 ((nP:Nat)))) i j (.int .i64 cn)) U→U.cell? ⟨ra,bm,none⟩=some (.int .i64 cn))):=Lib.hid ⟨fun U h=>HXCG.out _ _ U (HXA1.out.2 _) h,fun U h=>HXCG.out _ _ U (HXA1.out.2 _) h,fun U h=>HXCG.out _ _ U (by rw [HUPD.out]; exact HXA1.out.2 _) h⟩
         clear HTN HTL HTE HTG HXA1 HXCG HUPD HPOS
         refine wp_region_par2 (by kernel_rfl) [121,122,123,124,125,126,127,128,129,130,131,132,133,134,135,136,137,138,139,140] (fun L σ U=>Vals [some 121,some 122,some 123,some 124,some 125,some 126,some 127,some 128,some 129,some 130,some 131,some 132,some 133,some 134,some 135,some 136,some 137,some 138,some 139,none,some 140,none] [(.slice (some ⟨lb,0,none⟩) N N),(.int .i64 i),(.pointer (some ⟨lb,i,none⟩)),(.slice (some ⟨rl2 i,0,none⟩) (l2 + 1) (l2 + 1)),(.int .i64 j),(.slice (some ⟨wb,0,none⟩) N N),(.int .i64 i),(.pointer (some ⟨wb,i,none⟩)),(.slice (some ⟨rw2 i,0,none⟩) (l2 + 1) (l2 + 1)),(.int .i64 j),(.string tc),(.slice (some ⟨wb,0,none⟩) N N),(.int .i64 am),(.pointer (some ⟨wb,am,none⟩)),(.slice (some ⟨ra,0,none⟩) (l2 + 1) (l2 + 1)),(.int .i64 bm),(.pointer (some ⟨ra,bm,none⟩)),(.int .i64 cn),(.pointer (some ⟨rl2 i,j,none⟩)),undef,(.pointer (some ⟨rw2 i,j,none⟩)),undef] L σ∧ST2 (LR w0 b1 lb wb i i rl2 rw2 q (.slice A1 l1 n1) (.slice A2 l2 n2) (entE (fun p r=>.string (qT (rst q p r))) (.string ⟨#[]⟩) i j (.string (optT none))) (entE (fun p r=>.int .i64 (cnt q p r:Nat)) (.int .i64 0) i j (.int .i64 ((nP:Nat))))) (LR w0 b1 lb wb i i rl2 rw2 q (.slice A1 l1 n1) (.slice A2 l2 n2) (updV (entE (fun p r=>.string (qT (rst q p r))) (.string ⟨#[]⟩) i j (.string (optT none))) i j (.string tc)) (entE (fun p r=>.int .i64 (cnt q p r:Nat)) (.int .i64 0) i j (.int .i64 ((nP:Nat))))) (LR w0 b1 lb wb i i rl2 rw2 q (.slice A1 l1 n1) (.slice A2 l2 n2) (updV (entE (fun p r=>.string (qT (rst q p r))) (.string ⟨#[]⟩) i j (.string (optT none))) i j (.string tc)) (updV (entE (fun p r=>.int .i64 (cnt q p r:Nat)) (.int .i64 0) i j (.int .i64 ((nP:Nat)))) i j (.int .i64 cn))) 19 21 L U) (by kernel_rfl) (by kernel_rfl) (by kernel_rfl) ?_ ?_ ?_
         ·exact ⟨Vals.start,ST2.start (S.out.below (Below.refl _ _).drew)⟩
         ·refine ⟨?_,?_,?_,?_,?_,?_,?_,?_,?_,?_,?_,?_,?_,?_,?_,?_,?_,?_,?_,?_,?_,?_,trivial⟩
          ·rintro L a U ho ⟨V,R⟩ hn hd K hK
           clear hd
           refine Wants.free rfl ?_
           have jr:a.tmps[(6:Nat)]?.getD undef=.slice (some ⟨lb,0,none⟩) N N:=onlyAt_slot ho 6 rfl
           have RR:=Lib.hid (R.pure 0 (by decide))
           have VV:=Lib.hid V
           clear R V
           go_simp
           exact hK.out (.slice (some ⟨lb,0,none⟩) N N) _ ⟨VV.out.set 0 _ _ rfl rfl rfl,RR.out⟩
          ·rintro L a U ho ⟨V,R⟩ hn hd K hK
           clear hd
           refine Wants.free rfl ?_
           have jr:a.tmps[(8:Nat)]?.getD undef=.int .i64 i:=onlyAt_slot ho 8 rfl
           have RR:=Lib.hid (R.pure 1 (by decide))
           have VV:=Lib.hid V
           clear R V
           go_simp
           exact hK.out (.int .i64 i) _ ⟨VV.out.set 1 _ _ rfl rfl rfl,RR.out⟩
          ·rintro L a U ho ⟨V,R⟩ hn hd K hK
           have jh0:=hd.get 0 rfl
           have jh1:=hd.get 1 rfl
           clear hd
           refine Wants.free rfl ?_
           have jr0:=V.read 0 rfl rfl jh0
           have jr1:=V.read 1 rfl rfl jh1
           have RR:=Lib.hid (R.pure 2 (by decide))
           have VV:=Lib.hid V
           clear R V
           go_simp
           exact hK.out (.pointer (some ⟨lb,i,none⟩)) _ ⟨VV.out.set 2 _ _ rfl rfl rfl,RR.out⟩
          ·rintro L a U ho ⟨V,R⟩ hn hd K hK
           have jh2:=hd.get 2 rfl
           clear hd
           refine Wants.free rfl ?_
           have jr2:=V.read 2 rfl rfl jh2
           have fc:=R.read3 (X:=fun U=>U.cell? ⟨lb,i,none⟩=some (.slice (some ⟨rl2 i,0,none⟩) (l2 + 1) (l2 + 1))) (HXL.out _ _) (HXL.out _ _) (HXL.out _ _)
           have RR:=Lib.hid (R.pure 3 (by decide))
           have VV:=Lib.hid V
           clear R V
           go_simp
           exact hK.out (.slice (some ⟨rl2 i,0,none⟩) (l2 + 1) (l2 + 1)) _ ⟨VV.out.set 3 _ _ rfl rfl rfl,RR.out⟩
          ·rintro L a U ho ⟨V,R⟩ hn hd K hK
           clear hd
           refine Wants.free rfl ?_
           have jr:a.tmps[(9:Nat)]?.getD undef=.int .i64 j:=onlyAt_slot ho 9 rfl
           have RR:=Lib.hid (R.pure 4 (by decide))
           have VV:=Lib.hid V
           clear R V
           go_simp
           exact hK.out (.int .i64 j) _ ⟨VV.out.set 4 _ _ rfl rfl rfl,RR.out⟩
          ·rintro L a U ho ⟨V,R⟩ hn hd K hK
           clear hd
           refine Wants.free rfl ?_
           have jr:a.tmps[(7:Nat)]?.getD undef=.slice (some ⟨wb,0,none⟩) N N:=onlyAt_slot ho 7 rfl
           have RR:=Lib.hid (R.pure 5 (by decide))
           have VV:=Lib.hid V
           clear R V
           go_simp
           exact hK.out (.slice (some ⟨wb,0,none⟩) N N) _ ⟨VV.out.set 5 _ _ rfl rfl rfl,RR.out⟩
          ·rintro L a U ho ⟨V,R⟩ hn hd K hK
           clear hd
           refine Wants.free rfl ?_
           have jr:a.tmps[(8:Nat)]?.getD undef=.int .i64 i:=onlyAt_slot ho 8 rfl
           have RR:=Lib.hid (R.pure 6 (by decide))
           have VV:=Lib.hid V
           clear R V
           go_simp
           exact hK.out (.int .i64 i) _ ⟨VV.out.set 6 _ _ rfl rfl rfl,RR.out⟩
          ·rintro L a U ho ⟨V,R⟩ hn hd K hK
           have jh5:=hd.get 5 rfl
           have jh6:=hd.get 6 rfl
           clear hd
           refine Wants.free rfl ?_
           have jr5:=V.read 5 rfl rfl jh5
           have jr6:=V.read 6 rfl rfl jh6
           have RR:=Lib.hid (R.pure 7 (by decide))
           have VV:=Lib.hid V
           clear R V
           go_simp
           exact hK.out (.pointer (some ⟨wb,i,none⟩)) _ ⟨VV.out.set 7 _ _ rfl rfl rfl,RR.out⟩
          ·rintro L a U ho ⟨V,R⟩ hn hd K hK
           have jh7:=hd.get 7 rfl
           clear hd
           refine Wants.free rfl ?_
           have jr7:=V.read 7 rfl rfl jh7
           have fc:=R.read3 (X:=fun U=>U.cell? ⟨wb,i,none⟩=some (.slice (some ⟨rw2 i,0,none⟩) (l2 + 1) (l2 + 1))) (HXW.out _ _) (HXW.out _ _) (HXW.out _ _)
           have RR:=Lib.hid (R.pure 8 (by decide))
           have VV:=Lib.hid V
           clear R V
           go_simp
           exact hK.out (.slice (some ⟨rw2 i,0,none⟩) (l2 + 1) (l2 + 1)) _ ⟨VV.out.set 8 _ _ rfl rfl rfl,RR.out⟩
          ·rintro L a U ho ⟨V,R⟩ hn hd K hK
           clear hd
           refine Wants.free rfl ?_
           have jr:a.tmps[(9:Nat)]?.getD undef=.int .i64 j:=onlyAt_slot ho 9 rfl
           have RR:=Lib.hid (R.pure 9 (by decide))
           have VV:=Lib.hid V
           clear R V
           go_simp
           exact hK.out (.int .i64 j) _ ⟨VV.out.set 9 _ _ rfl rfl rfl,RR.out⟩
          ·rintro L a U ho ⟨V,R⟩ hn hd K hK
           clear hd
           refine Wants.free rfl ?_
           have jr:a.tmps[(12:Nat)]?.getD undef=.string tc:=onlyAt_slot ho 12 rfl
           have RR:=Lib.hid (R.pure 10 (by decide))
           have VV:=Lib.hid V
           clear R V
           go_simp
           exact hK.out (.string tc) _ ⟨VV.out.set 10 _ _ rfl rfl rfl,RR.out⟩
          ·rintro L a U ho ⟨V,R⟩ hn hd K hK
           clear hd
           refine Wants.free rfl ?_
           have jr:a.tmps[(7:Nat)]?.getD undef=.slice (some ⟨wb,0,none⟩) N N:=onlyAt_slot ho 7 rfl
           have RR:=Lib.hid (R.pure 11 (by decide))
           have VV:=Lib.hid V
           clear R V
           go_simp
           exact hK.out (.slice (some ⟨wb,0,none⟩) N N) _ ⟨VV.out.set 11 _ _ rfl rfl rfl,RR.out⟩
          ·rintro L a U ho ⟨V,R⟩ hn hd K hK
           clear hd
           refine Wants.free rfl ?_
           have jr:a.tmps[(14:Nat)]?.getD undef=.int .i64 am:=onlyAt_slot ho 14 rfl
           have RR:=Lib.hid (R.pure 12 (by decide))
           have VV:=Lib.hid V
           clear R V
           go_simp
           exact hK.out (.int .i64 am) _ ⟨VV.out.set 12 _ _ rfl rfl rfl,RR.out⟩
          ·rintro L a U ho ⟨V,R⟩ hn hd K hK
           have jh11:=hd.get 11 rfl
           have jh12:=hd.get 12 rfl
           clear hd
           refine Wants.free rfl ?_
           have jr11:=V.read 11 rfl rfl jh11
           have jr12:=V.read 12 rfl rfl jh12
           have RR:=Lib.hid (R.pure 13 (by decide))
           have VV:=Lib.hid V
           clear R V
           go_simp
           exact hK.out (.pointer (some ⟨wb,am,none⟩)) _ ⟨VV.out.set 13 _ _ rfl rfl rfl,RR.out⟩
          ·rintro L a U ho ⟨V,R⟩ hn hd K hK
           have jh13:=hd.get 13 rfl
           clear hd
           refine Wants.free rfl ?_
           have jr13:=V.read 13 rfl rfl jh13
           have fc:=R.read3 (X:=fun U=>U.cell? ⟨wb,am,none⟩=some (.slice (some ⟨ra,0,none⟩) (l2 + 1) (l2 + 1))) (HXA.out _ _) (HXA.out _ _) (HXA.out _ _)
           have RR:=Lib.hid (R.pure 14 (by decide))
           have VV:=Lib.hid V
           clear R V
           go_simp
           exact hK.out (.slice (some ⟨ra,0,none⟩) (l2 + 1) (l2 + 1)) _ ⟨VV.out.set 14 _ _ rfl rfl rfl,RR.out⟩
          ·rintro L a U ho ⟨V,R⟩ hn hd K hK
           clear hd
           refine Wants.free rfl ?_
           have jr:a.tmps[(15:Nat)]?.getD undef=.int .i64 bm:=onlyAt_slot ho 15 rfl
           have RR:=Lib.hid (R.pure 15 (by decide))
           have VV:=Lib.hid V
           clear R V
           go_simp
           exact hK.out (.int .i64 bm) _ ⟨VV.out.set 15 _ _ rfl rfl rfl,RR.out⟩
          ·rintro L a U ho ⟨V,R⟩ hn hd K hK
           have jh14:=hd.get 14 rfl
           have jh15:=hd.get 15 rfl
           clear hd
           refine Wants.free rfl ?_
           have jr14:=V.read 14 rfl rfl jh14
           have jr15:=V.read 15 rfl rfl jh15
           have RR:=Lib.hid (R.pure 16 (by decide))
           have VV:=Lib.hid V
           clear R V
           go_simp
           exact hK.out (.pointer (some ⟨ra,bm,none⟩)) _ ⟨VV.out.set 16 _ _ rfl rfl rfl,RR.out⟩
          ·rintro L a U ho ⟨V,R⟩ hn hd K hK
           have jh16:=hd.get 16 rfl
           clear hd
           refine Wants.free rfl ?_
           have jr16:=V.read 16 rfl rfl jh16
           have fc:=R.read3 (X:=fun U=>U.cell? ⟨ra,bm,none⟩=some (.int .i64 cn)) HXC.out.1 HXC.out.2.1 HXC.out.2.2
           have RR:=Lib.hid (R.pure 17 (by decide))
           have VV:=Lib.hid V
           clear R V
           go_simp
           exact hK.out (.int .i64 cn) _ ⟨VV.out.set 17 _ _ rfl rfl rfl,RR.out⟩
          ·rintro L a U ho ⟨V,R⟩ hn hd K hK
           have jh3:=hd.get 3 rfl
           have jh4:=hd.get 4 rfl
           clear hd
           refine Wants.free rfl ?_
           have jr3:=V.read 3 rfl rfl jh3
           have jr4:=V.read 4 rfl rfl jh4
           have RR:=Lib.hid (R.pure 18 (by decide))
           have VV:=Lib.hid V
           clear R V
           go_simp
           exact hK.out (.pointer (some ⟨rl2 i,j,none⟩)) _ ⟨VV.out.set 18 _ _ rfl rfl rfl,RR.out⟩
          ·rintro L a U ho ⟨V,R⟩ hn hd K hK
           have jh18:=hd.get 18 rfl
           have jh10:=hd.get 10 rfl
           clear hd
           refine Wants.free rfl ?_
           have jr18:=V.read 18 rfl rfl jh18
           have jr10:=V.read 10 rfl rfl jh10
           obtain ⟨f1,u,f2⟩:=HFL.out _ _ U (R.atA hn)
           have RR:=Lib.hid (R.first hn (by decide) (fun h=>LR.setL (p:=i) (r:=j) (h1:=Nat.le_refl _) (h2:=HII.out) (v:=.string tc) (h:=h)))
           have VV:=Lib.hid V
           clear R V
           go_simp
           exact hK.out undef _ ⟨VV.out.same 19 _ rfl,RR.out⟩
          ·rintro L a U ho ⟨V,R⟩ hn hd K hK
           have jh8:=hd.get 8 rfl
           have jh9:=hd.get 9 rfl
           clear hd
           refine Wants.free rfl ?_
           have jr8:=V.read 8 rfl rfl jh8
           have jr9:=V.read 9 rfl rfl jh9
           have RR:=Lib.hid (R.pure 20 (by decide))
           have VV:=Lib.hid V
           clear R V
           go_simp
           exact hK.out (.pointer (some ⟨rw2 i,j,none⟩)) _ ⟨VV.out.set 20 _ _ rfl rfl rfl,RR.out⟩
          ·rintro L a U ho ⟨V,R⟩ hn hd K hK
           have jh20:=hd.get 20 rfl
           have jh17:=hd.get 17 rfl
           have jhm:=hd.get 19 rfl
           clear hd
           refine Wants.free rfl ?_
           have jr20:=V.read 20 rfl rfl jh20
           have jr17:=V.read 17 rfl rfl jh17
           obtain ⟨f1,u,f2⟩:=HFW.out _ _ U (R.atB hn jhm)
           have RR:=Lib.hid (R.second hn jhm (fun h=>LR.setW (p:=i) (r:=j) (h1:=Nat.le_refl _) (h2:=HII.out) (v:=.int .i64 cn) (h:=h)))
           have VV:=Lib.hid V
           clear R V
           go_simp
           exact hK.out undef _ ⟨VV.out.same 21 _ rfl,RR.out⟩
         rintro L σ W8 ⟨V,R⟩ hL
         have jf0:=V 0 _ _ rfl rfl (hL 0 (by decide))
         have jf1:=V 1 _ _ rfl rfl (hL 1 (by decide))
         have jf2:=V 2 _ _ rfl rfl (hL 2 (by decide))
         have jf3:=V 3 _ _ rfl rfl (hL 3 (by decide))
         have jf4:=V 4 _ _ rfl rfl (hL 4 (by decide))
         have jf5:=V 5 _ _ rfl rfl (hL 5 (by decide))
         have jf6:=V 6 _ _ rfl rfl (hL 6 (by decide))
         have jf7:=V 7 _ _ rfl rfl (hL 7 (by decide))
         have jf8:=V 8 _ _ rfl rfl (hL 8 (by decide))
         have jf9:=V 9 _ _ rfl rfl (hL 9 (by decide))
         have jf10:=V 10 _ _ rfl rfl (hL 10 (by decide))
         have jf11:=V 11 _ _ rfl rfl (hL 11 (by decide))
         have jf12:=V 12 _ _ rfl rfl (hL 12 (by decide))
         have jf13:=V 13 _ _ rfl rfl (hL 13 (by decide))
         have jf14:=V 14 _ _ rfl rfl (hL 14 (by decide))
         have jf15:=V 15 _ _ rfl rfl (hL 15 (by decide))
         have jf16:=V 16 _ _ rfl rfl (hL 16 (by decide))
         have jf17:=V 17 _ _ rfl rfl (hL 17 (by decide))
         have jf18:=V 18 _ _ rfl rfl (hL 18 (by decide))
         have jf20:=V 20 _ _ rfl rfl (hL 20 (by decide))
         have S8:=Lib.hid (R.atC (hL 21 (by decide)))
         clear V R hL
         rw [show List.map σ [121,122,123,124,125,126,127,128,129,130,131,132,133,134,135,136,137,138,139,140]=[σ 121,σ 122,σ 123,σ 124,σ 125,σ 126,σ 127,σ 128,σ 129,σ 130,σ 131,σ 132,σ 133,σ 134,σ 135,σ 136,σ 137,σ 138,σ 139,σ 140] from rfl,jf0,jf1,jf2,jf3,jf4,jf5,jf6,jf7,jf8,jf9,jf10,jf11,jf12,jf13,jf14,jf15,jf16,jf17,jf18,jf20]
         clear jf0 jf1 jf2 jf3 jf4 jf5 jf6 jf7 jf8 jf9 jf10 jf11 jf12 jf13 jf14 jf15 jf16 jf17 jf18 jf20
         simp only [putAll,List.map,Act.put,List.setIfInBounds_toArray,List.set_cons_succ,List.set_cons_zero]
         have S9:Hid (LR w0 b1 lb wb i i rl2 rw2 q (.slice A1 l1 n1) (.slice A2 l2 n2) (entE (fun p r=>.string (qT (rst q p r))) (.string ⟨#[]⟩) i j (.string (optT (cntP q i j (k + 1 - 1)).1))) (entE (fun p r=>.int .i64 (cnt q p r:Nat)) (.int .i64 0) i j (.int .i64 (((cntP q i j (k + 1 - 1)).2:Nat)))) W8):=Lib.hid (by
          rw [Nat.add_sub_cancel,HNEW.out]
          refine S8.out.congr (fun p r _ _ _=>?_) (fun p r _ _ _=>?_)
          ·rw [entE_upd,← HTC.out]; rfl
          ·rw [entE_upd,← HCN.out])
         clear S8
         go_wp2
         exact ⟨⟨k + 1,by omega,by omega,rfl,S9.out⟩,by simp [intOf]; omega⟩
        | some y =>
         have e1:optT (some y)=qT y:=rfl
         have hyb:=HBD.out.1 y rfl
         rw [e1] at y2
         have hne:=qT_ne y
         have hcm:=rCmpQ rc y (by have:=HSUM.out; omega) (by omega) w0 HE.out
         rw [HTC.out] at hcm
         have HCM:=Lib.hid hcm
         clear e1 hcm
         by_cases hlt:rc < y
         ·have g1:decide ((rc - y).sign < 0)=true:=by rw [dsign_ltC]; exact decide_eq_true (by omega)
          have HNEW:Hid (cntP q i j k=(some rc,cnN)):=Lib.hid (HTRY.out.trans (HTL.out y nP hlt))
          generalize (rc - y).sign=sg at *
          clear hlt hyb
          go_upto_region 22 with (first
           | (go_at_call 22; with_reducible refine (HCM.out _ S.out.bb).mono ?_; rintro e V5 ⟨rfl,q5⟩; replace S:=Lib.hid (S.out.below q5); clear q5)
           | fail "arm")
          clear y1 y2
          have HXC:Hid ((∀ U,LR w0 b1 lb wb i i rl2 rw2 q (.slice A1 l1 n1) (.slice A2 l2 n2) (entE (fun p r=>.string (qT (rst q p r))) (.string ⟨#[]⟩) i j (.string (optT (some y)))) (entE (fun p r=>.int .i64 (cnt q p r:Nat)) (.int .i64 0) i j (.int .i64 ((nP:Nat)))) U→U.cell? ⟨ra,bm,none⟩=some (.int .i64 cn))∧(∀ U,LR w0 b1 lb wb i i rl2 rw2 q (.slice A1 l1 n1) (.slice A2 l2 n2) (updV (entE (fun p r=>.string (qT (rst q p r))) (.string ⟨#[]⟩) i j (.string (optT (some y)))) i j (.string tc)) (entE (fun p r=>.int .i64 (cnt q p r:Nat)) (.int .i64 0) i j (.int .i64 ((nP:Nat)))) U→U.cell? ⟨ra,bm,none⟩=some (.int .i64 cn))∧(∀ U,LR w0 b1 lb wb i i rl2 rw2 q (.slice A1 l1 n1) (.slice A2 l2 n2) (updV (entE (fun p r=>.string (qT (rst q p r))) (.string ⟨#[]⟩) i j (.string (optT (some y)))) i j (.string tc)) (updV (entE (fun p r=>.int .i64 (cnt q p r:Nat)) (.int .i64 0) i j (.int .i64 ((nP:Nat)))) i j (.int .i64 cn)) U→U.cell? ⟨ra,bm,none⟩=some (.int .i64 cn))):=Lib.hid ⟨fun U h=>HXCG.out _ _ U (HXA1.out.2 _) h,fun U h=>HXCG.out _ _ U (HXA1.out.2 _) h,fun U h=>HXCG.out _ _ U (by rw [HUPD.out]; exact HXA1.out.2 _) h⟩
          clear HTN HTL HTE HTG HXA1 HXCG HUPD HPOS HCM g1 hne
          refine wp_region_par2 (by kernel_rfl) [121,122,123,124,125,126,127,128,129,130,131,132,133,134,135,136,137,138,139,140] (fun L σ U=>Vals [some 121,some 122,some 123,some 124,some 125,some 126,some 127,some 128,some 129,some 130,some 131,some 132,some 133,some 134,some 135,some 136,some 137,some 138,some 139,none,some 140,none] [(.slice (some ⟨lb,0,none⟩) N N),(.int .i64 i),(.pointer (some ⟨lb,i,none⟩)),(.slice (some ⟨rl2 i,0,none⟩) (l2 + 1) (l2 + 1)),(.int .i64 j),(.slice (some ⟨wb,0,none⟩) N N),(.int .i64 i),(.pointer (some ⟨wb,i,none⟩)),(.slice (some ⟨rw2 i,0,none⟩) (l2 + 1) (l2 + 1)),(.int .i64 j),(.string tc),(.slice (some ⟨wb,0,none⟩) N N),(.int .i64 am),(.pointer (some ⟨wb,am,none⟩)),(.slice (some ⟨ra,0,none⟩) (l2 + 1) (l2 + 1)),(.int .i64 bm),(.pointer (some ⟨ra,bm,none⟩)),(.int .i64 cn),(.pointer (some ⟨rl2 i,j,none⟩)),undef,(.pointer (some ⟨rw2 i,j,none⟩)),undef] L σ∧ST2 (LR w0 b1 lb wb i i rl2 rw2 q (.slice A1 l1 n1) (.slice A2 l2 n2) (entE (fun p r=>.string (qT (rst q p r))) (.string ⟨#[]⟩) i j (.string (optT (some y)))) (entE (fun p r=>.int .i64 (cnt q p r:Nat)) (.int .i64 0) i j (.int .i64 ((nP:Nat))))) (LR w0 b1 lb wb i i rl2 rw2 q (.slice A1 l1 n1) (.slice A2 l2 n2) (updV (entE (fun p r=>.string (qT (rst q p r))) (.string ⟨#[]⟩) i j (.string (optT (some y)))) i j (.string tc)) (entE (fun p r=>.int .i64 (cnt q p r:Nat)) (.int .i64 0) i j (.int .i64 ((nP:Nat))))) (LR w0 b1 lb wb i i rl2 rw2 q (.slice A1 l1 n1) (.slice A2 l2 n2) (updV (entE (fun p r=>.string (qT (rst q p r))) (.string ⟨#[]⟩) i j (.string (optT (some y)))) i j (.string tc)) (updV (entE (fun p r=>.int .i64 (cnt q p r:Nat)) (.int .i64 0) i j (.int .i64 ((nP:Nat)))) i j (.int .i64 cn))) 19 21 L U) (by kernel_rfl) (by kernel_rfl) (by kernel_rfl) ?_ ?_ ?_
          ·exact ⟨Vals.start,ST2.start (S.out.below (Below.refl _ _).drew)⟩
          ·refine ⟨?_,?_,?_,?_,?_,?_,?_,?_,?_,?_,?_,?_,?_,?_,?_,?_,?_,?_,?_,?_,?_,?_,trivial⟩
           ·rintro L a U ho ⟨V,R⟩ hn hd K hK
            clear hd
            refine Wants.free rfl ?_
            have jr:a.tmps[(6:Nat)]?.getD undef=.slice (some ⟨lb,0,none⟩) N N:=onlyAt_slot ho 6 rfl
            have RR:=Lib.hid (R.pure 0 (by decide))
            have VV:=Lib.hid V
            clear R V
            go_simp
            exact hK.out (.slice (some ⟨lb,0,none⟩) N N) _ ⟨VV.out.set 0 _ _ rfl rfl rfl,RR.out⟩
           ·rintro L a U ho ⟨V,R⟩ hn hd K hK
            clear hd
            refine Wants.free rfl ?_
            have jr:a.tmps[(8:Nat)]?.getD undef=.int .i64 i:=onlyAt_slot ho 8 rfl
            have RR:=Lib.hid (R.pure 1 (by decide))
            have VV:=Lib.hid V
            clear R V
            go_simp
            exact hK.out (.int .i64 i) _ ⟨VV.out.set 1 _ _ rfl rfl rfl,RR.out⟩
           ·rintro L a U ho ⟨V,R⟩ hn hd K hK
            have jh0:=hd.get 0 rfl
            have jh1:=hd.get 1 rfl
            clear hd
            refine Wants.free rfl ?_
            have jr0:=V.read 0 rfl rfl jh0
            have jr1:=V.read 1 rfl rfl jh1
            have RR:=Lib.hid (R.pure 2 (by decide))
            have VV:=Lib.hid V
            clear R V
            go_simp
            exact hK.out (.pointer (some ⟨lb,i,none⟩)) _ ⟨VV.out.set 2 _ _ rfl rfl rfl,RR.out⟩
           ·rintro L a U ho ⟨V,R⟩ hn hd K hK
            have jh2:=hd.get 2 rfl
            clear hd
            refine Wants.free rfl ?_
            have jr2:=V.read 2 rfl rfl jh2
            have fc:=R.read3 (X:=fun U=>U.cell? ⟨lb,i,none⟩=some (.slice (some ⟨rl2 i,0,none⟩) (l2 + 1) (l2 + 1))) (HXL.out _ _) (HXL.out _ _) (HXL.out _ _)
            have RR:=Lib.hid (R.pure 3 (by decide))
            have VV:=Lib.hid V
            clear R V
            go_simp
            exact hK.out (.slice (some ⟨rl2 i,0,none⟩) (l2 + 1) (l2 + 1)) _ ⟨VV.out.set 3 _ _ rfl rfl rfl,RR.out⟩
           ·rintro L a U ho ⟨V,R⟩ hn hd K hK
            clear hd
            refine Wants.free rfl ?_
            have jr:a.tmps[(9:Nat)]?.getD undef=.int .i64 j:=onlyAt_slot ho 9 rfl
            have RR:=Lib.hid (R.pure 4 (by decide))
            have VV:=Lib.hid V
            clear R V
            go_simp
            exact hK.out (.int .i64 j) _ ⟨VV.out.set 4 _ _ rfl rfl rfl,RR.out⟩
           ·rintro L a U ho ⟨V,R⟩ hn hd K hK
            clear hd
            refine Wants.free rfl ?_
            have jr:a.tmps[(7:Nat)]?.getD undef=.slice (some ⟨wb,0,none⟩) N N:=onlyAt_slot ho 7 rfl
            have RR:=Lib.hid (R.pure 5 (by decide))
            have VV:=Lib.hid V
            clear R V
            go_simp
            exact hK.out (.slice (some ⟨wb,0,none⟩) N N) _ ⟨VV.out.set 5 _ _ rfl rfl rfl,RR.out⟩
           ·rintro L a U ho ⟨V,R⟩ hn hd K hK
            clear hd
            refine Wants.free rfl ?_
            have jr:a.tmps[(8:Nat)]?.getD undef=.int .i64 i:=onlyAt_slot ho 8 rfl
            have RR:=Lib.hid (R.pure 6 (by decide))
            have VV:=Lib.hid V
            clear R V
            go_simp
            exact hK.out (.int .i64 i) _ ⟨VV.out.set 6 _ _ rfl rfl rfl,RR.out⟩
           ·rintro L a U ho ⟨V,R⟩ hn hd K hK
            have jh5:=hd.get 5 rfl
            have jh6:=hd.get 6 rfl
            clear hd
            refine Wants.free rfl ?_
            have jr5:=V.read 5 rfl rfl jh5
            have jr6:=V.read 6 rfl rfl jh6
            have RR:=Lib.hid (R.pure 7 (by decide))
            have VV:=Lib.hid V
            clear R V
            go_simp
            exact hK.out (.pointer (some ⟨wb,i,none⟩)) _ ⟨VV.out.set 7 _ _ rfl rfl rfl,RR.out⟩
           ·rintro L a U ho ⟨V,R⟩ hn hd K hK
            have jh7:=hd.get 7 rfl
            clear hd
            refine Wants.free rfl ?_
            have jr7:=V.read 7 rfl rfl jh7
            have fc:=R.read3 (X:=fun U=>U.cell? ⟨wb,i,none⟩=some (.slice (some ⟨rw2 i,0,none⟩) (l2 + 1) (l2 + 1))) (HXW.out _ _) (HXW.out _ _) (HXW.out _ _)
            have RR:=Lib.hid (R.pure 8 (by decide))
            have VV:=Lib.hid V
            clear R V
            go_simp
            exact hK.out (.slice (some ⟨rw2 i,0,none⟩) (l2 + 1) (l2 + 1)) _ ⟨VV.out.set 8 _ _ rfl rfl rfl,RR.out⟩
           ·rintro L a U ho ⟨V,R⟩ hn hd K hK
            clear hd
            refine Wants.free rfl ?_
            have jr:a.tmps[(9:Nat)]?.getD undef=.int .i64 j:=onlyAt_slot ho 9 rfl
            have RR:=Lib.hid (R.pure 9 (by decide))
            have VV:=Lib.hid V
            clear R V
            go_simp
            exact hK.out (.int .i64 j) _ ⟨VV.out.set 9 _ _ rfl rfl rfl,RR.out⟩
           ·rintro L a U ho ⟨V,R⟩ hn hd K hK
            clear hd
            refine Wants.free rfl ?_
            have jr:a.tmps[(12:Nat)]?.getD undef=.string tc:=onlyAt_slot ho 12 rfl
            have RR:=Lib.hid (R.pure 10 (by decide))
            have VV:=Lib.hid V
            clear R V
            go_simp
            exact hK.out (.string tc) _ ⟨VV.out.set 10 _ _ rfl rfl rfl,RR.out⟩
           ·rintro L a U ho ⟨V,R⟩ hn hd K hK
            clear hd
            refine Wants.free rfl ?_
            have jr:a.tmps[(7:Nat)]?.getD undef=.slice (some ⟨wb,0,none⟩) N N:=onlyAt_slot ho 7 rfl
            have RR:=Lib.hid (R.pure 11 (by decide))
            have VV:=Lib.hid V
            clear R V
            go_simp
            exact hK.out (.slice (some ⟨wb,0,none⟩) N N) _ ⟨VV.out.set 11 _ _ rfl rfl rfl,RR.out⟩
           ·rintro L a U ho ⟨V,R⟩ hn hd K hK
            clear hd
            refine Wants.free rfl ?_
            have jr:a.tmps[(14:Nat)]?.getD undef=.int .i64 am:=onlyAt_slot ho 14 rfl
            have RR:=Lib.hid (R.pure 12 (by decide))
            have VV:=Lib.hid V
            clear R V
            go_simp
            exact hK.out (.int .i64 am) _ ⟨VV.out.set 12 _ _ rfl rfl rfl,RR.out⟩
           ·rintro L a U ho ⟨V,R⟩ hn hd K hK
            have jh11:=hd.get 11 rfl
            have jh12:=hd.get 12 rfl
            clear hd
            refine Wants.free rfl ?_
            have jr11:=V.read 11 rfl rfl jh11
            have jr12:=V.read 12 rfl rfl jh12
            have RR:=Lib.hid (R.pure 13 (by decide))
            have VV:=Lib.hid V
            clear R V
            go_simp
            exact hK.out (.pointer (some ⟨wb,am,none⟩)) _ ⟨VV.out.set 13 _ _ rfl rfl rfl,RR.out⟩
           ·rintro L a U ho ⟨V,R⟩ hn hd K hK
            have jh13:=hd.get 13 rfl
            clear hd
            refine Wants.free rfl ?_
            have jr13:=V.read 13 rfl rfl jh13
            have fc:=R.read3 (X:=fun U=>U.cell? ⟨wb,am,none⟩=some (.slice (some ⟨ra,0,none⟩) (l2 + 1) (l2 + 1))) (HXA.out _ _) (HXA.out _ _) (HXA.out _ _)
            have RR:=Lib.hid (R.pure 14 (by decide))
            have VV:=Lib.hid V
            clear R V
            go_simp
            exact hK.out (.slice (some ⟨ra,0,none⟩) (l2 + 1) (l2 + 1)) _ ⟨VV.out.set 14 _ _ rfl rfl rfl,RR.out⟩
           ·rintro L a U ho ⟨V,R⟩ hn hd K hK
            clear hd
            refine Wants.free rfl ?_
            have jr:a.tmps[(15:Nat)]?.getD undef=.int .i64 bm:=onlyAt_slot ho 15 rfl
            have RR:=Lib.hid (R.pure 15 (by decide))
            have VV:=Lib.hid V
            clear R V
            go_simp
            exact hK.out (.int .i64 bm) _ ⟨VV.out.set 15 _ _ rfl rfl rfl,RR.out⟩
           ·rintro L a U ho ⟨V,R⟩ hn hd K hK
            have jh14:=hd.get 14 rfl
            have jh15:=hd.get 15 rfl
            clear hd
            refine Wants.free rfl ?_
            have jr14:=V.read 14 rfl rfl jh14
            have jr15:=V.read 15 rfl rfl jh15
            have RR:=Lib.hid (R.pure 16 (by decide))
            have VV:=Lib.hid V
            clear R V
            go_simp
            exact hK.out (.pointer (some ⟨ra,bm,none⟩)) _ ⟨VV.out.set 16 _ _ rfl rfl rfl,RR.out⟩
           ·rintro L a U ho ⟨V,R⟩ hn hd K hK
            have jh16:=hd.get 16 rfl
            clear hd
            refine Wants.free rfl ?_
            have jr16:=V.read 16 rfl rfl jh16
            have fc:=R.read3 (X:=fun U=>U.cell? ⟨ra,bm,none⟩=some (.int .i64 cn)) HXC.out.1 HXC.out.2.1 HXC.out.2.2
            have RR:=Lib.hid (R.pure 17 (by decide))
            have VV:=Lib.hid V
            clear R V
            go_simp
            exact hK.out (.int .i64 cn) _ ⟨VV.out.set 17 _ _ rfl rfl rfl,RR.out⟩
           ·rintro L a U ho ⟨V,R⟩ hn hd K hK
            have jh3:=hd.get 3 rfl
            have jh4:=hd.get 4 rfl
            clear hd
            refine Wants.free rfl ?_
            have jr3:=V.read 3 rfl rfl jh3
            have jr4:=V.read 4 rfl rfl jh4
            have RR:=Lib.hid (R.pure 18 (by decide))
            have VV:=Lib.hid V
            clear R V
            go_simp
            exact hK.out (.pointer (some ⟨rl2 i,j,none⟩)) _ ⟨VV.out.set 18 _ _ rfl rfl rfl,RR.out⟩
           ·rintro L a U ho ⟨V,R⟩ hn hd K hK
            have jh18:=hd.get 18 rfl
            have jh10:=hd.get 10 rfl
            clear hd
            refine Wants.free rfl ?_
            have jr18:=V.read 18 rfl rfl jh18
            have jr10:=V.read 10 rfl rfl jh10
            obtain ⟨f1,u,f2⟩:=HFL.out _ _ U (R.atA hn)
            have RR:=Lib.hid (R.first hn (by decide) (fun h=>LR.setL (p:=i) (r:=j) (h1:=Nat.le_refl _) (h2:=HII.out) (v:=.string tc) (h:=h)))
            have VV:=Lib.hid V
            clear R V
            go_simp
            exact hK.out undef _ ⟨VV.out.same 19 _ rfl,RR.out⟩
           ·rintro L a U ho ⟨V,R⟩ hn hd K hK
            have jh8:=hd.get 8 rfl
            have jh9:=hd.get 9 rfl
            clear hd
            refine Wants.free rfl ?_
            have jr8:=V.read 8 rfl rfl jh8
            have jr9:=V.read 9 rfl rfl jh9
            have RR:=Lib.hid (R.pure 20 (by decide))
            have VV:=Lib.hid V
            clear R V
            go_simp
            exact hK.out (.pointer (some ⟨rw2 i,j,none⟩)) _ ⟨VV.out.set 20 _ _ rfl rfl rfl,RR.out⟩
           ·rintro L a U ho ⟨V,R⟩ hn hd K hK
            have jh20:=hd.get 20 rfl
            have jh17:=hd.get 17 rfl
            have jhm:=hd.get 19 rfl
            clear hd
            refine Wants.free rfl ?_
            have jr20:=V.read 20 rfl rfl jh20
            have jr17:=V.read 17 rfl rfl jh17
            obtain ⟨f1,u,f2⟩:=HFW.out _ _ U (R.atB hn jhm)
            have RR:=Lib.hid (R.second hn jhm (fun h=>LR.setW (p:=i) (r:=j) (h1:=Nat.le_refl _) (h2:=HII.out) (v:=.int .i64 cn) (h:=h)))
            have VV:=Lib.hid V
            clear R V
            go_simp
            exact hK.out undef _ ⟨VV.out.same 21 _ rfl,RR.out⟩
          rintro L σ W8 ⟨V,R⟩ hL
          have jf0:=V 0 _ _ rfl rfl (hL 0 (by decide))
          have jf1:=V 1 _ _ rfl rfl (hL 1 (by decide))
          have jf2:=V 2 _ _ rfl rfl (hL 2 (by decide))
          have jf3:=V 3 _ _ rfl rfl (hL 3 (by decide))
          have jf4:=V 4 _ _ rfl rfl (hL 4 (by decide))
          have jf5:=V 5 _ _ rfl rfl (hL 5 (by decide))
          have jf6:=V 6 _ _ rfl rfl (hL 6 (by decide))
          have jf7:=V 7 _ _ rfl rfl (hL 7 (by decide))
          have jf8:=V 8 _ _ rfl rfl (hL 8 (by decide))
          have jf9:=V 9 _ _ rfl rfl (hL 9 (by decide))
          have jf10:=V 10 _ _ rfl rfl (hL 10 (by decide))
          have jf11:=V 11 _ _ rfl rfl (hL 11 (by decide))
          have jf12:=V 12 _ _ rfl rfl (hL 12 (by decide))
          have jf13:=V 13 _ _ rfl rfl (hL 13 (by decide))
          have jf14:=V 14 _ _ rfl rfl (hL 14 (by decide))
          have jf15:=V 15 _ _ rfl rfl (hL 15 (by decide))
          have jf16:=V 16 _ _ rfl rfl (hL 16 (by decide))
          have jf17:=V 17 _ _ rfl rfl (hL 17 (by decide))
          have jf18:=V 18 _ _ rfl rfl (hL 18 (by decide))
          have jf20:=V 20 _ _ rfl rfl (hL 20 (by decide))
          have S8:=Lib.hid (R.atC (hL 21 (by decide)))
          clear V R hL
          rw [show List.map σ [121,122,123,124,125,126,127,128,129,130,131,132,133,134,135,136,137,138,139,140]=[σ 121,σ 122,σ 123,σ 124,σ 125,σ 126,σ 127,σ 128,σ 129,σ 130,σ 131,σ 132,σ 133,σ 134,σ 135,σ 136,σ 137,σ 138,σ 139,σ 140] from rfl,jf0,jf1,jf2,jf3,jf4,jf5,jf6,jf7,jf8,jf9,jf10,jf11,jf12,jf13,jf14,jf15,jf16,jf17,jf18,jf20]
          clear jf0 jf1 jf2 jf3 jf4 jf5 jf6 jf7 jf8 jf9 jf10 jf11 jf12 jf13 jf14 jf15 jf16 jf17 jf18 jf20
          simp only [putAll,List.map,Act.put,List.setIfInBounds_toArray,List.set_cons_succ,List.set_cons_zero]
          have S9:Hid (LR w0 b1 lb wb i i rl2 rw2 q (.slice A1 l1 n1) (.slice A2 l2 n2) (entE (fun p r=>.string (qT (rst q p r))) (.string ⟨#[]⟩) i j (.string (optT (cntP q i j (k + 1 - 1)).1))) (entE (fun p r=>.int .i64 (cnt q p r:Nat)) (.int .i64 0) i j (.int .i64 (((cntP q i j (k + 1 - 1)).2:Nat)))) W8):=Lib.hid (by
           rw [Nat.add_sub_cancel,HNEW.out]
           refine S8.out.congr (fun p r _ _ _=>?_) (fun p r _ _ _=>?_)
           ·rw [entE_upd,← HTC.out]; rfl
           ·rw [entE_upd,← HCN.out])
          clear S8
          go_wp2
          exact ⟨⟨k + 1,by omega,by omega,rfl,S9.out⟩,by simp [intOf]; omega⟩
         ·have g1:decide ((rc - y).sign < 0)=false:=by rw [dsign_ltC]; exact decide_eq_false (by omega)
          by_cases heq:rc=y
          ·have HNEW:Hid (cntP q i j k=(some y,nP + cnN)):=Lib.hid (HTRY.out.trans (HTE.out y nP heq))
           obtain rfl:tc=qT y:=by rw [← HTC.out,heq]
           have hwn:IntKind.i64.wrap ((nP:Int) + cn)=(nP:Int) + cn:=IntWalk.i64_in _ (by have h1:=HBD.out.2; have h2:=HCN.out; have h3:=HCB.out; have h4:(k - 1) * 244140625≤5 * 244140625:=Nat.mul_le_mul_right _ (by omega); omega)
           have hee:((qT y).toList == (qT y).toList)=true:=beq_self_eq_true _
           have HXE:Hid (∀ cl U,LR w0 b1 lb wb i i rl2 rw2 q (.slice A1 l1 n1) (.slice A2 l2 n2) (entE (fun p r=>.string (qT (rst q p r))) (.string ⟨#[]⟩) i j (.string (optT (some y)))) cl U→U.cell? ⟨rl2 i,j,none⟩=some (.string (qT y))):=Lib.hid (fun cl U h=>by have:=h.tl.cell2 i j (Nat.le_refl _) HII.out HJJ.out; rw [entE_self] at this; exact this)
           generalize (rc - y).sign=sg at *
           clear hlt heq HTC hyb
           go_upto_region 24 with (first
            | (go_at_call 22; with_reducible refine (HCM.out _ S.out.bb).mono ?_; rintro e V5 ⟨rfl,q5⟩; replace S:=Lib.hid (S.out.below q5); clear q5 y1 y2; have y1:=HXL.out _ _ _ S.out; have y2:=HXE.out _ _ S.out)
            | fail "arm")
           clear y1 y2
           have HXN:Hid (∀ U,LR w0 b1 lb wb i i rl2 rw2 q (.slice A1 l1 n1) (.slice A2 l2 n2) (entE (fun p r=>.string (qT (rst q p r))) (.string ⟨#[]⟩) i j (.string (optT (some y)))) (entE (fun p r=>.int .i64 (cnt q p r:Nat)) (.int .i64 0) i j (.int .i64 ((nP:Nat)))) U→U.cell? ⟨rw2 i,j,none⟩=some (.int .i64 (nP:Nat))):=Lib.hid (fun U h=>by have:=h.tw.cell2 i j (Nat.le_refl _) HII.out HJJ.out; rw [entE_self] at this; exact this)
           have HXC:Hid ((∀ U,LR w0 b1 lb wb i i rl2 rw2 q (.slice A1 l1 n1) (.slice A2 l2 n2) (entE (fun p r=>.string (qT (rst q p r))) (.string ⟨#[]⟩) i j (.string (optT (some y)))) (entE (fun p r=>.int .i64 (cnt q p r:Nat)) (.int .i64 0) i j (.int .i64 ((nP:Nat)))) U→U.cell? ⟨ra,bm,none⟩=some (.int .i64 cn))∧(∀ U,LR w0 b1 lb wb i i rl2 rw2 q (.slice A1 l1 n1) (.slice A2 l2 n2) (entE (fun p r=>.string (qT (rst q p r))) (.string ⟨#[]⟩) i j (.string (optT (some y)))) (updV (entE (fun p r=>.int .i64 (cnt q p r:Nat)) (.int .i64 0) i j (.int .i64 ((nP:Nat)))) i j (.int .i64 ((nP:Int) + cn))) U→U.cell? ⟨ra,bm,none⟩=some (.int .i64 cn))):=Lib.hid ⟨fun U h=>HXCG.out _ _ U (HXA1.out.2 _) h,fun U h=>HXCG.out _ _ U (by rw [HUPD.out]; exact HXA1.out.2 _) h⟩
           clear HTN HTL HTE HTG HXA1 HXCG HUPD HPOS HCM g1 hne HXE hee
           refine wp_region_par2 (by kernel_rfl) [151,152,153,154,155,156,157,158,159,160,161,162,163,164,165,166] (fun L σ U=>Vals [some 151,some 152,some 153,some 154,some 155,some 156,some 157,some 158,some 159,some 160,some 161,some 162,some 163,some 164,some 165,some 166,none] [(.slice (some ⟨wb,0,none⟩) N N),(.int .i64 i),(.pointer (some ⟨wb,i,none⟩)),(.slice (some ⟨rw2 i,0,none⟩) (l2 + 1) (l2 + 1)),(.int .i64 j),(.pointer (some ⟨rw2 i,j,none⟩)),(.int .i64 (nP:Nat)),(.slice (some ⟨wb,0,none⟩) N N),(.int .i64 am),(.pointer (some ⟨wb,am,none⟩)),(.slice (some ⟨ra,0,none⟩) (l2 + 1) (l2 + 1)),(.int .i64 bm),(.pointer (some ⟨ra,bm,none⟩)),(.int .i64 cn),(.int .i64 ((nP:Int) + cn)),(.pointer (some ⟨rw2 i,j,none⟩)),undef] L σ∧ST1 (LR w0 b1 lb wb i i rl2 rw2 q (.slice A1 l1 n1) (.slice A2 l2 n2) (entE (fun p r=>.string (qT (rst q p r))) (.string ⟨#[]⟩) i j (.string (optT (some y)))) (entE (fun p r=>.int .i64 (cnt q p r:Nat)) (.int .i64 0) i j (.int .i64 ((nP:Nat))))) (LR w0 b1 lb wb i i rl2 rw2 q (.slice A1 l1 n1) (.slice A2 l2 n2) (entE (fun p r=>.string (qT (rst q p r))) (.string ⟨#[]⟩) i j (.string (optT (some y)))) (updV (entE (fun p r=>.int .i64 (cnt q p r:Nat)) (.int .i64 0) i j (.int .i64 ((nP:Nat)))) i j (.int .i64 ((nP:Int) + cn)))) 16 L U∧Deps [(16,14),(14,6)] L) (by kernel_rfl) (by kernel_rfl) (by kernel_rfl) ?_ ?_ ?_
           ·exact ⟨Vals.start,ST1.start (S.out.below (Below.refl _ _).drew),Deps.start _⟩
           ·refine ⟨?_,?_,?_,?_,?_,?_,?_,?_,?_,?_,?_,?_,?_,?_,?_,?_,?_,trivial⟩
            ·rintro L a U ho ⟨V,R,D⟩ hn hd K hK
             clear hd
             refine Wants.free rfl ?_
             have DD:=Lib.hid (D.step 0 (by intro p hp e; simp only [List.mem_cons,List.not_mem_nil,or_false] at hp; rcases hp with rfl | rfl <;> first | exact absurd e (by decide)))
             have jr:a.tmps[(7:Nat)]?.getD undef=.slice (some ⟨wb,0,none⟩) N N:=onlyAt_slot ho 7 rfl
             have RR:=Lib.hid (R.pure 0 (by decide))
             have VV:=Lib.hid V
             clear R V D
             go_simp
             exact hK.out (.slice (some ⟨wb,0,none⟩) N N) _ ⟨VV.out.set 0 _ _ rfl rfl rfl,RR.out,DD.out⟩
            ·rintro L a U ho ⟨V,R,D⟩ hn hd K hK
             clear hd
             refine Wants.free rfl ?_
             have DD:=Lib.hid (D.step 1 (by intro p hp e; simp only [List.mem_cons,List.not_mem_nil,or_false] at hp; rcases hp with rfl | rfl <;> first | exact absurd e (by decide)))
             have jr:a.tmps[(8:Nat)]?.getD undef=.int .i64 i:=onlyAt_slot ho 8 rfl
             have RR:=Lib.hid (R.pure 1 (by decide))
             have VV:=Lib.hid V
             clear R V D
             go_simp
             exact hK.out (.int .i64 i) _ ⟨VV.out.set 1 _ _ rfl rfl rfl,RR.out,DD.out⟩
            ·rintro L a U ho ⟨V,R,D⟩ hn hd K hK
             have jh0:=hd.get 0 rfl
             have jh1:=hd.get 1 rfl
             clear hd
             refine Wants.free rfl ?_
             have DD:=Lib.hid (D.step 2 (by intro p hp e; simp only [List.mem_cons,List.not_mem_nil,or_false] at hp; rcases hp with rfl | rfl <;> first | exact absurd e (by decide)))
             have jr0:=V.read 0 rfl rfl jh0
             have jr1:=V.read 1 rfl rfl jh1
             have RR:=Lib.hid (R.pure 2 (by decide))
             have VV:=Lib.hid V
             clear R V D
             go_simp
             exact hK.out (.pointer (some ⟨wb,i,none⟩)) _ ⟨VV.out.set 2 _ _ rfl rfl rfl,RR.out,DD.out⟩
            ·rintro L a U ho ⟨V,R,D⟩ hn hd K hK
             have jh2:=hd.get 2 rfl
             clear hd
             refine Wants.free rfl ?_
             have DD:=Lib.hid (D.step 3 (by intro p hp e; simp only [List.mem_cons,List.not_mem_nil,or_false] at hp; rcases hp with rfl | rfl <;> first | exact absurd e (by decide)))
             have jr2:=V.read 2 rfl rfl jh2
             have fc:=R.read (X:=fun U=>U.cell? ⟨wb,i,none⟩=some (.slice (some ⟨rw2 i,0,none⟩) (l2 + 1) (l2 + 1))) (HXW.out _ _) (HXW.out _ _)
             have RR:=Lib.hid (R.pure 3 (by decide))
             have VV:=Lib.hid V
             clear R V D
             go_simp
             exact hK.out (.slice (some ⟨rw2 i,0,none⟩) (l2 + 1) (l2 + 1)) _ ⟨VV.out.set 3 _ _ rfl rfl rfl,RR.out,DD.out⟩
            ·rintro L a U ho ⟨V,R,D⟩ hn hd K hK
             clear hd
             refine Wants.free rfl ?_
             have DD:=Lib.hid (D.step 4 (by intro p hp e; simp only [List.mem_cons,List.not_mem_nil,or_false] at hp; rcases hp with rfl | rfl <;> first | exact absurd e (by decide)))
             have jr:a.tmps[(9:Nat)]?.getD undef=.int .i64 j:=onlyAt_slot ho 9 rfl
             have RR:=Lib.hid (R.pure 4 (by decide))
             have VV:=Lib.hid V
             clear R V D
             go_simp
             exact hK.out (.int .i64 j) _ ⟨VV.out.set 4 _ _ rfl rfl rfl,RR.out,DD.out⟩
            ·rintro L a U ho ⟨V,R,D⟩ hn hd K hK
             have jh3:=hd.get 3 rfl
             have jh4:=hd.get 4 rfl
             clear hd
             refine Wants.free rfl ?_
             have DD:=Lib.hid (D.step 5 (by intro p hp e; simp only [List.mem_cons,List.not_mem_nil,or_false] at hp; rcases hp with rfl | rfl <;> first | exact absurd e (by decide)))
             have jr3:=V.read 3 rfl rfl jh3
             have jr4:=V.read 4 rfl rfl jh4
             have RR:=Lib.hid (R.pure 5 (by decide))
             have VV:=Lib.hid V
             clear R V D
             go_simp
             exact hK.out (.pointer (some ⟨rw2 i,j,none⟩)) _ ⟨VV.out.set 5 _ _ rfl rfl rfl,RR.out,DD.out⟩
            ·rintro L a U ho ⟨V,R,D⟩ hn hd K hK
             have jh5:=hd.get 5 rfl
             clear hd
             refine Wants.free rfl ?_
             have DD:=Lib.hid (D.step 6 (by intro p hp e; simp only [List.mem_cons,List.not_mem_nil,or_false] at hp; rcases hp with rfl | rfl <;> first | exact absurd e (by decide)))
             have jr5:=V.read 5 rfl rfl jh5
             have fc:=HXN.out _ (R.atA (fun h=>hn (D (14,6) (by simp) (D (16,14) (by simp) h))))
             have RR:=Lib.hid (R.pure 6 (by decide))
             have VV:=Lib.hid V
             clear R V D
             go_simp
             exact hK.out (.int .i64 (nP:Nat)) _ ⟨VV.out.set 6 _ _ rfl rfl rfl,RR.out,DD.out⟩
            ·rintro L a U ho ⟨V,R,D⟩ hn hd K hK
             clear hd
             refine Wants.free rfl ?_
             have DD:=Lib.hid (D.step 7 (by intro p hp e; simp only [List.mem_cons,List.not_mem_nil,or_false] at hp; rcases hp with rfl | rfl <;> first | exact absurd e (by decide)))
             have jr:a.tmps[(7:Nat)]?.getD undef=.slice (some ⟨wb,0,none⟩) N N:=onlyAt_slot ho 7 rfl
             have RR:=Lib.hid (R.pure 7 (by decide))
             have VV:=Lib.hid V
             clear R V D
             go_simp
             exact hK.out (.slice (some ⟨wb,0,none⟩) N N) _ ⟨VV.out.set 7 _ _ rfl rfl rfl,RR.out,DD.out⟩
            ·rintro L a U ho ⟨V,R,D⟩ hn hd K hK
             clear hd
             refine Wants.free rfl ?_
             have DD:=Lib.hid (D.step 8 (by intro p hp e; simp only [List.mem_cons,List.not_mem_nil,or_false] at hp; rcases hp with rfl | rfl <;> first | exact absurd e (by decide)))
             have jr:a.tmps[(14:Nat)]?.getD undef=.int .i64 am:=onlyAt_slot ho 14 rfl
             have RR:=Lib.hid (R.pure 8 (by decide))
             have VV:=Lib.hid V
             clear R V D
             go_simp
             exact hK.out (.int .i64 am) _ ⟨VV.out.set 8 _ _ rfl rfl rfl,RR.out,DD.out⟩
            ·rintro L a U ho ⟨V,R,D⟩ hn hd K hK
             have jh7:=hd.get 7 rfl
             have jh8:=hd.get 8 rfl
             clear hd
             refine Wants.free rfl ?_
             have DD:=Lib.hid (D.step 9 (by intro p hp e; simp only [List.mem_cons,List.not_mem_nil,or_false] at hp; rcases hp with rfl | rfl <;> first | exact absurd e (by decide)))
             have jr7:=V.read 7 rfl rfl jh7
             have jr8:=V.read 8 rfl rfl jh8
             have RR:=Lib.hid (R.pure 9 (by decide))
             have VV:=Lib.hid V
             clear R V D
             go_simp
             exact hK.out (.pointer (some ⟨wb,am,none⟩)) _ ⟨VV.out.set 9 _ _ rfl rfl rfl,RR.out,DD.out⟩
            ·rintro L a U ho ⟨V,R,D⟩ hn hd K hK
             have jh9:=hd.get 9 rfl
             clear hd
             refine Wants.free rfl ?_
             have DD:=Lib.hid (D.step 10 (by intro p hp e; simp only [List.mem_cons,List.not_mem_nil,or_false] at hp; rcases hp with rfl | rfl <;> first | exact absurd e (by decide)))
             have jr9:=V.read 9 rfl rfl jh9
             have fc:=R.read (X:=fun U=>U.cell? ⟨wb,am,none⟩=some (.slice (some ⟨ra,0,none⟩) (l2 + 1) (l2 + 1))) (HXA.out _ _) (HXA.out _ _)
             have RR:=Lib.hid (R.pure 10 (by decide))
             have VV:=Lib.hid V
             clear R V D
             go_simp
             exact hK.out (.slice (some ⟨ra,0,none⟩) (l2 + 1) (l2 + 1)) _ ⟨VV.out.set 10 _ _ rfl rfl rfl,RR.out,DD.out⟩
            ·rintro L a U ho ⟨V,R,D⟩ hn hd K hK
             clear hd
             refine Wants.free rfl ?_
             have DD:=Lib.hid (D.step 11 (by intro p hp e; simp only [List.mem_cons,List.not_mem_nil,or_false] at hp; rcases hp with rfl | rfl <;> first | exact absurd e (by decide)))
             have jr:a.tmps[(15:Nat)]?.getD undef=.int .i64 bm:=onlyAt_slot ho 15 rfl
             have RR:=Lib.hid (R.pure 11 (by decide))
             have VV:=Lib.hid V
             clear R V D
             go_simp
             exact hK.out (.int .i64 bm) _ ⟨VV.out.set 11 _ _ rfl rfl rfl,RR.out,DD.out⟩
            ·rintro L a U ho ⟨V,R,D⟩ hn hd K hK
             have jh10:=hd.get 10 rfl
             have jh11:=hd.get 11 rfl
             clear hd
             refine Wants.free rfl ?_
             have DD:=Lib.hid (D.step 12 (by intro p hp e; simp only [List.mem_cons,List.not_mem_nil,or_false] at hp; rcases hp with rfl | rfl <;> first | exact absurd e (by decide)))
             have jr10:=V.read 10 rfl rfl jh10
             have jr11:=V.read 11 rfl rfl jh11
             have RR:=Lib.hid (R.pure 12 (by decide))
             have VV:=Lib.hid V
             clear R V D
             go_simp
             exact hK.out (.pointer (some ⟨ra,bm,none⟩)) _ ⟨VV.out.set 12 _ _ rfl rfl rfl,RR.out,DD.out⟩
            ·rintro L a U ho ⟨V,R,D⟩ hn hd K hK
             have jh12:=hd.get 12 rfl
             clear hd
             refine Wants.free rfl ?_
             have DD:=Lib.hid (D.step 13 (by intro p hp e; simp only [List.mem_cons,List.not_mem_nil,or_false] at hp; rcases hp with rfl | rfl <;> first | exact absurd e (by decide)))
             have jr12:=V.read 12 rfl rfl jh12
             have fc:=R.read (X:=fun U=>U.cell? ⟨ra,bm,none⟩=some (.int .i64 cn)) HXC.out.1 HXC.out.2
             have RR:=Lib.hid (R.pure 13 (by decide))
             have VV:=Lib.hid V
             clear R V D
             go_simp
             exact hK.out (.int .i64 cn) _ ⟨VV.out.set 13 _ _ rfl rfl rfl,RR.out,DD.out⟩
            ·rintro L a U ho ⟨V,R,D⟩ hn hd K hK
             have jh6:=hd.get 6 rfl
             have jh13:=hd.get 13 rfl
             clear hd
             refine Wants.free rfl ?_
             have DD:=Lib.hid (D.step 14 (by intro p hp e; simp only [List.mem_cons,List.not_mem_nil,or_false] at hp; rcases hp with rfl | rfl <;> first | exact absurd e (by decide) | exact jh6))
             have jr6:=V.read 6 rfl rfl jh6
             have jr13:=V.read 13 rfl rfl jh13
             have RR:=Lib.hid (R.pure 14 (by decide))
             have VV:=Lib.hid V
             clear R V D
             go_simp
             exact hK.out (.int .i64 ((nP:Int) + cn)) _ ⟨VV.out.set 14 _ _ rfl rfl rfl,RR.out,DD.out⟩
            ·rintro L a U ho ⟨V,R,D⟩ hn hd K hK
             have jh3:=hd.get 3 rfl
             have jh4:=hd.get 4 rfl
             clear hd
             refine Wants.free rfl ?_
             have DD:=Lib.hid (D.step 15 (by intro p hp e; simp only [List.mem_cons,List.not_mem_nil,or_false] at hp; rcases hp with rfl | rfl <;> first | exact absurd e (by decide)))
             have jr3:=V.read 3 rfl rfl jh3
             have jr4:=V.read 4 rfl rfl jh4
             have RR:=Lib.hid (R.pure 15 (by decide))
             have VV:=Lib.hid V
             clear R V D
             go_simp
             exact hK.out (.pointer (some ⟨rw2 i,j,none⟩)) _ ⟨VV.out.set 15 _ _ rfl rfl rfl,RR.out,DD.out⟩
            ·rintro L a U ho ⟨V,R,D⟩ hn hd K hK
             have jh15:=hd.get 15 rfl
             have jh14:=hd.get 14 rfl
             clear hd
             refine Wants.free rfl ?_
             have DD:=Lib.hid (D.step 16 (by intro p hp e; simp only [List.mem_cons,List.not_mem_nil,or_false] at hp; rcases hp with rfl | rfl <;> first | exact absurd e (by decide) | exact jh14))
             have jr15:=V.read 15 rfl rfl jh15
             have jr14:=V.read 14 rfl rfl jh14
             obtain ⟨f1,u,f2⟩:=HFW.out _ _ U (R.atA hn)
             have RR:=Lib.hid (R.first hn (fun h=>LR.setW (p:=i) (r:=j) (h1:=Nat.le_refl _) (h2:=HII.out) (v:=.int .i64 ((nP:Int) + cn)) (h:=h)))
             have VV:=Lib.hid V
             clear R V D
             go_simp
             exact hK.out undef _ ⟨VV.out.same 16 _ rfl,RR.out,DD.out⟩
           rintro L σ W8 ⟨V,R,_⟩ hL
           have jf0:=V 0 _ _ rfl rfl (hL 0 (by decide))
           have jf1:=V 1 _ _ rfl rfl (hL 1 (by decide))
           have jf2:=V 2 _ _ rfl rfl (hL 2 (by decide))
           have jf3:=V 3 _ _ rfl rfl (hL 3 (by decide))
           have jf4:=V 4 _ _ rfl rfl (hL 4 (by decide))
           have jf5:=V 5 _ _ rfl rfl (hL 5 (by decide))
           have jf6:=V 6 _ _ rfl rfl (hL 6 (by decide))
           have jf7:=V 7 _ _ rfl rfl (hL 7 (by decide))
           have jf8:=V 8 _ _ rfl rfl (hL 8 (by decide))
           have jf9:=V 9 _ _ rfl rfl (hL 9 (by decide))
           have jf10:=V 10 _ _ rfl rfl (hL 10 (by decide))
           have jf11:=V 11 _ _ rfl rfl (hL 11 (by decide))
           have jf12:=V 12 _ _ rfl rfl (hL 12 (by decide))
           have jf13:=V 13 _ _ rfl rfl (hL 13 (by decide))
           have jf14:=V 14 _ _ rfl rfl (hL 14 (by decide))
           have jf15:=V 15 _ _ rfl rfl (hL 15 (by decide))
           have S8:=Lib.hid (R.atB (hL 16 (by decide)))
           clear V R hL
           rw [show List.map σ [151,152,153,154,155,156,157,158,159,160,161,162,163,164,165,166]=[σ 151,σ 152,σ 153,σ 154,σ 155,σ 156,σ 157,σ 158,σ 159,σ 160,σ 161,σ 162,σ 163,σ 164,σ 165,σ 166] from rfl,jf0,jf1,jf2,jf3,jf4,jf5,jf6,jf7,jf8,jf9,jf10,jf11,jf12,jf13,jf14,jf15]
           clear jf0 jf1 jf2 jf3 jf4 jf5 jf6 jf7 jf8 jf9 jf10 jf11 jf12 jf13 jf14 jf15
           simp only [putAll,List.map,Act.put,List.setIfInBounds_toArray,List.set_cons_succ,List.set_cons_zero]
           have S9:Hid (LR w0 b1 lb wb i i rl2 rw2 q (.slice A1 l1 n1) (.slice A2 l2 n2) (entE (fun p r=>.string (qT (rst q p r))) (.string ⟨#[]⟩) i j (.string (optT (cntP q i j (k + 1 - 1)).1))) (entE (fun p r=>.int .i64 (cnt q p r:Nat)) (.int .i64 0) i j (.int .i64 (((cntP q i j (k + 1 - 1)).2:Nat)))) W8):=Lib.hid (by
            rw [Nat.add_sub_cancel,HNEW.out]
            refine S8.out.congr (fun p r _ _ _=>rfl) (fun p r _ _ _=>?_)
            rw [entE_upd,← HCN.out]; rfl)
           clear S8
           go_wp2
           exact ⟨⟨k + 1,by omega,by omega,rfl,S9.out⟩,by simp [intOf]; omega⟩
          ·have HNEW:Hid (cntP q i j k=(some y,nP)):=Lib.hid (HTRY.out.trans (HTG.out y nP (by omega)))
           have hee:(tc.toList == (qT y).toList)=false:=by
            rw [ba_beq]
            exact decide_eq_false (fun h=>heq (qT_inj (HTC.out.trans h)))
           have HXE:Hid (∀ cl U,LR w0 b1 lb wb i i rl2 rw2 q (.slice A1 l1 n1) (.slice A2 l2 n2) (entE (fun p r=>.string (qT (rst q p r))) (.string ⟨#[]⟩) i j (.string (optT (some y)))) cl U→U.cell? ⟨rl2 i,j,none⟩=some (.string (qT y))):=Lib.hid (fun cl U h=>by have:=h.tl.cell2 i j (Nat.le_refl _) HII.out HJJ.out; rw [entE_self] at this; exact this)
           generalize (rc - y).sign=sg at *
           clear hlt heq HTC hyb
           go_wp2_with (first
            | (go_at_call 22; with_reducible refine (HCM.out _ S.out.bb).mono ?_; rintro e V5 ⟨rfl,q5⟩; replace S:=Lib.hid (S.out.below q5); clear q5 y1 y2; have y1:=HXL.out _ _ _ S.out; have y2:=HXE.out _ _ S.out)
            | fail "arm")
           exact ⟨⟨k + 1,by omega,by omega,rfl,by rw [Nat.add_sub_cancel,HNEW.out]; exact S.out⟩,by simp [intOf]; omega⟩
       ·have hn0:=HXN0.out ho
        have hn:(er == 0)=false:=by rw [beq_eq_false_iff_ne]; exact hn0
        have S9:Hid (LR w0 b1 lb wb i i rl2 rw2 q (.slice A1 l1 n1) (.slice A2 l2 n2) (entE (fun p r=>.string (qT (rst q p r))) (.string ⟨#[]⟩) i j (.string (optT (cntP q i j (k + 1 - 1)).1))) (entE (fun p r=>.int .i64 (cnt q p r:Nat)) (.int .i64 0) i j (.int .i64 (((cntP q i j (k + 1 - 1)).2:Nat)))) V2):=Lib.hid (by rw [Nat.add_sub_cancel,HNX.out,tryC_no ho]; exact S.out)
        clear S HXO HXN0 KS2
        go_wp2
        exact ⟨⟨k + 1,by omega,by omega,rfl,S9.out⟩,by simp [intOf]; omega⟩
      ·obtain rfl:k=6:=by omega
       have hwj:IntKind.i64.wrap ((j:Int) - 1)=(j:Int) - 1:=IntWalk.i64_in _ (by omega)
       have S6:Hid (LR w0 b1 lb wb i i rl2 rw2 q (.slice A1 l1 n1) (.slice A2 l2 n2) (tabE (fun p r=>.string (qT (rst q p r))) (.string ⟨#[]⟩) (i) (j)) (tabE (fun p r=>.int .i64 (cnt q p r:Nat)) (.int .i64 0) (i) (j)) wr):=Lib.hid (by
        have hall:=cntP_all q i j HIL.out.1 HIL.out.2.1 HIL.out.2.2
        have s:=S.out
        rw [show 6 - 1=5 from rfl,hall] at s
        exact s.congr (fun p r _ _ _=>entE_done (fun p r=>.string (qT (rst q p r))) (.string ⟨#[]⟩) i j p r) (fun p r _ _ _=>entE_done (fun p r=>.int .i64 (cnt q p r:Nat)) (.int .i64 0) i j p r))
       clear S
       go_wp2
       exact ⟨⟨j,by omega,rfl,S6.out⟩,by simp [intOf] <;> omega⟩)

end Go.Proofs.YthhkmihjnnfpgaaGreatDoor

/- What is read of rows of steps. -/
namespace Go.Proofs.YthhkmihjnnfpgaaGreatDoor
set_option linter.all false
open Go.RowKit

theorem row_lookB {α:Type} {f:α→List Value} {sz:Nat} (hf:∀ u,(f u).length=sz) {T:TypeId} {W:World} {base:Nat} {v:Value} {us:List α} (h:SRow f sz T W base v us):SAt f sz W v us:=by
 rcases h with ⟨rfl,rfl⟩ | ⟨d,c,r,rfl,h2,h3,h4,h5⟩
 ·exact ⟨none,0,rfl,fun i t h=>by simp at h⟩
 ·exact row_SAt hf h4 c
theorem cast_SAB {W:World} {a:Option Addr} {c:Nat} {us:List (Nat × Nat × Nat)} (h:SAt stC 3 W (.slice a us.length c) us):SAt stI 3 W (.slice a (castS us).length c) (castS us):=by
 obtain ⟨a',c',e,h⟩:=h
 injection e with e1 _ e3
 subst e1 e3
 refine ⟨a,c,rfl,fun i t ht=>?_⟩
 unfold castS at ht
 rw [List.getElem?_map] at ht
 cases hx:us[i]? with
 | none=>rw [hx] at ht; cases ht
 | some y =>
  rw [hx] at ht
  injection ht with ht
  subst ht
  exact h i y hx
theorem castS_len (us:List (Nat × Nat × Nat)):(castS us).length=us.length:=by unfold castS; rw [List.length_map]

end Go.Proofs.YthhkmihjnnfpgaaGreatDoor
