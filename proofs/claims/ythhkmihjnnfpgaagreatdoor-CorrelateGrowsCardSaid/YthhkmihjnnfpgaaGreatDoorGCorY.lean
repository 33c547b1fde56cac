/- The question of a plan of chapter 44. -/
import Derived.Test.YthhkmihjnnfpgaaGreatDoorPar6
import Derived.Test.YthhkmihjnnfpgaaGreatDoorGCorU
/- Drawn regions whose calls make rows of unknown room: tables with parameters that are settled on the way. No program in sight. -/
namespace Go.Proofs.YthhkmihjnnfpgaaGreatDoor
set_option linter.all false
open Go.RowKit

def ObX {ι:Type} (P:Program) (ops:Array Oper) (Q:Exit→Act→World→Prop) (a0:Act) (slots:List Nat) (w:World) (B:Nat) (tb:List Row) (ns:ι→List NB) (eb:List EB) (al:List AL) (od dl:List (Nat × Nat)) (pl:List (Nat × Nat × Value)) (i:Nat) (o:Oper):Prop :=
 ∀ L a' w',OnlyAt slots a0 a'→(∃ x,RJ w B tb (ns x) eb al od dl pl L (slotOf a') w')→¬ L i→Waited L o.after.toList →
  ∀ K':Act→World→Prop,Hid (∀ v w'',(∃ x,RJ w B tb (ns x) eb al od dl pl (fun k=>L k ∨ k=i) (updS (slotOf a') o.dst v) w'')→K' (a'.put o.dst v) w'')→Wants ops (slotOf a') o (Oper.wp P o a' w' K' Q) (∃ x,RJ w B tb (ns x) eb al od dl pl (fun k=>L k ∨ k=i) (updS (slotOf a') o.dst undef) w')
section
variable {ι:Type} {P:Program} {ops:Array Oper} {Q:Exit→Act→World→Prop} {w:World}
theorem Wants.mono {ops:Array Oper} {σ:Nat→Value} {o:Oper} {p p' q q':Prop} (h:Wants ops σ o p q) (hp:p→p') (hq:q→q'):Wants ops σ o p' q':=by
 unfold Wants at *
 cases hg:o.guard with
 | none=>rw [hg] at h; exact hp h
 | some g =>
  obtain ⟨j,want⟩:=g
  rw [hg] at h
  obtain ⟨s,v,h1,h2,h3,h4⟩:=h
  exact ⟨s,v,h1,h2,fun e=>hp (h3 e),fun e=>hq (h4 e)⟩
theorem obX {a0:Act} {slots:List Nat} {B:Nat} {tb:List Row} {ns:ι→List NB} {eb:List EB} {al:List AL} {od dl:List (Nat × Nat)} {pl:List (Nat × Nat × Value)} {i:Nat} {o:Oper}
  (h:∀ x,Ob P ops Q a0 slots w B tb (ns x) eb al od dl pl true i o):ObX P ops Q a0 slots w B tb ns eb al od dl pl i o:=by
 intro L a U ho ⟨x,J⟩ hn hd K' hK
 exact (h x L a U ho J hn hd K' (Lib.hid (fun v w'' h2=>hK.out v w'' ⟨x,h2⟩))).mono id (fun h=>⟨x,h⟩)
theorem RJ.rebase {B:Nat} {tb:List Row} {ns ns':List NB} {eb:List EB} {al:List AL} {od dl:List (Nat × Nat)} {pl:List (Nat × Nat × Value)} {L:Nat→Prop} {σ:Nat→Value} {U:World} (J:RJ w B tb ns eb al od dl pl L σ U)
  (h:∀ (i:Nat) (x':NB),ns'[i]?=some x'→∃ x,ns[i]?=some x∧x.k=x'.k∧x.s=x'.s∧(L x'.k→x'=x)):RJ w B tb ns' eb al od dl pl L σ U :=
 ⟨J.vals,fun i x' hx hL=>by
  obtain ⟨x,h1,h2,h3,h4⟩:=h i x' hx
  have:=h4 hL
  subst this
  exact J.news i x' h1 hL,J.elds,J.als,J.ord,fun i p x' y' hp hx hy hL hL'=>by
  obtain ⟨x,h1,h2,h3,h4⟩:=h p.1 x' hx
  obtain ⟨y,g1,g2,g3,g4⟩:=h p.2 y' hy
  rw [← h3,← g3]
  exact J.dis i p x y hp h1 g1 (by rw [h2]; exact hL) (by rw [g2]; exact hL'),J.pre,J.sz,J.low,J.bb⟩
theorem wpAny_tabX {a:Act} {V:World} (x0:ι) (tb:List Row) (ns:ι→List NB) (eb:List EB) (al:List AL) (od dl xd:List (Nat × Nat)) (pl:List (Nat × Nat × Value)) (hc:∀ x,ckT P ops a.tmps.size tb (ns x) eb al dl xd true=true)
  (hb:Below w.heap.size w V) (he:EldAll V eb) (hp:PreAll (slotOf a) pl) (hops:AllOps (ObX P ops Q a (slotsOf tb) w V.heap.size tb ns eb al od dl pl) 0 ops.toList)
  (hend:∀ x σ W,FinN σ w W (ns x)→FinE W eb→FinX σ (ns x) eb xd→FinD σ (ns x) dl→Hid (Below w.heap.size w W)→Q .normal (putAll a (slotsOf tb) (finX (ns x) al σ tb)) W):wpAny P .any ops Q ops.size (Array.replicate ops.size false) a V.drew:=by
 have fin:∀ L σ W,(∃ x,RJ w V.heap.size tb (ns x) eb al od dl pl L σ W)→(∀ i,i < ops.size→L i)→Q .normal (putAll a (slotsOf tb) ((slotsOf tb).map σ)) W:=by
  rintro L σ W ⟨x1,J⟩ hL
  have hc:=hc x1
  have hend:=hend x1
  generalize ns x1=ns at *
  unfold ckT at hc
  simp only [Bool.and_eq_true] at hc
  obtain ⟨q1,q2,q3,q4,q5,q6,q7,q8,q9⟩:=hc
  have hlen:=Nat.eq_of_beq_eq_true q4
  have hst:∀ x ∈ ns,L x.k∧∀ p,x.st=some p→L p.1:=fun x hx=>by
   have:=List.all_eq_true.1 q5 x hx
   simp only [Bool.and_eq_true] at this
   refine ⟨hL _ (blt_lt this.1),fun p hp=>hL _ ?_⟩
   have h2:=this.2
   rw [hp] at h2
   exact blt_lt h2
  have hnew:∀ x ∈ ns,match x.st with
   | none=>NewB (σ x.s) V.heap.size W x.m x.cs x.T
   | some p=>NewB (σ x.s) V.heap.size W x.m p.2 x.T:=fun x hx=>by
   obtain ⟨i,hi1,hi2⟩:=List.mem_iff_getElem.1 hx
   have hi:ns[i]?=some x:=by rw [List.getElem?_eq_getElem hi1,hi2]
   have:=J.news i x hi (hst x hx).1
   obtain ⟨k,s,m,cs,T,st⟩:=x
   cases st with
   | none=>exact this
   | some p=>exact this.2 ((hst _ hx).2 p rfl)
  have hnew':∀ j,j < ns.length→V.heap.size≤blkOf (σ (nbS ns j)):=fun j hj=>by
   have hx:=List.getElem_mem hj
   have:=hnew _ hx
   unfold nbS
   rw [List.getElem?_eq_getElem hj]
   generalize ns[j]=x at *
   obtain ⟨k,s,m,cs,T,st⟩:=x
   cases st with
   | none=>exact this.low
   | some p=>exact this.low
  rw [finX_eq J tb 0 (fun k => by rw [Nat.zero_add]) (fun k hk => hL k (by omega)) (fun k d p hk hv => by
    have h1:=List.all_eq_true.1 q9 _ (List.mem_of_getElem? hk)
    simp only [okRow] at h1
    have hf:=nval_fst ns al (fun _=>undef) σ d
    rw [hv] at hf
    cases h2:nval ns al (fun _=>undef) d with
    | none=>rw [h2] at hf; cases hf
    | some p' =>
     rw [h2] at h1 hf
     simp only [Option.map_some,Option.some.injEq] at hf
     rw [← hf]
     exact hL _ (blt_lt h1))
   (fun k d hk hv=>by
    have h1:=List.all_eq_true.1 q9 _ (List.mem_of_getElem? hk)
    simp only [okRow] at h1
    have hf:=nval_fst ns al (fun _=>undef) σ d
    rw [hv] at hf
    cases h2:nval ns al (fun _=>undef) d with
    | none=>rw [h2] at h1; cases h1
    | some p'=>rw [h2] at hf; cases hf)]
  refine hend σ W (finN_of V.heap.size J.low ns hnew) (finE_of eb fun x hx=>?_) (finX_of fun p hp=>?_) (finD_of fun p hp=>?_) (Lib.hid J.bb)
  ·obtain ⟨i,hi1,hi2⟩:=List.mem_iff_getElem.1 hx
   have hi:eb[i]?=some x:=by rw [List.getElem?_eq_getElem hi1,hi2]
   have:=J.elds i x hi
   have h6:=List.all_eq_true.1 q6 x hx
   obtain ⟨e,cs,T,st⟩:=x
   cases st with
   | none=>exact this
   | some p=>exact this.2 (hL _ (blt_lt h6))
  ·have h7:=List.all_eq_true.1 q7 p hp
   simp only [Bool.and_eq_true] at h7
   have l1:=blt_lt h7.1
   have l2:=hnew' p.2 (blt_lt h7.2)
   have hx:eb[p.1]?=some eb[p.1]:=List.getElem?_eq_getElem l1
   have:=(he.at_ p.1 _ hx).lt
   unfold ebE
   rw [hx]
   show (eb[p.1]).e ≠ _
   omega
  ·have h8:=List.all_eq_true.1 q8 p hp
   simp only [Bool.and_eq_true] at h8
   have l1:=blt_lt h8.1
   have l2:=blt_lt h8.2
   have hx:ns[p.1]?=some ns[p.1]:=List.getElem?_eq_getElem l1
   have hy:ns[p.2]?=some ns[p.2]:=List.getElem?_eq_getElem l2
   obtain ⟨u,hu1,hu2⟩:=List.mem_iff_getElem.1 hp
   have:=J.dis u p _ _ (by rw [List.getElem?_eq_getElem hu1,hu2]) hx hy (hst _ (List.getElem_mem l1)).1 (hst _ (List.getElem_mem l2)).1
   unfold nbS
   rw [hx,hy]
   exact this
 have hc:=hc x0
 unfold ckT at hc
 simp only [Bool.and_eq_true] at hc
 obtain ⟨q1,q2,q3,_⟩:=hc
 simp only [Bool.not_true,Bool.false_or,Bool.and_eq_true] at q1
 exact wpAny_par2 (slotsOf tb) (fun L σ U=>∃ x,RJ w V.heap.size tb (ns x) eb al od dl pl L σ U) q1.2 q2 q3 ⟨x0,RJ.drew (RJ.start rfl hb he hp)⟩ hops fin
theorem wpIn_phaseX {F:Fence} (hF:Fair F) {n id:Nat} {w:World} {a:Act} {V:World} (x0:ι) (f k:Nat) (tb:List Row) (ns:ι→List NB) (eb:List EB) (al:List AL) (od dl xd:List (Nat × Nat)) (pl:List (Nat × Nat × Value))
  (hc0:∀ x,ckT P (takeO ops k) a.tmps.size tb (ns x) eb al dl xd true=true) (hc:(noDefer ops && P.follows .mixedOrders && closedO ops f k && backward ops && guardsLow ops k && decide (k≤ops.size) && seqO ops k)=true)
  (hL:¬ LetsOut Q) (hb:Below w.heap.size w V) (he:EldAll V eb) (hp:PreAll (slotOf a) pl) (hops:AllOps (ObX P (takeO ops k) (tailQ F n P ops Q k) a (slotsOf tb) w V.heap.size tb ns eb al od dl pl) 0 (takeO ops k).toList)
  (hend:∀ x σ W,FinN σ w W (ns x)→FinE W eb→FinX σ (ns x) eb xd→FinD σ (ns x) dl→Hid (Below w.heap.size w W)→wpListIn F n P ops Q (ops.toList.drop k) (putAll a (slotsOf tb) (finX (ns x) al σ tb)) W):(Code.region id ops true).wpIn F n P Q a V:=by
 simp only [Bool.and_eq_true] at hc
 obtain ⟨⟨⟨⟨⟨⟨c2,c3⟩,c4⟩,c5⟩,c6⟩,c7⟩,c8⟩:=hc
 have hk:=of_decide_eq_true c7
 have h:=wpAny_tabX (Q:=tailQ F n P ops Q k) x0 tb ns eb al od dl xd pl hc0 hb he hp hops hend
 rw [takeO_size hk] at h
 refine wpIn_region_any c3 ?_
 have h2:=anyIn_phase (Q:=Q) (Q':=tailQ F n P ops Q k) hF (n:=n) c2 c4 c5 hk c6 (fun _ _ _ hh=>hh) (fun ⟨a,w,hh⟩=>hL ⟨a,w,hh⟩)
  (fun a w hh=>anyIn_seq (ops.size - k) k a w (by omega) (fun d hd=>by
   have:=List.all_eq_true.1 c8 d (List.mem_range.2 hd)
   exact eq_of_beq this) hh)
  k (Array.replicate k false) (Array.replicate ops.size false) a V.drew ⟨by simp,by simp,fun j hj=>by simp [hj,show j < ops.size by omega],fun j hj hj2=>by simp [hj2]⟩
  (fun i hi=>by
   rw [Array.getD_eq_getD_getElem?,Array.getElem?_replicate] at hi
   split at hi <;> cases hi) (by simp) h
 rw [show k + (ops.size - k)=ops.size by omega] at h2
 exact h2
end

end Go.Proofs.YthhkmihjnnfpgaaGreatDoor

/- The questions of plans. -/
namespace Go.Proofs.YthhkmihjnnfpgaaGreatDoor
set_option linter.all false
open Go.RowKit

attribute [local go_sem] Oper.semAt_some

set_option maxRecDepth 100000 in
set_option maxHeartbeats 8000000 in
theorem half_any (n:Nat) (hn:n < 256) (w:World) (he:Env w):Ret Tryz.prog w 46 #[.int .u8 n] (.string (qT (2 * ((n % 6:Nat):Int)))):=by
 intro W hW
 have B:=Lib.hid (Below.refl W.heap.size W)
 have hm:((n:Int) % 6)=((n % 6:Nat):Int):=by omega
 have h6:n % 6 < 6:=Nat.mod_lt _ (by omega)
 have HO:=Lib.hid (rOfQ ((n % 6:Nat):Int) (by omega) W (he.below hW))
 have w1:IntKind.u8.wrap ((n % 6:Nat):Int)=((n % 6:Nat):Int):=(show ∀ m:Nat,m < 6→IntKind.u8.wrap (m:Int)=(m:Int) by decide) _ h6
 have w2:IntKind.i64.wrap ((n % 6:Nat):Int)=((n % 6:Nat):Int):=IntWalk.i64_in _ (by omega)
 clear he h6
 generalize n % 6=m at *
 generalize qT (2 * (m:Int))=tm at *
 go_enter Tryz.func46, Tryz.ntmps46
 go_wp2_with (first
  | (go_at_call 37; with_reducible refine (HO.out _ B.out).mono ?_; rintro e wx ⟨rfl,q⟩; replace B:=Lib.hid (B.out.trans (q.mono B.out.size)); clear q)
  | fail "arm")
 go_ret
 exact ⟨rfl,B.out⟩
structure PL where
 l:List Bt
 r:List Bt
 c0:Nat
 c1:Nat
 c2:Nat
 c3:Nat
structure PL.ok (p:PL):Prop where
 l:∀ b ∈ p.l,b.ok
 r:∀ b ∈ p.r,b.ok
 c:p.c0 < 256∧p.c1 < 256∧p.c2 < 256∧p.c3 < 256
def logP (l:List Bt):List IV:=mkL (l.take 5) (l.take 5).length
def PL.q (p:PL):CQ:=⟨logP p.l,logP p.r,((p.c0 % 6:Nat):Int),((p.c1 % 6:Nat):Int),((p.c2 % 6:Nat):Int),((p.c3 % 6:Nat):Int)⟩
theorem logP_len (l:List Bt):(logP l).length=min 5 l.length:=by unfold logP; rw [mkL_len,List.length_take]
theorem logP_ok (l:List Bt):OkLog (logP l):=mkL_ok _ _ (Nat.le_refl _) (by rw [List.length_take]; omega)
theorem PL.qok (p:PL):OkQ p.q:=by
 have h:∀ n:Nat,0≤((n % 6:Nat):Int)∧((n % 6:Nat):Int)≤20:=fun n=>by omega
 exact ⟨by show (logP p.l).length≤6; rw [logP_len]; omega,by show (logP p.r).length≤6; rw [logP_len]; omega,logP_ok _,logP_ok _,h _,h _,h _,h _⟩
structure BAt (W:World) (v:Value) (l:List Bt):Prop where
 at_:SAt Bt.cells 3 W v l
 cap:∃ a c,v=.slice a l.length c∧l.length≤c
theorem BAt.below {W W':World} {v:Value} {l:List Bt} (h:BAt W v l) (k:Below W.heap.size W W'):BAt W' v l:=⟨h.at_.below k,h.cap⟩
theorem bits_take {W:World} {a:Option Addr} {c:Nat} {l:List Bt} (h:SAt Bt.cells 3 W (.slice a l.length c) l) (m:Nat) (hm:m≤l.length):SAt Bt.cells 3 W (.slice a m c) (l.take m):=by
 obtain ⟨a',c',e,h2⟩:=h
 injection e with e1 _ e3
 subst e1 e3
 refine ⟨a,c,by rw [List.length_take,Nat.min_eq_left hm],fun i t ht=>h2 i t ?_⟩
 rw [List.getElem?_take] at ht
 split at ht
 ·exact ht
 ·cases ht

end Go.Proofs.YthhkmihjnnfpgaaGreatDoor

/- Make: the question of a plan. -/
namespace Go.Proofs.YthhkmihjnnfpgaaGreatDoor
set_option linter.all false
open Go.RowKit

attribute [local go_sem] Oper.semAt_some

theorem row_SAt {α:Type} {f:α→List Value} {sz:Nat} (hf:∀ u,(f u).length=sz) {T:TypeId} {W:World} {d:Nat} {us:List α} {r:List Value} (h:Blk W d (us.flatMap f ++ r).toArray T) (c:Nat):SAt f sz W (.slice (some ⟨d,0,none⟩) us.length c) us :=
 ⟨_,c,rfl,fun i t ht=>⟨d,0,rfl,h.lt,fun j u hu=>by
  rw [Nat.zero_add]
  refine h.atL _ _ ?_
  have:=flat_get hf us i j t u ht hu
  rw [List.getElem?_append_left (List.getElem?_eq_some_iff.1 this).1]
  exact this⟩⟩
set_option maxRecDepth 100000 in
set_option maxHeartbeats 8000000 in
theorem make44_any (p:PL) (hp:p.ok) (vl vr:Value) (w:World) (he:Env w) (hl:BAt w vl p.l) (hr:BAt w vr p.r) :
  Calls Tryz.prog 14 #[.agg #[vl,vr,.int .u8 p.c0,.int .u8 p.c1,.int .u8 p.c2,.int .u8 p.c3]] w fun e w'=>∃ v1 v2,e=.returned (.agg #[v1,v2,.string (qT (2 * p.q.ch)),.string (qT (2 * p.q.mi)),.string (qT (2 * p.q.ga)),.string (qT (2 * p.q.re))])∧QAt w' v1 v2 p.q∧Below w.heap.size w w':=by
 have HC:=hp.c
 have hel:=hp.l
 have her:=hp.r
 obtain ⟨A1,k1,rfl,hk1⟩:=hl.cap
 obtain ⟨A2,k2,rfl,hk2⟩:=hr.cap
 have hq1:p.q.ch=((p.c0 % 6:Nat):Int):=rfl
 have hq2:p.q.mi=((p.c1 % 6:Nat):Int):=rfl
 have hq3:p.q.ga=((p.c2 % 6:Nat):Int):=rfl
 have hq4:p.q.re=((p.c3 % 6:Nat):Int):=rfl
 rw [hq1,hq2,hq3,hq4]
 have HQ:Hid (∀ W v1 v2,SAt IV.cells 3 W v1 (logP p.l)→SAt IV.cells 3 W v2 (logP p.r)→QAt W v1 v2 p.q):=Lib.hid (fun W v1 v2 h1 h2=>⟨h1,h2⟩)
 have HL:=Lib.hid (bits_take hl.at_ (min p.l.length 5) (Nat.min_le_left _ _))
 have HR:=Lib.hid (bits_take hr.at_ (min p.r.length 5) (Nat.min_le_left _ _))
 have HE:=Lib.hid he
 clear hl hr he hp hq1 hq2 hq3 hq4
 go_enter Tryz.func14, Tryz.ntmps14
 go_upto_region 2 with (fail)
 have kf1:=Blk.fresh w #[.slice A1 p.l.length k1,.slice A2 p.r.length k2,.int .u8 p.c0,.int .u8 p.c1,.int .u8 p.c2,.int .u8 p.c3] 25
 have q1:=below_new w (.cells #[.slice A1 p.l.length k1,.slice A2 p.r.length k2,.int .u8 p.c0,.int .u8 p.c1,.int .u8 p.c2,.int .u8 p.c3] 25)
 have hs1:(w.alloc (.cells #[.slice A1 p.l.length k1,.slice A2 p.r.length k2,.int .u8 p.c0,.int .u8 p.c1,.int .u8 p.c2,.int .u8 p.c3] 25)).heap.size=w.heap.size + 1:=by simp
 generalize (w.alloc (.cells #[.slice A1 p.l.length k1,.slice A2 p.r.length k2,.int .u8 p.c0,.int .u8 p.c1,.int .u8 p.c2,.int .u8 p.c3] 25))=W1 at *
 have k2':=Blk.fresh W1 #[.slice none 0 0,.slice none 0 0,.string ⟨#[]⟩,.string ⟨#[]⟩,.string ⟨#[]⟩,.string ⟨#[]⟩] 32
 have q2:=below_new W1 (.cells #[.slice none 0 0,.slice none 0 0,.string ⟨#[]⟩,.string ⟨#[]⟩,.string ⟨#[]⟩,.string ⟨#[]⟩] 32)
 have kk1:=kf1.below q2
 have qq:=q1.trans (q2.mono q1.size)
 generalize (W1.alloc (.cells #[.slice none 0 0,.slice none 0 0,.string ⟨#[]⟩,.string ⟨#[]⟩,.string ⟨#[]⟩,.string ⟨#[]⟩] 32))=W at *
 rw [hs1] at k2'
 obtain ⟨b1,hb1⟩:∃ b,w.heap.size=b:=⟨_,rfl⟩
 obtain ⟨b2,hb2⟩:∃ b,w.heap.size + 1=b:=⟨_,rfl⟩
 rw [hb2] at k2'
 rw [hb1] at kk1
 rw [hb2,hb1]
 have K1:=Lib.hid kk1
 have K2:=Lib.hid k2'
 have B:=Lib.hid qq
 have HB:Hid (w.heap.size=b1∧b2=b1 + 1):=Lib.hid (by omega)
 have HEW:=HE.out.below qq
 have hm1:min p.l.length 5≤k1:=by omega
 have hm2:min p.r.length 5≤k2:=by omega
 have hlen1:(p.l.take (min p.l.length 5)).length=min p.l.length 5:=by rw [List.length_take]; omega
 have hlen2:(p.r.take (min p.r.length 5)).length=min p.r.length 5:=by rw [List.length_take]; omega
 have et1:p.l.take (min p.l.length 5)=p.l.take 5:=by
  by_cases h:p.l.length≤5
  ·rw [Nat.min_eq_left h,List.take_length,List.take_of_length_le h]
  ·rw [Nat.min_eq_right (by omega)]
 have et2:p.r.take (min p.r.length 5)=p.r.take 5:=by
  by_cases h:p.r.length≤5
  ·rw [Nat.min_eq_left h,List.take_length,List.take_of_length_le h]
  ·rw [Nat.min_eq_right (by omega)]
 have LA:∀ U,Below W.heap.size W U→Calls Tryz.prog 47 #[.slice A1 (min p.l.length 5) k1] U fun e w'=>∃ v',e=.returned v'∧SRow IV.cells 3 86 w' U.heap.size v' (logP p.l)∧Below U.heap.size U w':=fun U hU=>by
  have h:=lmake_any (p.l.take (min p.l.length 5)) (by omega) (fun b hb=>hel b (List.mem_of_mem_take hb)) _ U (HEW.below hU) ((HL.out.below qq).below hU)
  rw [et1] at h
  exact h
 have LB:∀ U,Below W.heap.size W U→Calls Tryz.prog 47 #[.slice A2 (min p.r.length 5) k2] U fun e w'=>∃ v',e=.returned v'∧SRow IV.cells 3 86 w' U.heap.size v' (logP p.r)∧Below U.heap.size U w':=fun U hU=>by
  have h:=lmake_any (p.r.take (min p.r.length 5)) (by omega) (fun b hb=>her b (List.mem_of_mem_take hb)) _ U (HEW.below hU) ((HR.out.below qq).below hU)
  rw [et2] at h
  exact h
 have row:∀ (l:List IV) (A:Option Addr) (m k:Nat),(∀ U,Below W.heap.size W U→Calls Tryz.prog 47 #[.slice A m k] U fun e w'=>∃ v',e=.returned v'∧SRow IV.cells 3 86 w' U.heap.size v' l∧Below U.heap.size U w')→l.length=m →
   (l=[]→Ret Tryz.prog W 47 #[.slice A m k] (.slice none 0 0)) ∧
   (l ≠ []→∀ U,Below W.heap.size W U→Calls Tryz.prog 47 #[.slice A m k] U fun e w'=>∃ d c r,e=.returned (.slice (some ⟨d,0,none⟩) m c)∧U.heap.size≤d∧Blk w' d (l.flatMap IV.cells ++ r).toArray 86 ∧ Below U.heap.size U w'):=fun l A m k h hm=>by
  refine ⟨fun hn U hU=>(h U hU).mono ?_,fun hn U hU=>(h U hU).mono ?_⟩
  ·rintro e w' ⟨v',rfl,r,q⟩
   rcases r with ⟨_,rfl⟩ | ⟨_,_,_,_,_,h3,_⟩
   ·exact ⟨rfl,q⟩
   ·exact absurd hn h3
  ·rintro e w' ⟨v',rfl,r,q⟩
   rcases r with ⟨h3,_⟩ | ⟨d,c,r,h1,h2,_,h4,_⟩
   ·exact absurd h3 hn
   ·exact ⟨d,c,r,by rw [h1,hm],h2,h4,q⟩
 have RA:=row _ _ _ _ LA (by rw [logP_len]; omega)
 have RB:=row _ _ _ _ LB (by rw [logP_len]; omega)
 have HH0:=Lib.hid (half_any p.c0 HC.1 W HEW)
 have HH1:=Lib.hid (half_any p.c1 HC.2.1 W HEW)
 have HH2:=Lib.hid (half_any p.c2 HC.2.2.1 W HEW)
 have HH3:=Lib.hid (half_any p.c3 HC.2.2.2 W HEW)
 have SA:Hid (∀ W' d c r,Blk W' d ((logP p.l).flatMap IV.cells ++ r).toArray 86 → SAt IV.cells 3 W' (.slice (some ⟨d,0,none⟩) (min p.l.length 5) c) (logP p.l)):=Lib.hid (fun W' d c r h=>by
  have e:min p.l.length 5=(logP p.l).length:=by rw [logP_len]; omega
  rw [e]
  exact row_SAt IV.len h c)
 have SB:Hid (∀ W' d c r,Blk W' d ((logP p.r).flatMap IV.cells ++ r).toArray 86 → SAt IV.cells 3 W' (.slice (some ⟨d,0,none⟩) (min p.r.length 5) c) (logP p.r)):=Lib.hid (fun W' d c r h=>by
  have e:min p.r.length 5=(logP p.r).length:=by rw [logP_len]; omega
  rw [e]
  exact row_SAt IV.len h c)
 have mn1:min (p.l.length:Int) 5=((min p.l.length 5:Nat):Int):=by omega
 have mn2:min (p.r.length:Int) 5=((min p.r.length 5:Nat):Int):=by omega
 clear kf1 q1 hs1 k2' q2 kk1 qq hb1 hb2 HEW hlen1 hlen2 et1 et2 LA LB row HC hel her HL HR
 have RA':=Lib.hid RA
 have RB':=Lib.hid RB
 have MN1:=Lib.hid mn1
 have MN2:=Lib.hid mn2
 clear RA RB mn1 mn2
 generalize (p.c0:Int)=u0 at *
 generalize (p.c1:Int)=u1 at *
 generalize (p.c2:Int)=u2 at *
 generalize (p.c3:Int)=u3 at *
 obtain ⟨h0,e0⟩:∃ t,qT (2 * ((p.c0 % 6:Nat):Int))=t:=⟨_,rfl⟩
 obtain ⟨h1,e1⟩:∃ t,qT (2 * ((p.c1 % 6:Nat):Int))=t:=⟨_,rfl⟩
 obtain ⟨h2,e2⟩:∃ t,qT (2 * ((p.c2 % 6:Nat):Int))=t:=⟨_,rfl⟩
 obtain ⟨h3,e3⟩:∃ t,qT (2 * ((p.c3 % 6:Nat):Int))=t:=⟨_,rfl⟩
 have E0:=Lib.hid e0
 have E1:=Lib.hid e1
 have E2:=Lib.hid e2
 have E3:=Lib.hid e3
 rw [e0] at HH0
 rw [e1] at HH1
 rw [e2] at HH2
 rw [e3] at HH3
 clear e0 e1 e2 e3
 generalize hf1:(logP p.l).flatMap IV.cells=f1 at *
 generalize hf2:(logP p.r).flatMap IV.cells=f2 at *
 clear hf1 hf2
 generalize min p.l.length 5=m1 at *
 generalize min p.r.length 5=m2 at *
 generalize p.l.length=n1 at *
 generalize p.r.length=n2 at *
 by_cases z1:logP p.l=[]
 ·by_cases z2:logP p.r=[]
  ·have HLa:=Lib.hid (RA'.out.1 z1)
   have HLb:=Lib.hid (RB'.out.1 z2)
   refine wpIn_wide.1 (wpIn_phaseX (n:=9) (.inl rfl) (ι:=Unit) () 44 37 (.v 4 (.pointer (some ⟨b1,0,none⟩)) :: .v 5 (.slice A1 n1 k1) :: .v 6 (.pointer (some ⟨b1,0,none⟩)) :: .v 7 (.slice A1 n1 k1) :: .v 8 (.int .i64 (n1:Int)) :: .v 9 (.int .i64 (m1:Int)) :: .v 10 (.slice A1 m1 k1) :: .v 11 (.slice none 0 0) :: .v 12 (.pointer (some ⟨b1,1,none⟩)) :: .v 13 (.slice A2 n2 k2) :: .v 14 (.pointer (some ⟨b1,1,none⟩)) :: .v 15 (.slice A2 n2 k2) :: .v 16 (.int .i64 (n2:Int)) :: .v 17 (.int .i64 (m2:Int)) :: .v 18 (.slice A2 m2 k2) :: .v 19 (.slice none 0 0) :: .v 20 (.func (.func 46) #[] #[]) :: .v 21 (.pointer (some ⟨b1,2,none⟩)) :: .v 22 (.pointer (some ⟨b1,2,none⟩)) :: .v 23 (.int .u8 u0) :: .v 24 (.string h0) :: .v 25 (.func (.func 46) #[] #[]) :: .v 26 (.pointer (some ⟨b1,2,none⟩)) :: .v 27 (.pointer (some ⟨b1,3,none⟩)) :: .v 28 (.int .u8 u1) :: .v 29 (.string h1) :: .v 30 (.func (.func 46) #[] #[]) :: .v 31 (.pointer (some ⟨b1,2,none⟩)) :: .v 32 (.pointer (some ⟨b1,4,none⟩)) :: .v 33 (.int .u8 u2) :: .v 34 (.string h2) :: .v 35 (.func (.func 46) #[] #[]) :: .v 36 (.pointer (some ⟨b1,2,none⟩)) :: .v 37 (.pointer (some ⟨b1,5,none⟩)) :: .v 38 (.int .u8 u3) :: .v 39 (.string h3) :: .v 40 (.agg #[.string h0,.string h1,.string h2,.string h3]) :: []) (fun (x:Unit)=>([]:List NB)) [⟨b1,#[.slice A1 n1 k1,.slice A2 n2 k2,.int .u8 u0,.int .u8 u1,.int .u8 u2,.int .u8 u3], 25, none⟩] [] [] [] [] [] (fun x=>by kernel_rfl) (by kernel_rfl) (by intro hL; obtain ⟨_,_,hL⟩:=hL; obtain ⟨_,_,hL,_⟩:=hL; cases hL) (Below.refl _ _) ⟨K1.out,trivial⟩ trivial ⟨obX (fun x=>pu),obX (fun x=>ld 0 0),obX (fun x=>pu),obX (fun x=>ld 0 0),obX (fun x=>pu),?_,?_,obX (fun x=>cl HLa.out),obX (fun x=>pu),obX (fun x=>ld 0 1),obX (fun x=>pu),obX (fun x=>ld 0 1),obX (fun x=>pu),?_,?_,obX (fun x=>cl HLb.out),obX (fun x=>pu),obX (fun x=>pu),obX (fun x=>pu),obX (fun x=>ld 0 2),obX (fun x=>cl HH0.out),obX (fun x=>pu),obX (fun x=>pu),obX (fun x=>pu),obX (fun x=>ld 0 3),obX (fun x=>cl HH1.out),obX (fun x=>pu),obX (fun x=>pu),obX (fun x=>pu),obX (fun x=>ld 0 4),obX (fun x=>cl HH2.out),obX (fun x=>pu),obX (fun x=>pu),obX (fun x=>pu),obX (fun x=>ld 0 5),obX (fun x=>cl HH3.out),obX (fun x=>pu),trivial⟩ ?_)
   ·refine obX (fun x=>?_); intro L a U ho J hn dd KK kk; refine .free rfl ?_; have r8:=J.read 4 rfl (dd.get 4 rfl); have mn:=MN1.out; go_simp; exact kk.out _ _ (J.st 5 rfl rfl)
   ·refine obX (fun x=>?_); intro L a U ho J hn dd KK kk; refine .free rfl ?_; have r5:=J.read 1 rfl (dd.get 1 rfl); have r9:=J.read 5 rfl (dd.get 5 rfl); go_simp; exact kk.out _ _ (J.st 6 rfl rfl)
   ·refine obX (fun x=>?_); intro L a U ho J hn dd KK kk; refine .free rfl ?_; have r16:=J.read 12 rfl (dd.get 12 rfl); have mn:=MN2.out; go_simp; exact kk.out _ _ (J.st 13 rfl rfl)
   ·refine obX (fun x=>?_); intro L a U ho J hn dd KK kk; refine .free rfl ?_; have r13:=J.read 9 rfl (dd.get 9 rfl); have r17:=J.read 13 rfl (dd.get 13 rfl); go_simp; exact kk.out _ _ (J.st 14 rfl rfl)
   rintro x σ W9 _ _ _ _ B9
   simp only [slotsOf,finX,nval,nvalN,nvalA,Nat.reduceBEq,cond_true,cond_false,putAll,Act.put,List.setIfInBounds_toArray,List.set_cons_succ,List.set_cons_zero]
   simp only [List.drop_succ_cons,List.drop_zero]
   have K2b:=K2.out.below B9.out
   have lt2:=K2.out.lt
   have BB:=B.out.trans (B9.out.mono B.out.size)
   have f0:=K2b.free 0
   have g0:=K2b.at_ 0 _ rfl
   have f1:=K2b.free 1
   have g1:=K2b.at_ 1 _ rfl
   have f2:=K2b.free 2
   have g2:=K2b.at_ 2 _ rfl
   have f3:=K2b.free 3
   have g3:=K2b.at_ 3 _ rfl
   have f4:=K2b.free 4
   have g4:=K2b.at_ 4 _ rfl
   have f5:=K2b.free 5
   have g5:=K2b.at_ 5 _ rfl
   have KF:Hid (Blk (setAll W9 b2 0 (#[.slice none 0 0,.slice none 0 0,.string h0,.string h1,.string h2,.string h3]:Array Value).toList) b2 #[.slice none 0 0,.slice none 0 0,.string h0,.string h1,.string h2,.string h3] 32):=Lib.hid (K2b.setA 0 _)
   have BF:Hid (Below w.heap.size w (setAll W9 b2 0 (#[.slice none 0 0,.slice none 0 0,.string h0,.string h1,.string h2,.string h3]:Array Value).toList)):=Lib.hid (BB.trans (below_setA W9 w.heap.size b2 (by have:=HB.out; omega) 0 _))
   have SA2:Hid (SAt IV.cells 3 (setAll W9 b2 0 (#[.slice none 0 0,.slice none 0 0,.string h0,.string h1,.string h2,.string h3]:Array Value).toList) (.slice none 0 0) (logP p.l)):=Lib.hid (by rw [z1]; exact ⟨none,0,rfl,fun i t h=>by simp at h⟩)
   have SB2:Hid (SAt IV.cells 3 (setAll W9 b2 0 (#[.slice none 0 0,.slice none 0 0,.string h0,.string h1,.string h2,.string h3]:Array Value).toList) (.slice none 0 0) (logP p.r)):=Lib.hid (by rw [z2]; exact ⟨none,0,rfl,fun i t h=>by simp at h⟩)
   clear K2b BB
   dsimp only [List.toList_toArray,setAll,Nat.zero_add,Nat.reduceAdd] at KF BF SA2 SB2
   gi_wp2
   go_wp2
   have c0:=KF.out.at_ 0 _ rfl
   have c1:=KF.out.at_ 1 _ rfl
   have c2:=KF.out.at_ 2 _ rfl
   have c3:=KF.out.at_ 3 _ rfl
   have c4:=KF.out.at_ 4 _ rfl
   have c5:=KF.out.at_ 5 _ rfl
   exact bodyPost_ret (v:=.agg #[.slice none 0 0,.slice none 0 0,.string h0,.string h1,.string h2,.string h3]) (by simp [results,Tryz.results14, go_sem,c0,c1,c2,c3,c4,c5]) rfl ⟨_,_,by rw [E0.out,E1.out,E2.out,E3.out],HQ.out _ _ _ SA2.out SB2.out,BF.out⟩
  ·have HLa:=Lib.hid (RA'.out.1 z1)
   have HRb:=Lib.hid (RB'.out.2 z2)
   refine wpIn_wide.1 (wpIn_phaseX (n:=9) (.inl rfl) (ι:=(Nat × List Value)) (0,[]) 44 37 (.v 4 (.pointer (some ⟨b1,0,none⟩)) :: .v 5 (.slice A1 n1 k1) :: .v 6 (.pointer (some ⟨b1,0,none⟩)) :: .v 7 (.slice A1 n1 k1) :: .v 8 (.int .i64 (n1:Int)) :: .v 9 (.int .i64 (m1:Int)) :: .v 10 (.slice A1 m1 k1) :: .v 11 (.slice none 0 0) :: .v 12 (.pointer (some ⟨b1,1,none⟩)) :: .v 13 (.slice A2 n2 k2) :: .v 14 (.pointer (some ⟨b1,1,none⟩)) :: .v 15 (.slice A2 n2 k2) :: .v 16 (.int .i64 (n2:Int)) :: .v 17 (.int .i64 (m2:Int)) :: .v 18 (.slice A2 m2 k2) :: .n 19 :: .v 20 (.func (.func 46) #[] #[]) :: .v 21 (.pointer (some ⟨b1,2,none⟩)) :: .v 22 (.pointer (some ⟨b1,2,none⟩)) :: .v 23 (.int .u8 u0) :: .v 24 (.string h0) :: .v 25 (.func (.func 46) #[] #[]) :: .v 26 (.pointer (some ⟨b1,2,none⟩)) :: .v 27 (.pointer (some ⟨b1,3,none⟩)) :: .v 28 (.int .u8 u1) :: .v 29 (.string h1) :: .v 30 (.func (.func 46) #[] #[]) :: .v 31 (.pointer (some ⟨b1,2,none⟩)) :: .v 32 (.pointer (some ⟨b1,4,none⟩)) :: .v 33 (.int .u8 u2) :: .v 34 (.string h2) :: .v 35 (.func (.func 46) #[] #[]) :: .v 36 (.pointer (some ⟨b1,2,none⟩)) :: .v 37 (.pointer (some ⟨b1,5,none⟩)) :: .v 38 (.int .u8 u3) :: .v 39 (.string h3) :: .v 40 (.agg #[.string h0,.string h1,.string h2,.string h3]) :: []) (fun (x:(Nat × List Value))=>([⟨15,19,fun g=>.slice (some ⟨g,0,none⟩) m2 x.1,(f2 ++ x.2).toArray, 86, none⟩]:List NB)) [⟨b1,#[.slice A1 n1 k1,.slice A2 n2 k2,.int .u8 u0,.int .u8 u1,.int .u8 u2,.int .u8 u3], 25, none⟩] [] [] [] [] [] (fun x=>by kernel_rfl) (by kernel_rfl) (by intro hL; obtain ⟨_,_,hL⟩:=hL; obtain ⟨_,_,hL,_⟩:=hL; cases hL) (Below.refl _ _) ⟨K1.out,trivial⟩ trivial ⟨obX (fun x=>pu),obX (fun x=>ld 0 0),obX (fun x=>pu),obX (fun x=>ld 0 0),obX (fun x=>pu),?_,?_,obX (fun x=>cl HLa.out),obX (fun x=>pu),obX (fun x=>ld 0 1),obX (fun x=>pu),obX (fun x=>ld 0 1),obX (fun x=>pu),?_,?_,?_,obX (fun x=>pu),obX (fun x=>pu),obX (fun x=>pu),obX (fun x=>ld 0 2),obX (fun x=>cl HH0.out),obX (fun x=>pu),obX (fun x=>pu),obX (fun x=>pu),obX (fun x=>ld 0 3),obX (fun x=>cl HH1.out),obX (fun x=>pu),obX (fun x=>pu),obX (fun x=>pu),obX (fun x=>ld 0 4),obX (fun x=>cl HH2.out),obX (fun x=>pu),obX (fun x=>pu),obX (fun x=>pu),obX (fun x=>ld 0 5),obX (fun x=>cl HH3.out),obX (fun x=>pu),trivial⟩ ?_)
   ·refine obX (fun x=>?_); intro L a U ho J hn dd KK kk; refine .free rfl ?_; have r8:=J.read 4 rfl (dd.get 4 rfl); have mn:=MN1.out; go_simp; exact kk.out _ _ (J.st 5 rfl rfl)
   ·refine obX (fun x=>?_); intro L a U ho J hn dd KK kk; refine .free rfl ?_; have r5:=J.read 1 rfl (dd.get 1 rfl); have r9:=J.read 5 rfl (dd.get 5 rfl); go_simp; exact kk.out _ _ (J.st 6 rfl rfl)
   ·refine obX (fun x=>?_); intro L a U ho J hn dd KK kk; refine .free rfl ?_; have r16:=J.read 12 rfl (dd.get 12 rfl); have mn:=MN2.out; go_simp; exact kk.out _ _ (J.st 13 rfl rfl)
   ·refine obX (fun x=>?_); intro L a U ho J hn dd KK kk; refine .free rfl ?_; have r13:=J.read 9 rfl (dd.get 9 rfl); have r17:=J.read 13 rfl (dd.get 13 rfl); go_simp; exact kk.out _ _ (J.st 14 rfl rfl)
   ·intro L a U ho hJ hn dd KK kk
    obtain ⟨x,J⟩:=hJ
    refine .free rfl ?_
    have r18:=J.read 14 rfl (dd.get 14 rfl)
    go_simp
    refine (HRb.out U J.bb).mono ?_
    rintro e w' ⟨d,c,r,rfl,hd,hb,q⟩
    refine kk.out _ _ ⟨(c,r),?_⟩
    have J2:RJ _ _ _ ((fun (x:(Nat × List Value))=>([⟨15,19,fun g=>.slice (some ⟨g,0,none⟩) m2 x.1,(f2 ++ x.2).toArray, 86, none⟩]:List NB)) (c,r)) _ _ _ _ _ L (slotOf a) U:=J.rebase (fun i x' hx=>by
     rcases i with _ | _ | i
     ·exact ⟨_,rfl,by simp at hx; subst hx; rfl,by simp at hx; subst hx; rfl,fun h=>by simp at hx; subst hx; exact absurd h hn⟩
     ·simp at hx
     ·simp at hx)
    exact J2.made 15 0 rfl rfl rfl rfl rfl rfl rfl rfl rfl rfl hd hb q hn
   rintro x σ W9 ⟨⟨lo2,KB⟩,_⟩ _ _ _ B9
   simp only [slotsOf,finX,nval,nvalN,nvalA,Nat.reduceBEq,cond_true,cond_false,putAll,Act.put,List.setIfInBounds_toArray,List.set_cons_succ,List.set_cons_zero]
   simp only [List.drop_succ_cons,List.drop_zero]
   generalize blkOf (σ 19)=d2 at *
   have K2b:=K2.out.below B9.out
   have lt2:=K2.out.lt
   have BB:=B.out.trans (B9.out.mono B.out.size)
   have f0:=K2b.free 0
   have g0:=K2b.at_ 0 _ rfl
   have f1:=K2b.free 1
   have g1:=K2b.at_ 1 _ rfl
   have f2:=K2b.free 2
   have g2:=K2b.at_ 2 _ rfl
   have f3:=K2b.free 3
   have g3:=K2b.at_ 3 _ rfl
   have f4:=K2b.free 4
   have g4:=K2b.at_ 4 _ rfl
   have f5:=K2b.free 5
   have g5:=K2b.at_ 5 _ rfl
   have KF:Hid (Blk (setAll W9 b2 0 (#[.slice none 0 0,.slice (some ⟨d2,0,none⟩) m2 x.1,.string h0,.string h1,.string h2,.string h3]:Array Value).toList) b2 #[.slice none 0 0,.slice (some ⟨d2,0,none⟩) m2 x.1,.string h0,.string h1,.string h2,.string h3] 32):=Lib.hid (K2b.setA 0 _)
   have BF:Hid (Below w.heap.size w (setAll W9 b2 0 (#[.slice none 0 0,.slice (some ⟨d2,0,none⟩) m2 x.1,.string h0,.string h1,.string h2,.string h3]:Array Value).toList)):=Lib.hid (BB.trans (below_setA W9 w.heap.size b2 (by have:=HB.out; omega) 0 _))
   have SA2:Hid (SAt IV.cells 3 (setAll W9 b2 0 (#[.slice none 0 0,.slice (some ⟨d2,0,none⟩) m2 x.1,.string h0,.string h1,.string h2,.string h3]:Array Value).toList) (.slice none 0 0) (logP p.l)):=Lib.hid (by rw [z1]; exact ⟨none,0,rfl,fun i t h=>by simp at h⟩)
   have SB2:=Lib.hid (SB.out _ d2 x.1 x.2 (KB.out.elseA (show d2 ≠ b2 by have h:=lo2; first | omega | (have:=lo2.out; omega)) 0 (#[.slice none 0 0,.slice (some ⟨d2,0,none⟩) m2 x.1,.string h0,.string h1,.string h2,.string h3]:Array Value).toList))
   clear K2b BB KB lo2
   dsimp only [List.toList_toArray,setAll,Nat.zero_add,Nat.reduceAdd] at KF BF SA2 SB2
   gi_wp2
   go_wp2
   have c0:=KF.out.at_ 0 _ rfl
   have c1:=KF.out.at_ 1 _ rfl
   have c2:=KF.out.at_ 2 _ rfl
   have c3:=KF.out.at_ 3 _ rfl
   have c4:=KF.out.at_ 4 _ rfl
   have c5:=KF.out.at_ 5 _ rfl
   exact bodyPost_ret (v:=.agg #[.slice none 0 0,.slice (some ⟨d2,0,none⟩) m2 x.1,.string h0,.string h1,.string h2,.string h3]) (by simp [results,Tryz.results14, go_sem,c0,c1,c2,c3,c4,c5]) rfl ⟨_,_,by rw [E0.out,E1.out,E2.out,E3.out],HQ.out _ _ _ SA2.out SB2.out,BF.out⟩
 ·by_cases z2:logP p.r=[]
  ·have HRa:=Lib.hid (RA'.out.2 z1)
   have HLb:=Lib.hid (RB'.out.1 z2)
   refine wpIn_wide.1 (wpIn_phaseX (n:=9) (.inl rfl) (ι:=(Nat × List Value)) (0,[]) 44 37 (.v 4 (.pointer (some ⟨b1,0,none⟩)) :: .v 5 (.slice A1 n1 k1) :: .v 6 (.pointer (some ⟨b1,0,none⟩)) :: .v 7 (.slice A1 n1 k1) :: .v 8 (.int .i64 (n1:Int)) :: .v 9 (.int .i64 (m1:Int)) :: .v 10 (.slice A1 m1 k1) :: .n 11 :: .v 12 (.pointer (some ⟨b1,1,none⟩)) :: .v 13 (.slice A2 n2 k2) :: .v 14 (.pointer (some ⟨b1,1,none⟩)) :: .v 15 (.slice A2 n2 k2) :: .v 16 (.int .i64 (n2:Int)) :: .v 17 (.int .i64 (m2:Int)) :: .v 18 (.slice A2 m2 k2) :: .v 19 (.slice none 0 0) :: .v 20 (.func (.func 46) #[] #[]) :: .v 21 (.pointer (some ⟨b1,2,none⟩)) :: .v 22 (.pointer (some ⟨b1,2,none⟩)) :: .v 23 (.int .u8 u0) :: .v 24 (.string h0) :: .v 25 (.func (.func 46) #[] #[]) :: .v 26 (.pointer (some ⟨b1,2,none⟩)) :: .v 27 (.pointer (some ⟨b1,3,none⟩)) :: .v 28 (.int .u8 u1) :: .v 29 (.string h1) :: .v 30 (.func (.func 46) #[] #[]) :: .v 31 (.pointer (some ⟨b1,2,none⟩)) :: .v 32 (.pointer (some ⟨b1,4,none⟩)) :: .v 33 (.int .u8 u2) :: .v 34 (.string h2) :: .v 35 (.func (.func 46) #[] #[]) :: .v 36 (.pointer (some ⟨b1,2,none⟩)) :: .v 37 (.pointer (some ⟨b1,5,none⟩)) :: .v 38 (.int .u8 u3) :: .v 39 (.string h3) :: .v 40 (.agg #[.string h0,.string h1,.string h2,.string h3]) :: []) (fun (x:(Nat × List Value))=>([⟨7,11,fun g=>.slice (some ⟨g,0,none⟩) m1 x.1,(f1 ++ x.2).toArray, 86, none⟩]:List NB)) [⟨b1,#[.slice A1 n1 k1,.slice A2 n2 k2,.int .u8 u0,.int .u8 u1,.int .u8 u2,.int .u8 u3], 25, none⟩] [] [] [] [] [] (fun x=>by kernel_rfl) (by kernel_rfl) (by intro hL; obtain ⟨_,_,hL⟩:=hL; obtain ⟨_,_,hL,_⟩:=hL; cases hL) (Below.refl _ _) ⟨K1.out,trivial⟩ trivial ⟨obX (fun x=>pu),obX (fun x=>ld 0 0),obX (fun x=>pu),obX (fun x=>ld 0 0),obX (fun x=>pu),?_,?_,?_,obX (fun x=>pu),obX (fun x=>ld 0 1),obX (fun x=>pu),obX (fun x=>ld 0 1),obX (fun x=>pu),?_,?_,obX (fun x=>cl HLb.out),obX (fun x=>pu),obX (fun x=>pu),obX (fun x=>pu),obX (fun x=>ld 0 2),obX (fun x=>cl HH0.out),obX (fun x=>pu),obX (fun x=>pu),obX (fun x=>pu),obX (fun x=>ld 0 3),obX (fun x=>cl HH1.out),obX (fun x=>pu),obX (fun x=>pu),obX (fun x=>pu),obX (fun x=>ld 0 4),obX (fun x=>cl HH2.out),obX (fun x=>pu),obX (fun x=>pu),obX (fun x=>pu),obX (fun x=>ld 0 5),obX (fun x=>cl HH3.out),obX (fun x=>pu),trivial⟩ ?_)
   ·refine obX (fun x=>?_); intro L a U ho J hn dd KK kk; refine .free rfl ?_; have r8:=J.read 4 rfl (dd.get 4 rfl); have mn:=MN1.out; go_simp; exact kk.out _ _ (J.st 5 rfl rfl)
   ·refine obX (fun x=>?_); intro L a U ho J hn dd KK kk; refine .free rfl ?_; have r5:=J.read 1 rfl (dd.get 1 rfl); have r9:=J.read 5 rfl (dd.get 5 rfl); go_simp; exact kk.out _ _ (J.st 6 rfl rfl)
   ·intro L a U ho hJ hn dd KK kk
    obtain ⟨x,J⟩:=hJ
    refine .free rfl ?_
    have r10:=J.read 6 rfl (dd.get 6 rfl)
    go_simp
    refine (HRa.out U J.bb).mono ?_
    rintro e w' ⟨d,c,r,rfl,hd,hb,q⟩
    refine kk.out _ _ ⟨(c,r),?_⟩
    have J2:RJ _ _ _ ((fun (x:(Nat × List Value))=>([⟨7,11,fun g=>.slice (some ⟨g,0,none⟩) m1 x.1,(f1 ++ x.2).toArray, 86, none⟩]:List NB)) (c,r)) _ _ _ _ _ L (slotOf a) U:=J.rebase (fun i x' hx=>by
     rcases i with _ | _ | i
     ·exact ⟨_,rfl,by simp at hx; subst hx; rfl,by simp at hx; subst hx; rfl,fun h=>by simp at hx; subst hx; exact absurd h hn⟩
     ·simp at hx
     ·simp at hx)
    exact J2.made 7 0 rfl rfl rfl rfl rfl rfl rfl rfl rfl rfl hd hb q hn
   ·refine obX (fun x=>?_); intro L a U ho J hn dd KK kk; refine .free rfl ?_; have r16:=J.read 12 rfl (dd.get 12 rfl); have mn:=MN2.out; go_simp; exact kk.out _ _ (J.st 13 rfl rfl)
   ·refine obX (fun x=>?_); intro L a U ho J hn dd KK kk; refine .free rfl ?_; have r13:=J.read 9 rfl (dd.get 9 rfl); have r17:=J.read 13 rfl (dd.get 13 rfl); go_simp; exact kk.out _ _ (J.st 14 rfl rfl)
   rintro x σ W9 ⟨⟨lo1,KA⟩,_⟩ _ _ _ B9
   simp only [slotsOf,finX,nval,nvalN,nvalA,Nat.reduceBEq,cond_true,cond_false,putAll,Act.put,List.setIfInBounds_toArray,List.set_cons_succ,List.set_cons_zero]
   simp only [List.drop_succ_cons,List.drop_zero]
   generalize blkOf (σ 11)=d1 at *
   have K2b:=K2.out.below B9.out
   have lt2:=K2.out.lt
   have BB:=B.out.trans (B9.out.mono B.out.size)
   have f0:=K2b.free 0
   have g0:=K2b.at_ 0 _ rfl
   have f1:=K2b.free 1
   have g1:=K2b.at_ 1 _ rfl
   have f2:=K2b.free 2
   have g2:=K2b.at_ 2 _ rfl
   have f3:=K2b.free 3
   have g3:=K2b.at_ 3 _ rfl
   have f4:=K2b.free 4
   have g4:=K2b.at_ 4 _ rfl
   have f5:=K2b.free 5
   have g5:=K2b.at_ 5 _ rfl
   have KF:Hid (Blk (setAll W9 b2 0 (#[.slice (some ⟨d1,0,none⟩) m1 x.1,.slice none 0 0,.string h0,.string h1,.string h2,.string h3]:Array Value).toList) b2 #[.slice (some ⟨d1,0,none⟩) m1 x.1,.slice none 0 0,.string h0,.string h1,.string h2,.string h3] 32):=Lib.hid (K2b.setA 0 _)
   have BF:Hid (Below w.heap.size w (setAll W9 b2 0 (#[.slice (some ⟨d1,0,none⟩) m1 x.1,.slice none 0 0,.string h0,.string h1,.string h2,.string h3]:Array Value).toList)):=Lib.hid (BB.trans (below_setA W9 w.heap.size b2 (by have:=HB.out; omega) 0 _))
   have SA2:=Lib.hid (SA.out _ d1 x.1 x.2 (KA.out.elseA (show d1 ≠ b2 by have h:=lo1; first | omega | (have:=lo1.out; omega)) 0 (#[.slice (some ⟨d1,0,none⟩) m1 x.1,.slice none 0 0,.string h0,.string h1,.string h2,.string h3]:Array Value).toList))
   have SB2:Hid (SAt IV.cells 3 (setAll W9 b2 0 (#[.slice (some ⟨d1,0,none⟩) m1 x.1,.slice none 0 0,.string h0,.string h1,.string h2,.string h3]:Array Value).toList) (.slice none 0 0) (logP p.r)):=Lib.hid (by rw [z2]; exact ⟨none,0,rfl,fun i t h=>by simp at h⟩)
   clear K2b BB KA lo1
   dsimp only [List.toList_toArray,setAll,Nat.zero_add,Nat.reduceAdd] at KF BF SA2 SB2
   gi_wp2
   go_wp2
   have c0:=KF.out.at_ 0 _ rfl
   have c1:=KF.out.at_ 1 _ rfl
   have c2:=KF.out.at_ 2 _ rfl
   have c3:=KF.out.at_ 3 _ rfl
   have c4:=KF.out.at_ 4 _ rfl
   have c5:=KF.out.at_ 5 _ rfl
   exact bodyPost_ret (v:=.agg #[.slice (some ⟨d1,0,none⟩) m1 x.1,.slice none 0 0,.string h0,.string h1,.string h2,.string h3]) (by simp [results,Tryz.results14, go_sem,c0,c1,c2,c3,c4,c5]) rfl ⟨_,_,by rw [E0.out,E1.out,E2.out,E3.out],HQ.out _ _ _ SA2.out SB2.out,BF.out⟩
  ·have HRa:=Lib.hid (RA'.out.2 z1)
   have HRb:=Lib.hid (RB'.out.2 z2)
   refine wpIn_wide.1 (wpIn_phaseX (n:=9) (.inl rfl) (ι:=((Nat × List Value) × (Nat × List Value))) ((0,[]),(0,[])) 44 37 (.v 4 (.pointer (some ⟨b1,0,none⟩)) :: .v 5 (.slice A1 n1 k1) :: .v 6 (.pointer (some ⟨b1,0,none⟩)) :: .v 7 (.slice A1 n1 k1) :: .v 8 (.int .i64 (n1:Int)) :: .v 9 (.int .i64 (m1:Int)) :: .v 10 (.slice A1 m1 k1) :: .n 11 :: .v 12 (.pointer (some ⟨b1,1,none⟩)) :: .v 13 (.slice A2 n2 k2) :: .v 14 (.pointer (some ⟨b1,1,none⟩)) :: .v 15 (.slice A2 n2 k2) :: .v 16 (.int .i64 (n2:Int)) :: .v 17 (.int .i64 (m2:Int)) :: .v 18 (.slice A2 m2 k2) :: .n 19 :: .v 20 (.func (.func 46) #[] #[]) :: .v 21 (.pointer (some ⟨b1,2,none⟩)) :: .v 22 (.pointer (some ⟨b1,2,none⟩)) :: .v 23 (.int .u8 u0) :: .v 24 (.string h0) :: .v 25 (.func (.func 46) #[] #[]) :: .v 26 (.pointer (some ⟨b1,2,none⟩)) :: .v 27 (.pointer (some ⟨b1,3,none⟩)) :: .v 28 (.int .u8 u1) :: .v 29 (.string h1) :: .v 30 (.func (.func 46) #[] #[]) :: .v 31 (.pointer (some ⟨b1,2,none⟩)) :: .v 32 (.pointer (some ⟨b1,4,none⟩)) :: .v 33 (.int .u8 u2) :: .v 34 (.string h2) :: .v 35 (.func (.func 46) #[] #[]) :: .v 36 (.pointer (some ⟨b1,2,none⟩)) :: .v 37 (.pointer (some ⟨b1,5,none⟩)) :: .v 38 (.int .u8 u3) :: .v 39 (.string h3) :: .v 40 (.agg #[.string h0,.string h1,.string h2,.string h3]) :: []) (fun (x:((Nat × List Value) × (Nat × List Value)))=>([⟨7,11,fun g=>.slice (some ⟨g,0,none⟩) m1 x.1.1,(f1 ++ x.1.2).toArray, 86, none⟩,⟨15,19,fun g=>.slice (some ⟨g,0,none⟩) m2 x.2.1,(f2 ++ x.2.2).toArray, 86, none⟩]:List NB)) [⟨b1,#[.slice A1 n1 k1,.slice A2 n2 k2,.int .u8 u0,.int .u8 u1,.int .u8 u2,.int .u8 u3], 25, none⟩] [] [] [] [] [] (fun x=>by kernel_rfl) (by kernel_rfl) (by intro hL; obtain ⟨_,_,hL⟩:=hL; obtain ⟨_,_,hL,_⟩:=hL; cases hL) (Below.refl _ _) ⟨K1.out,trivial⟩ trivial ⟨obX (fun x=>pu),obX (fun x=>ld 0 0),obX (fun x=>pu),obX (fun x=>ld 0 0),obX (fun x=>pu),?_,?_,?_,obX (fun x=>pu),obX (fun x=>ld 0 1),obX (fun x=>pu),obX (fun x=>ld 0 1),obX (fun x=>pu),?_,?_,?_,obX (fun x=>pu),obX (fun x=>pu),obX (fun x=>pu),obX (fun x=>ld 0 2),obX (fun x=>cl HH0.out),obX (fun x=>pu),obX (fun x=>pu),obX (fun x=>pu),obX (fun x=>ld 0 3),obX (fun x=>cl HH1.out),obX (fun x=>pu),obX (fun x=>pu),obX (fun x=>pu),obX (fun x=>ld 0 4),obX (fun x=>cl HH2.out),obX (fun x=>pu),obX (fun x=>pu),obX (fun x=>pu),obX (fun x=>ld 0 5),obX (fun x=>cl HH3.out),obX (fun x=>pu),trivial⟩ ?_)
   ·refine obX (fun x=>?_); intro L a U ho J hn dd KK kk; refine .free rfl ?_; have r8:=J.read 4 rfl (dd.get 4 rfl); have mn:=MN1.out; go_simp; exact kk.out _ _ (J.st 5 rfl rfl)
   ·refine obX (fun x=>?_); intro L a U ho J hn dd KK kk; refine .free rfl ?_; have r5:=J.read 1 rfl (dd.get 1 rfl); have r9:=J.read 5 rfl (dd.get 5 rfl); go_simp; exact kk.out _ _ (J.st 6 rfl rfl)
   ·intro L a U ho hJ hn dd KK kk
    obtain ⟨x,J⟩:=hJ
    refine .free rfl ?_
    have r10:=J.read 6 rfl (dd.get 6 rfl)
    go_simp
    refine (HRa.out U J.bb).mono ?_
    rintro e w' ⟨d,c,r,rfl,hd,hb,q⟩
    refine kk.out _ _ ⟨((c,r),x.2),?_⟩
    have J2:RJ _ _ _ ((fun (x:((Nat × List Value) × (Nat × List Value)))=>([⟨7,11,fun g=>.slice (some ⟨g,0,none⟩) m1 x.1.1,(f1 ++ x.1.2).toArray, 86, none⟩,⟨15,19,fun g=>.slice (some ⟨g,0,none⟩) m2 x.2.1,(f2 ++ x.2.2).toArray, 86, none⟩]:List NB)) ((c,r),x.2)) _ _ _ _ _ L (slotOf a) U:=J.rebase (fun i x' hx=>by
     rcases i with _ | _ | i
     ·exact ⟨_,rfl,by simp at hx; subst hx; rfl,by simp at hx; subst hx; rfl,fun h=>by simp at hx; subst hx; exact absurd h hn⟩
     ·exact ⟨_,rfl,by simp at hx; subst hx; rfl,by simp at hx; subst hx; rfl,fun _=>by simp at hx; exact hx.symm⟩
     ·simp at hx)
    exact J2.made 7 0 rfl rfl rfl rfl rfl rfl rfl rfl rfl rfl hd hb q hn
   ·refine obX (fun x=>?_); intro L a U ho J hn dd KK kk; refine .free rfl ?_; have r16:=J.read 12 rfl (dd.get 12 rfl); have mn:=MN2.out; go_simp; exact kk.out _ _ (J.st 13 rfl rfl)
   ·refine obX (fun x=>?_); intro L a U ho J hn dd KK kk; refine .free rfl ?_; have r13:=J.read 9 rfl (dd.get 9 rfl); have r17:=J.read 13 rfl (dd.get 13 rfl); go_simp; exact kk.out _ _ (J.st 14 rfl rfl)
   ·intro L a U ho hJ hn dd KK kk
    obtain ⟨x,J⟩:=hJ
    refine .free rfl ?_
    have r18:=J.read 14 rfl (dd.get 14 rfl)
    go_simp
    refine (HRb.out U J.bb).mono ?_
    rintro e w' ⟨d,c,r,rfl,hd,hb,q⟩
    refine kk.out _ _ ⟨(x.1,(c,r)),?_⟩
    have J2:RJ _ _ _ ((fun (x:((Nat × List Value) × (Nat × List Value)))=>([⟨7,11,fun g=>.slice (some ⟨g,0,none⟩) m1 x.1.1,(f1 ++ x.1.2).toArray, 86, none⟩,⟨15,19,fun g=>.slice (some ⟨g,0,none⟩) m2 x.2.1,(f2 ++ x.2.2).toArray, 86, none⟩]:List NB)) (x.1,(c,r))) _ _ _ _ _ L (slotOf a) U:=J.rebase (fun i x' hx=>by
     rcases i with _ | _ | i
     ·exact ⟨_,rfl,by simp at hx; subst hx; rfl,by simp at hx; subst hx; rfl,fun _=>by simp at hx; exact hx.symm⟩
     ·exact ⟨_,rfl,by simp at hx; subst hx; rfl,by simp at hx; subst hx; rfl,fun h=>by simp at hx; subst hx; exact absurd h hn⟩
     ·simp at hx)
    exact J2.made 15 1 rfl rfl rfl rfl rfl rfl rfl rfl rfl rfl hd hb q hn
   rintro x σ W9 ⟨⟨lo1,KA⟩,⟨lo2,KB⟩,_⟩ _ _ _ B9
   simp only [slotsOf,finX,nval,nvalN,nvalA,Nat.reduceBEq,cond_true,cond_false,putAll,Act.put,List.setIfInBounds_toArray,List.set_cons_succ,List.set_cons_zero]
   simp only [List.drop_succ_cons,List.drop_zero]
   generalize blkOf (σ 11)=d1 at *
   generalize blkOf (σ 19)=d2 at *
   have K2b:=K2.out.below B9.out
   have lt2:=K2.out.lt
   have BB:=B.out.trans (B9.out.mono B.out.size)
   have f0:=K2b.free 0
   have g0:=K2b.at_ 0 _ rfl
   have f1:=K2b.free 1
   have g1:=K2b.at_ 1 _ rfl
   have f2:=K2b.free 2
   have g2:=K2b.at_ 2 _ rfl
   have f3:=K2b.free 3
   have g3:=K2b.at_ 3 _ rfl
   have f4:=K2b.free 4
   have g4:=K2b.at_ 4 _ rfl
   have f5:=K2b.free 5
   have g5:=K2b.at_ 5 _ rfl
   have KF:Hid (Blk (setAll W9 b2 0 (#[.slice (some ⟨d1,0,none⟩) m1 x.1.1,.slice (some ⟨d2,0,none⟩) m2 x.2.1,.string h0,.string h1,.string h2,.string h3]:Array Value).toList) b2 #[.slice (some ⟨d1,0,none⟩) m1 x.1.1,.slice (some ⟨d2,0,none⟩) m2 x.2.1,.string h0,.string h1,.string h2,.string h3] 32):=Lib.hid (K2b.setA 0 _)
   have BF:Hid (Below w.heap.size w (setAll W9 b2 0 (#[.slice (some ⟨d1,0,none⟩) m1 x.1.1,.slice (some ⟨d2,0,none⟩) m2 x.2.1,.string h0,.string h1,.string h2,.string h3]:Array Value).toList)):=Lib.hid (BB.trans (below_setA W9 w.heap.size b2 (by have:=HB.out; omega) 0 _))
   have SA2:=Lib.hid (SA.out _ d1 x.1.1 x.1.2 (KA.out.elseA (show d1 ≠ b2 by have h:=lo1; first | omega | (have:=lo1.out; omega)) 0 (#[.slice (some ⟨d1,0,none⟩) m1 x.1.1,.slice (some ⟨d2,0,none⟩) m2 x.2.1,.string h0,.string h1,.string h2,.string h3]:Array Value).toList))
   have SB2:=Lib.hid (SB.out _ d2 x.2.1 x.2.2 (KB.out.elseA (show d2 ≠ b2 by have h:=lo2; first | omega | (have:=lo2.out; omega)) 0 (#[.slice (some ⟨d1,0,none⟩) m1 x.1.1,.slice (some ⟨d2,0,none⟩) m2 x.2.1,.string h0,.string h1,.string h2,.string h3]:Array Value).toList))
   clear K2b BB KA lo1 KB lo2
   dsimp only [List.toList_toArray,setAll,Nat.zero_add,Nat.reduceAdd] at KF BF SA2 SB2
   gi_wp2
   go_wp2
   have c0:=KF.out.at_ 0 _ rfl
   have c1:=KF.out.at_ 1 _ rfl
   have c2:=KF.out.at_ 2 _ rfl
   have c3:=KF.out.at_ 3 _ rfl
   have c4:=KF.out.at_ 4 _ rfl
   have c5:=KF.out.at_ 5 _ rfl
   exact bodyPost_ret (v:=.agg #[.slice (some ⟨d1,0,none⟩) m1 x.1.1,.slice (some ⟨d2,0,none⟩) m2 x.2.1,.string h0,.string h1,.string h2,.string h3]) (by simp [results,Tryz.results14, go_sem,c0,c1,c2,c3,c4,c5]) rfl ⟨_,_,by rw [E0.out,E1.out,E2.out,E3.out],HQ.out _ _ _ SA2.out SB2.out,BF.out⟩

end Go.Proofs.YthhkmihjnnfpgaaGreatDoor
