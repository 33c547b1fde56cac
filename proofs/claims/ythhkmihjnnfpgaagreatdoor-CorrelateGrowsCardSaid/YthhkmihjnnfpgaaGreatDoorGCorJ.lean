/- Correlate: the iterator steps, loops over iterators, tables of texts. -/
import Derived.Test.YthhkmihjnnfpgaaGreatDoorGCorF
import Derived.Test.YthhkmihjnnfpgaaGreatDoorGMag
/- The iterator of the possible steps. -/
namespace Go.Proofs.YthhkmihjnnfpgaaGreatDoor
set_option linter.all false
open Go.RowKit

def KeptC (S:Nat→TypeId→Prop) (W W':World):Prop:=∀ (g:Nat) (cs:Array Value) (t:TypeId) (fz:Nat × Nat),S g t→W.heap[g]?=some (.cells cs t fz)→W'.heap[g]?=some (.cells cs t fz)
theorem KeptC.refl (S:Nat→TypeId→Prop) (W:World):KeptC S W W:=fun _ _ _ _ _ h=>h
theorem KeptC.trans {S:Nat→TypeId→Prop} {A B C:World} (h:KeptC S A B) (k:KeptC S B C):KeptC S A C:=fun g cs t fz hg e=>k g cs t fz hg (h g cs t fz hg e)
theorem KeptC.put {S:Nat→TypeId→Prop} {W:World} {l:Nat} {o:Obj} (o':Obj) (hl:W.heap[l]?=some o) (ho:o.isCells=false):KeptC S W (W.putObj l o'):=fun g cs t fz _ e=>by
 refine (World.putObj_heap_other (fun e2=>?_)).trans e
 subst e2
 rw [hl] at e
 injection e with e
 subst e
 cases ho
theorem KeptC.below {S:Nat→TypeId→Prop} {W W':World} (k:Below W.heap.size W W'):KeptC S W W':=fun g _ _ _ _ e=>(k.block g (Array.getElem?_eq_some_iff.1 e).1).trans e
theorem KeptC.mono {S T:Nat→TypeId→Prop} {W W':World} (k:KeptC S W W') (h:∀ g t,T g t→S g t):KeptC T W W':=fun g cs t fz hg e=>k g cs t fz (h g t hg) e
theorem KeptC.cell {S:Nat→TypeId→Prop} {W W':World} (k:KeptC S W W') {p:Addr} {v:Value} (hp:∀ t,S p.block t) (h:W.cell? p=some v):W'.cell? p=some v:=by
 cases ho:W.heap[p.block]? with
 | none=>unfold World.cell? at h; rw [ho] at h; simp at h
 | some o =>
  cases o with
  | cells cs t fz =>
   have e:=k _ cs t fz (hp t) ho
   exact (World.cell?_of_block (w:=W) (e.trans ho.symm)).trans h
  | _=>unfold World.cell? at h; rw [ho] at h; simp at h
theorem Blk.keptC {S:Nat→TypeId→Prop} {W W':World} {b:Nat} {cs:Array Value} {T:TypeId} (h:Blk W b cs T) (k:KeptC S W W') (hb:S b T):Blk W' b cs T:=k b _ _ _ hb h
theorem var_kept {w W:World} {name:String} {vs:Array Value} (h:w.var? Tryz.prog name=some vs) (hb:KeptC (fun g _=>g < w.heap.size) w W):W.var? Tryz.prog name=some vs:=by
 unfold World.var? at *
 cases hg:Tryz.prog.globalNamed name with
 | none=>simp [hg] at h
 | some g =>
  simp only [hg,Option.bind_some] at h ⊢
  have hlt:g < w.heap.size:=by
   rcases Nat.lt_or_ge g w.heap.size with h' | h'
   ·exact h'
   ·rw [Array.getElem?_eq_none h'] at h; simp at h
  cases ho:w.heap[g]? with
  | none=>rw [ho] at h; simp at h
  | some o =>
   cases o with
   | cells cs t fz =>
    rw [hb g cs t fz hlt ho]
    rw [ho] at h
    exact h
   | _=>rw [ho] at h; simp at h
theorem Env.kept {w W:World} (h:Env w) (k:KeptC (fun g _=>g < w.heap.size) w W):Env W:=by
 refine ⟨var_kept h.1 k,?_⟩
 obtain ⟨m,hm⟩:=h.2
 exact ⟨m,k.cell (p:=⟨0, 0,none⟩) (fun _=>cell_block hm) hm⟩
theorem SAt.kept {α:Type} {f:α→List Value} {sz:Nat} {w W:World} {v:Value} {us:List α} (h:SAt f sz w v us) (k:KeptC (fun g _=>g < w.heap.size) w W) (hs:w.heap.size≤W.heap.size):SAt f sz W v us:=by
 obtain ⟨a,c,h1,h2⟩:=h
 refine ⟨a,c,h1,fun i t ht=>?_⟩
 obtain ⟨d,o,e1,e2,e3⟩:=h2 i t ht
 exact ⟨d,o,e1,Nat.lt_of_lt_of_le e2 hs,fun j u hu=>k.cell (p:=⟨d,_,none⟩) (fun _=>e2) (e3 j u hu)⟩

structure SK (q:CQ) (i j:Nat) where
 k:Nat
 h1:1≤k∧k≤5
 h2:okS q k i j
def mkSK (q:CQ) (i j k:Nat):Option (SK q i j):=if h:(1≤k∧k≤5)∧okS q k i j then some ⟨k,h.1,h.2⟩ else none
def upS (q:CQ) (i j m:Nat):List (SK q i j):=(kinds.take m).filterMap (mkSK q i j)
theorem upS_next (q:CQ) (i j m:Nat) (hm:m < 5):upS q i j (m + 1)=upS q i j m ++ (mkSK q i j (m + 1)).toList:=by
 unfold upS
 have h:kinds.take (m + 1)=kinds.take m ++ [m + 1]:=by
  rcases (show m=0 ∨ m=1 ∨ m=2 ∨ m=3 ∨ m=4 by omega) with rfl | rfl | rfl | rfl | rfl <;> rfl
 rw [h,List.filterMap_append]
 congr 1
theorem upS_len (q:CQ) (i j m:Nat) (hm:m≤5):(upS q i j m).length≤m:=by
 unfold upS
 refine Nat.le_trans (List.length_filterMap_le _ _) ?_
 rw [List.length_take]
 omega
theorem upS_pre (q:CQ) (i j m:Nat) (hm:m≤5):upS q i j m <+: upS q i j 5:=by
 unfold upS
 have:kinds.take 5=kinds.take m ++ (kinds.take 5).drop m:=by
  rw [show kinds.take m=(kinds.take 5).take m by rw [List.take_take,Nat.min_eq_left hm],List.take_append_drop]
 rw [this,List.filterMap_append]
 exact List.prefix_append _ _
noncomputable def encS (q:CQ) (i j:Nat) (x:SK q i j):Array Value:=#[.agg #[.int .i64 x.k,.int .i64 i,.int .i64 j],.string (qT (cst q x.k i j))]

structure FarM (w0:World) (M:Nat→TypeId→Prop) (bs:List Nat) (ts:List TypeId):Prop where
 low:∀ g t,M g t→w0.heap.size≤g
 far:∀ g ∈ bs,∀ t ∈ ts,¬ M g t
structure StW (w0:World) (bq bi bj:Nat) (q:CQ) (sl sr:Value) (i j:Nat) (W:World):Prop where
 kept:KeptC (fun g _=>g < w0.heap.size) w0 W
 hb:w0.heap.size≤bq
 kq:Blk W bq #[sl,sr,.string (qT (2 * q.ch)),.string (qT (2 * q.mi)),.string (qT (2 * q.ga)),.string (qT (2 * q.re))] 32
 ki:Blk W bi #[.int .i64 i] 3
 kj:Blk W bj #[.int .i64 j] 3
section
variable {w0 W W':World} {bq bi bj:Nat} {q:CQ} {sl sr:Value} {i j:Nat}
theorem StW.size (h:StW w0 bq bi bj q sl sr i j W):w0.heap.size≤W.heap.size:=Nat.le_trans h.hb (Nat.le_of_lt h.kq.lt)
theorem StW.keep {M:Nat→TypeId→Prop} (h:StW w0 bq bi bj q sl sr i j W) (hM:FarM w0 M [bq,bi,bj] [32, 3]) (k:KeptC (fun g t=>¬ M g t) W W'):StW w0 bq bi bj q sl sr i j W' :=
 ⟨fun g cs t fz hg e=>k g cs t fz (fun hm=>by have:=hM.low g t hm; omega) (h.kept g cs t fz hg e),h.hb,h.kq.keptC k (hM.far _ (by simp) _ (by simp)),h.ki.keptC k (hM.far _ (by simp) _ (by simp)),h.kj.keptC k (hM.far _ (by simp) _ (by simp))⟩
theorem StW.below (h:StW w0 bq bi bj q sl sr i j W) (k:Below W.heap.size W W'):StW w0 bq bi bj q sl sr i j W' :=
 ⟨h.kept.trans (KeptC.below k),h.hb,h.kq.below k,h.ki.below k,h.kj.below k⟩
theorem StW.env (h:StW w0 bq bi bj q sl sr i j W) (he:Env w0):Env W:=he.kept h.kept
theorem StW.qat (h:StW w0 bq bi bj q sl sr i j W) (hq:QAt w0 sl sr q):QAt W sl sr q:=⟨hq.l.kept h.kept h.size,hq.r.kept h.kept h.size⟩
end
theorem abides_below {β:Type} {B:Nat} {J:β→World→Prop} (h:AbidesFrom B J) {s:β} {W W':World} (hs:J s W) (k:Below W.heap.size W W'):J s W' :=
 h s W W' none hs ⟨k.os,k.tape,k.output,k.size,fun g hg _=>k.block g hg⟩ (fun r e=>by cases e)

set_option maxRecDepth 100000 in
set_option maxHeartbeats 4000000 in
theorem steps_make (q:CQ) (sl sr:Value) (i j:Nat) (w:World) :
  Calls Tryz.prog 73 #[.agg #[sl,sr,.string (qT (2 * q.ch)),.string (qT (2 * q.mi)),.string (qT (2 * q.ga)),.string (qT (2 * q.re))],.int .i64 i,.int .i64 j] w fun e w'=>e=.returned (.func (.func 100) #[] #[.pointer (some ⟨w.heap.size + 1,0,none⟩),.pointer (some ⟨w.heap.size + 2,0,none⟩),.pointer (some ⟨w.heap.size,0,none⟩)])∧Below w.heap.size w w'∧w'.heap.size=w.heap.size + 3 ∧
   Blk w' w.heap.size #[sl,sr,.string (qT (2 * q.ch)),.string (qT (2 * q.mi)),.string (qT (2 * q.ga)),.string (qT (2 * q.re))] 32 ∧ Blk w' (w.heap.size + 1) #[.int .i64 i] 3 ∧ Blk w' (w.heap.size + 2) #[.int .i64 j] 3 := by
 have B:=Lib.hid (Below.refl w.heap.size w)
 have K1:=Lib.hid (Blk.fresh w #[sl,sr,.string (qT (2 * q.ch)),.string (qT (2 * q.mi)),.string (qT (2 * q.ga)),.string (qT (2 * q.re))] 32)
 have q1:=below_new w (.cells #[sl,sr,.string (qT (2 * q.ch)),.string (qT (2 * q.mi)),.string (qT (2 * q.ga)),.string (qT (2 * q.re))] 32)
 have hs1:(w.alloc (.cells #[sl,sr,.string (qT (2 * q.ch)),.string (qT (2 * q.mi)),.string (qT (2 * q.ga)),.string (qT (2 * q.re))] 32)).heap.size=w.heap.size + 1:=by simp
 have hW1:Hid ((w.alloc (.cells #[sl,sr,.string (qT (2 * q.ch)),.string (qT (2 * q.mi)),.string (qT (2 * q.ga)),.string (qT (2 * q.re))] 32))=(w.alloc (.cells #[sl,sr,.string (qT (2 * q.ch)),.string (qT (2 * q.mi)),.string (qT (2 * q.ga)),.string (qT (2 * q.re))] 32))):=Lib.hid rfl
 go_enter Tryz.func73, Tryz.ntmps73
 go_wp2
 go_ret
 refine ⟨rfl,?_,by simp,?_,?_,?_⟩
 ·exact ((below_new w _).trans ((below_new _ _).mono (by simp))).trans ((below_new _ _).mono (by simp; omega))
 ·exact ((Blk.fresh w _ _).below (below_new _ _)).below (below_new _ _)
 ·have h:=(Blk.fresh (w.alloc (.cells #[sl,sr,.string (qT (2 * q.ch)),.string (qT (2 * q.mi)),.string (qT (2 * q.ga)),.string (qT (2 * q.re))] 32)) #[.int .i64 i] 3)
  rw [hs1] at h
  exact h.below (below_new _ _)
 ·have h:=(Blk.fresh ((w.alloc (.cells #[sl,sr,.string (qT (2 * q.ch)),.string (qT (2 * q.mi)),.string (qT (2 * q.ga)),.string (qT (2 * q.re))] 32)).alloc (.cells #[.int .i64 i] 3)) #[.int .i64 j] 3)
  rw [World.size_alloc,hs1] at h
  exact h

set_option maxRecDepth 100000 in
set_option maxHeartbeats 4000000 in
theorem steps1_in (n:Nat) (q:CQ) (ok:OkQ q) (sl sr:Value) (i j:Nat) (hi:i≤q.L.length) (hj:j≤q.R.length) (w0:World) (he:Env w0) (hq:QAt w0 sl sr q) (bq bi bj l:Nat) (M:Nat→TypeId→Prop) (hM:FarM w0 M [bq,bi,bj] [32, 3]) (J Jx:List (SK q i j)→World→Prop) (W:World) (hJ:AbidesFrom W.heap.size J)
  (hY:∀ pre x W1,J pre W1→pre.length < 5→YieldAt Fence.wide (n - 1) Tryz.prog l (encS q i j x) W1 fun e W'=>(e=.returned (.bool true)∧J (pre ++ [x]) W'∧KeptC (fun g t=>¬ M g t) W1 W') ∨ (e=.returned (.bool false)∧Jx (pre ++ [x]) W'))
  (hS:StW w0 bq bi bj q sl sr i j W) (h0:J [] W) :
  CallsIn Fence.wide n Tryz.prog 100 #[.func (.yield l) #[] #[],.pointer (some ⟨bi,0,none⟩),.pointer (some ⟨bj,0,none⟩),.pointer (some ⟨bq,0,none⟩)] W fun e W'=>(∃ v,e=.returned v) ∧
   ((∃ ys,ys=upS q i j 5∧J ys W') ∨ (∃ pre,pre <+: upS q i j 5∧Jx pre W')):=by
 have HS:=Lib.hid hS
 have HE:=Lib.hid he
 have HQ:=Lib.hid hq
 have HY:=Lib.hid hY
 have HJ:=Lib.hid hJ
 have hii:i≤6:=Nat.le_trans hi ok.hl
 have hjj:j≤6:=Nat.le_trans hj ok.hr
 have HCS:Hid (∀ (k:Nat) (W1:World),1≤k∧k≤5→StW w0 bq bi bj q sl sr i j W1→Ret Tryz.prog W1 61 #[.agg #[sl,sr,.string (qT (2 * q.ch)),.string (qT (2 * q.mi)),.string (qT (2 * q.ga)),.string (qT (2 * q.re))],.agg #[.int .i64 k,.int .i64 i,.int .i64 j]] (.int .i64 (errS q k i j))):=Lib.hid (fun k W1 hk hs=>cstep_any q ok k i j hk hi hj sl sr W1 (hs.qat hq))
 have HCO:Hid (∀ (k:Nat) (W1:World),1≤k∧k≤5→okS q k i j→StW w0 bq bi bj q sl sr i j W1→Ret Tryz.prog W1 62 #[.agg #[sl,sr,.string (qT (2 * q.ch)),.string (qT (2 * q.mi)),.string (qT (2 * q.ga)),.string (qT (2 * q.re))],.agg #[.int .i64 k,.int .i64 i,.int .i64 j]] (.string (qT (cst q k i j)))):=Lib.hid (fun k W1 hk ho hs=>cost_any q ok k i j hk ho sl sr W1 (hs.env he) (hs.qat hq))
 clear hS he hq hY hJ ok
 refine callsIn_of_wp Tryz.func100 rfl trivial ?_ rfl
 simp only [Tryz.ntmps100, List.size_toArray,List.length_cons,List.length_nil,Nat.reduceAdd,Nat.reduceSub,Array.replicate_succ,Array.replicate_zero,List.push_toArray,List.append_toArray,List.nil_append,List.cons_append]
 refine wpIn_wide.2 ?_
 go_wp2
 go_loopw [5] (fun kv wr=>∃ m:Nat,m≤5∧kv=.int .i64 ((m + 1:Nat):Int)∧J (upS q i j m) wr∧StW w0 bq bi bj q sl sr i j wr) (fun kv _=>7 - (intOf kv).toNat)
 case atStart=>exact ⟨0,Nat.zero_le _,rfl,h0,HS.out⟩
 case round =>
  obtain ⟨m,hm,rfl,hJs,hS⟩:=hrel
  by_cases hlt:m < 5
  ·obtain ⟨k,hk⟩:∃ k,m + 1=k:=⟨_,rfl⟩
   have hk1:1≤k∧k≤5:=by omega
   have hup:=upS_next q i j m hlt
   have hln:=upS_len q i j m hm
   have hle:=upS_pre q i j (m + 1) (by omega)
   rw [hk] at hup hle ⊢
   have hk5:k≤5:=hk1.2
   have wk:IntKind.i64.wrap ((k:Int) + 1)=((k + 1:Nat):Int):=by rw [IntWalk.i64_in _ (by omega)]; rfl
   have SS:=Lib.hid hS
   have y0:=hS.ki.at_ 0 _ rfl
   have z0:=hS.kj.at_ 0 _ rfl
   clear hS
   go_upto_region 4 with (fail)
   have K6:=Lib.hid (Blk.fresh wr #[.int .i64 k,.int .i64 i,.int .i64 j] 56)
   have qq:=below_new wr (.cells #[.int .i64 k,.int .i64 i,.int .i64 j] 56)
   replace SS:=Lib.hid (SS.out.below qq)
   have J1:=Lib.hid (abides_below HJ.out hJs qq)
   clear y0 z0 qq hJs
   generalize (wr.alloc (.cells #[.int .i64 k,.int .i64 i,.int .i64 j] 56))=W1 at *
   generalize wr.heap.size=b6 at *
   have KQ:=Lib.hid SS.out.kq
   replace HCS:=Lib.hid (HCS.out k W1 hk1 SS.out)
   by_cases ho:okS q k i j
   ·replace HCO:=Lib.hid (HCO.out k W1 hk1 ho SS.out)
    have he0:=(errS_ok q k i j).2 ho
    have HUP:=Lib.hid (hup.trans (show _=upS q i j m ++ [⟨k,hk1,ho⟩] from by unfold mkSK; rw [dif_pos ⟨hk1,ho⟩]; rfl))
    have HYY:=Lib.hid (fun W9 (h:J (upS q i j m) W9)=>HY.out (upS q i j m) ⟨k,hk1,ho⟩ W9 h (by omega))
    rw [he0] at HCS
    unfold encS at HYY
    dsimp only at HYY
    generalize qT (cst q k i j)=co at *
    generalize qT (2 * q.ch)=c1 at *
    generalize qT (2 * q.mi)=c2 at *
    generalize qT (2 * q.ga)=c3 at *
    generalize qT (2 * q.re)=c4 at *
    clear hup he0
    refine wpIn_wide.1 (wpIn_phase (n:=n) (.inl rfl) 12 10 (.v 15 (.agg #[sl,sr,.string c1,.string c2,.string c3,.string c4]) :: .v 16 (.agg #[.int .i64 k,.int .i64 i,.int .i64 j]) :: .v 17 (.int .i64 0) :: .v 18 (.bool true) :: .v 19 (.bool true) :: .v 20 (.func (.yield l) #[] #[]) :: .v 21 (.agg #[.int .i64 k,.int .i64 i,.int .i64 j]) :: .v 22 (.agg #[sl,sr,.string c1,.string c2,.string c3,.string c4]) :: .v 23 (.agg #[.int .i64 k,.int .i64 i,.int .i64 j]) :: .v 24 (.string co) :: []) [] [⟨bq,#[sl,sr,.string c1,.string c2,.string c3,.string c4], 32, none⟩,⟨b6,#[.int .i64 k,.int .i64 i,.int .i64 j], 56, none⟩] [] [] [] [] [] (by kernel_rfl) (by intro hL; obtain ⟨_,_,hL⟩:=hL; obtain ⟨⟨v,hv⟩,_⟩:=hL; cases hv) (Below.refl _ _) ⟨KQ.out,K6.out,trivial⟩ trivial ⟨ld 0 0,ld 1 0,cl HCS.out,?_,pu,pu,ld 1 0,ld 0 0,ld 1 0,cl HCO.out,trivial⟩ ?_)
    ·intro L a U ho J hn dd KK kk; refine .free rfl ?_; have r2:=J.read 2 rfl (dd.get 2 rfl); go_simp; exact kk.out _ _ (J.st 3 rfl rfl)
    rintro σ W9 _ ⟨KQ9,K69,_⟩ _ _ B9
    simp only [slotsOf,finX,nval,nvalN,nvalA,Nat.reduceBEq,cond_true,cond_false,putAll,Act.put,List.setIfInBounds_toArray,List.set_cons_succ,List.set_cons_zero]
    simp only [List.drop_succ_cons,List.drop_zero]
    obtain ⟨fn,tmps,assign,body,hy,hR⟩:=HYY.out W9 (abides_below HJ.out J1.out B9.out)
    have SS9:=Lib.hid (SS.out.below B9.out)
    clear HYY HCS HCO KQ K6 KQ9 K69 J1 SS B9
    gi_wp2
    refine ⟨fun h=>(by cases h),hR.mono ?_⟩
    clear hy hR
    rintro e W3 (⟨rfl,hJ3,hk3⟩ | ⟨rfl,hJx3⟩)
    ·have S3:=Lib.hid (SS9.out.keep hM hk3)
     rw [← HUP.out] at hJ3
     clear hk3
     gi_wp2
     go_wp2
     exact ⟨⟨k,hk5,by go_num,hJ3,S3.out⟩,by simp [intOf]; omega⟩
    ·rw [← HUP.out] at hJx3
     gi_wp2
     go_wp2
     refine bodyPost_ret (results_none rfl _ _ _) rfl ?_
     exact ⟨⟨_,rfl⟩,.inr ⟨_,hle,hJx3⟩⟩
   ·have hne:errS q k i j ≠ 0:=fun h=>ho ((errS_ok q k i j).1 h)
    have HUP:=Lib.hid (hup.trans (show _=upS q i j m from by unfold mkSK; rw [dif_neg (fun h=>ho h.2)]; exact List.append_nil _))
    generalize errS q k i j=er at *
    have e0:(er == 0)=false:=by rw [beq_eq_false_iff_ne]; exact hne
    generalize qT (2 * q.ch)=c1 at *
    generalize qT (2 * q.mi)=c2 at *
    generalize qT (2 * q.ga)=c3 at *
    generalize qT (2 * q.re)=c4 at *
    clear hup HCO hne HY
    refine wp_tab (.v 15 (.agg #[sl,sr,.string c1,.string c2,.string c3,.string c4]) :: .v 16 (.agg #[.int .i64 k,.int .i64 i,.int .i64 j]) :: .v 17 (.int .i64 er) :: .v 18 (.bool false) :: .v 19 (.bool false) :: .v 20 undef :: .v 21 undef :: .v 22 undef :: .v 23 undef :: .v 24 undef :: .v 25 undef :: .v 26 undef :: .v 27 (.bool false) :: []) [] [⟨bq,#[sl,sr,.string c1,.string c2,.string c3,.string c4], 32, none⟩,⟨b6,#[.int .i64 k,.int .i64 i,.int .i64 j], 56, none⟩] [] [] [] [] [] (by kernel_rfl) (Below.refl _ _) ⟨KQ.out,K6.out,trivial⟩ trivial ⟨ld 0 0,ld 1 0,cl HCS.out,?_,pu,sk,sk,sk,sk,sk,sk,sk,pu,trivial⟩ ?_
    ·intro L a U ho J hn dd KK kk; refine .free rfl ?_; have r2:=J.read 2 rfl (dd.get 2 rfl); go_simp; exact kk.out _ _ (J.st 3 rfl rfl)
    rintro σ W9 _ ⟨KQ9,K69,_⟩ _ _ B9
    simp only [slotsOf,finX,nval,nvalN,nvalA,Nat.reduceBEq,cond_true,cond_false,putAll,Act.put,List.setIfInBounds_toArray,List.set_cons_succ,List.set_cons_zero]
    have SS9:=Lib.hid (SS.out.below B9.out)
    have J9:=abides_below HJ.out J1.out B9.out
    rw [← HUP.out] at J9
    clear HCS KQ K6 KQ9 K69 J1 SS B9
    go_wp2
    exact ⟨⟨k,hk5,by go_num,J9,SS9.out⟩,by simp [intOf]; omega⟩
  ·have hm5:m=5:=by omega
   subst hm5
   go_wp2
   go_end0
   exact ⟨⟨_,rfl⟩,.inl ⟨_,rfl,hJs⟩⟩
theorem steps_stops (n:Nat) (q:CQ) (ok:OkQ q) (sl sr:Value) (i j:Nat) (hi:i≤q.L.length) (hj:j≤q.R.length) (w0:World) (he:Env w0) (hq:QAt w0 sl sr q) (bq bi bj:Nat) (M:Nat→TypeId→Prop) (hM:FarM w0 M [bq,bi,bj] [32, 3]) (w:World) (hS:StW w0 bq bi bj q sl sr i j w) :
  SeqStopsK Fence.wide n Tryz.prog 100 #[.pointer (some ⟨bi,0,none⟩),.pointer (some ⟨bj,0,none⟩),.pointer (some ⟨bq,0,none⟩)] (encS q i j) (KeptC (fun g t=>¬ M g t)) (fun ys=>ys=upS q i j 5) (fun pre=>pre <+: upS q i j 5) 5 w :=
 fun l J Jx W hW hJ _ hY h0=>steps1_in n q ok sl sr i j hi hj w0 he hq bq bi bj l M hM J Jx W hJ hY (hS.below hW) h0

end Go.Proofs.YthhkmihjnnfpgaaGreatDoor

/- A loop over an iterator that itself loops over one: the law of the loop where the iterator may keep objects of its own across a round. -/
namespace Go.Proofs.YthhkmihjnnfpgaaGreatDoor
set_option linter.all false
open Go.RowKit

def SeqJ {α:Type} (n:Nat) (P:Program) (g:Nat) (lb:Array Value) (encs:α→Array Value) (Kp:World→World→Prop) (S Sp:List α→Prop) (N:Nat) (w:World):Prop :=
 ∀ (l:Nat) (J Jx:List α→World→Prop) (W:World),Below w.heap.size w W→w.heap.size + 2≤W.heap.size→OwnFrom W.heap.size J→OwnFrom W.heap.size Jx →
  (∀ pre x W1,J pre W1→pre.length < N→YieldAt Fence.wide (n - 1) P l (encs x) W1 fun e W'=>KeepsFrom (w.heap.size + 2) W1 W' ∧
   ((e=.returned (.bool true)∧J (pre ++ [x]) W'∧Kp W1 W') ∨ (e=.returned (.bool false)∧Jx (pre ++ [x]) W'))) →
  J [] W →
  CallsIn Fence.wide n P g (#[.func (.yield l) #[] #[]] ++ lb) W fun e W'=>(∃ v,e=.returned v)∧((∃ xs,S xs∧J xs W') ∨ (∃ pre,Sp pre∧Jx pre W'))
theorem ownFrom_abides {β:Type} {B:Nat} {J:β→World→Prop} (h:OwnFrom B J):AbidesFrom B J:=fun s W W' row hs hg hr =>
 h s W W' row hs hg (fun r e=>⟨(hr r e).1,by obtain ⟨o,ho,hw⟩:=(hr r e).2; exact ⟨o,ho,Obj.not_cells_of_walk hw⟩⟩)
theorem SeqJ.of {α:Type} {n:Nat} {P:Program} {g:Nat} {lb:Array Value} {encs:α→Array Value} {Kp:World→World→Prop} {S Sp:List α→Prop} {N:Nat} {w:World} (h:SeqStopsK Fence.wide n P g lb encs Kp S Sp N w):SeqJ n P g lb encs Kp S Sp N w :=
 fun l J Jx W hW _ hJ hJx hY h0=>h l J Jx W hW (ownFrom_abides hJ) (ownFrom_abides hJx) (fun pre x W1 hj hl=>(hY pre x W1 hj hl).mono (fun _ _ h=>h.2)) h0

theorem keepsFrom_put {l:Nat} (W:World) (o:Obj):KeepsFrom (l + 1) W (W.putObj l o):=⟨by simp,fun k o hk h _=>(World.putObj_heap_other (by omega)).trans h⟩
set_option maxHeartbeats 1000000 in
theorem wide_loop {α:Type} {n:Nat} {P:Program} {g:Operand} {ps:Array Tmp} {assign body:Code} {Q:Exit→Act→World→Prop} {a:Act} {w:World}
  {gf:Nat} {lb:Array Value} (hg:a.eval g=.func (.func gf) #[] lb) (eg:∀ args w,(callFunc gf args).run P w=.ok (.enter gf args) w)
  {encs:α→Array Value} {Kp:World→World→Prop} {S Sp:List α→Prop} {N:Nat} (hseq:SeqJ (n - 1) P gf lb encs Kp S Sp N w)
  (hKt:∀ {A B C:World},Kp A B→Kp B C→Kp A C) (hKb:∀ (W:World) (o o':Obj),W.heap[w.heap.size + 1]?=some o→o.isCells=false→Kp W (W.putObj (w.heap.size + 1) o')) (hps:∀ x,(encs x).size=ps.size)
  (I:List α→World→Prop) (Ix:Code→List α→World→Prop) (hI:OwnFrom w.heap.size I) (hIx:∀ c,OwnFrom w.heap.size (Ix c)) (h0:I [] w) (Ax:List α→α→Act→World→Prop) (hAx:∀ pre x a',OwnFrom w.heap.size (fun (_:Unit) W=>Ax pre x a' W))
  (hassign:∀ (l:Nat) (pre:List α) (x:α) (W:World) (K:Act→World→Prop),I pre W→(∀ a' W',KeepsFrom w.heap.size W W'→Kp W W'→Ax pre x a' W'→K a' W') →
   assign.wpIn (Fence.wide.inRound l) (n - 1 - 1) P (Exit.then K (fun _ _ _=>False)) { tmps:=(ps.zip (encs x)).foldl (fun t (p,v)=>t.setIfInBounds p v) a.tmps,defers:=[] } W)
  (hbody:∀ (l:Nat) (pre:List α) (x:α) (a':Act) (W:World),Ax pre x a' W→pre.length < N→body.wpIn (Fence.wide.inRound l) (n - 1 - 1) P (ownPostG w.heap.size Kp I Ix (pre ++ [x]) W) a' W)
  (hdone:∀ (D:Nat) (xs:List α) (W:World),w.heap.size≤D→S xs→I xs W→W.heap[D]?=some (.deferred (some []))→Q .normal { a with defers:={ target:=.collected D,args:=#[] } :: a.defers } W)
  (hstop:∀ (D:Nat) (c:Code) (pre:List α) (W:World),w.heap.size≤D→Sp pre→Ix c pre W→W.heap[D]?=some (.deferred (some []))→c.wp P Q { a with defers:={ target:=.collected D,args:=#[] } :: a.defers } W) :
  (Code.rangeFunc g ps assign body).wp P Q a w:=by
 refine (wpIn_wide (n:=n)).1 (wpIn_rangeFunc ?_)
 intro fn hfn
 obtain ⟨rec,hrec⟩:∃ rec:LoopState→Option Code→Loop,rec=fun st pe=>{ state:=st,pending:=pe,fn,tmps:=a.tmps,params:=ps,assign,body,defers:=w.heap.size }:=⟨_,rfl⟩
 obtain ⟨W1,hW1⟩:∃ W1,(w.alloc (.deferred (some []))).alloc (.loop (rec .ready none))=W1:=⟨_,rfl⟩
 have hsz:W1.heap.size=w.heap.size + 2:=by rw [← hW1]; simp
 have hL1:W1.heap[w.heap.size + 1]?=some (.loop (rec .ready none)):=by
  have:=World.alloc_heap_new (w.alloc (.deferred (some []))) (.loop (rec .ready none))
  rw [World.size_alloc,hW1] at this
  exact this
 have hK1:W1.heap[w.heap.size]?=some (.deferred (some [])):=by
  rw [← hW1]; exact (Below.heap_alloc _ _ _ (by simp)).trans (World.alloc_heap_new w _)
 have hI1:I [] W1:=by rw [← hW1]; exact hI.alloc _ (hI.alloc _ h0)
 have hb1:Below w.heap.size w W1:=by
  rw [← hW1]; exact ((Below.refl _ w).alloc (Nat.le_refl _) _).alloc (by simp) _
 refine ⟨w.heap.size + 1,[{ target:=.collected w.heap.size,args:=#[] }],W1,{ target:=.fn (.func gf) lb,args:=#[.func (.yield (w.heap.size + 1)) #[] #[]] },W1,gf,
  #[.func (.yield (w.heap.size + 1)) #[] #[]] ++ lb,W1,?_,?_,?_,?_,fun h=>(by cases h),?_⟩
 ·rw [← hW1,hrec]; exact run_enterLoop_outer _ _ _ _ _
 ·simp only [resolve,hg]
  simp [go_sem]
 ·intro _ _; exact trivial
 ·simp [invoke,go_sem,eg]
 ·have own:∀ {A B:World} {row:Option Nat} {k:Nat} {o:Obj},A.heap[k]?=some o→o.isCells=false→A.grownBy B row→(∀ r,row=some r→W1.heap.size≤r∧∃ o:Obj,A.heap[r]?=some o∧o.isCells=false)→k < W1.heap.size→B.heap[k]?=some o :=
   fun hk _ hg' hr hlt=>(hg'.block _ (Array.getElem?_eq_some_iff.1 hk).1 (fun e=>by have:=(hr _ e.symm).1; omega)).trans hk
  have low:∀ {A:World} {row:Option Nat},(∀ r,row=some r→W1.heap.size≤r∧∃ o:Obj,A.heap[r]?=some o∧o.isCells=false)→(∀ r,row=some r→w.heap.size≤r∧∃ o:Obj,A.heap[r]?=some o∧o.isCells=false) :=
   fun hr r e=>⟨by have:=(hr r e).1; omega,(hr r e).2⟩
  refine (hseq (w.heap.size + 1)
   (fun pre W=>I pre W∧W.heap[w.heap.size + 1]?=some (.loop (rec .ready none))∧W.heap[w.heap.size]?=some (.deferred (some [])))
   (fun pre W=>∃ c,Ix c pre W∧W.heap[w.heap.size + 1]?=some (.loop (rec .done (some c)))∧W.heap[w.heap.size]?=some (.deferred (some [])))
   W1 hb1 (by omega)
   (fun s A B row hs hg' hr=>⟨hI s A B row hs.1 hg' (low hr),own hs.2.1 rfl hg' hr (by omega),own hs.2.2 rfl hg' hr (by omega)⟩)
   (fun s A B row hs hg' hr=>by
    obtain ⟨c,hc,hl,hk⟩:=hs
    exact ⟨c,hIx c s A B row hc hg' (low hr),own hl rfl hg' hr (by omega),own hk rfl hg' hr (by omega)⟩)
   ?_ ⟨hI1,hL1,hK1⟩).mono ?_
  ·rintro pre x W ⟨hi,hl,hk⟩ hlen
   have hy:=run_yield (P:=P) (args:=encs x) hl (by rw [hrec]; exact hps x)
   rw [hrec] at hy
   refine ⟨fn,_,assign,body,hy,roundIn_of_wpIn hfn (hassign _ pre x W _ hi ?_)⟩
   clear hy
   intro a' V hkf hkp hax
   have hlV:=hkf.same _ _ (by omega) hl rfl
   have hkV:=hkf.same _ _ (Nat.le_refl _) hk rfl
   have hltV:w.heap.size + 1 < V.heap.size:=(Array.getElem?_eq_some_iff.1 hlV).1
   refine ⟨_,run_beginRound hlV (by rw [hrec]),?_⟩
   obtain ⟨U,hU⟩:∃ U,V.putObj (w.heap.size + 1) (.loop { rec .ready none with state:=.busy })=U:=⟨_,rfl⟩
   have hl2:U.heap[w.heap.size + 1]?=some (.loop { rec .ready none with state:=.busy }):=by rw [← hU]; exact World.putObj_heap_same hltV
   have hk2:U.heap[w.heap.size]?=some (.deferred (some [])):=by rw [← hU]; exact (World.putObj_heap_other (by omega)).trans hkV
   have hkU:KeepsFrom (w.heap.size + 2) W U:=by rw [← hU]; exact (KeepsFrom.mono hkf (by omega)).trans (keepsFrom_put V _)
   have hw2:Kp V U:=by rw [← hU]; exact hKb _ _ _ hlV rfl
   have hax2:Ax pre x a' U:=by rw [← hU]; exact (hAx pre x a').putObj (s:=()) _ hax (by omega) hlV rfl
   show body.wpIn _ _ _ _ a' (V.putObj (w.heap.size + 1) (.loop { rec .ready none with state:=.busy }))
   rw [hU]
   clear hU
   refine wpIn_mono (hbody _ pre x a' U hax2 hlen) ?_
   have fin:∀ (jump:Option Code) (T:World),KeepsFrom w.heap.size U T →
     (Instr.endRound (w.heap.size + 1) jump).run P T=.ok (.bool jump.isNone) (T.putObj (w.heap.size + 1) (.loop (rec (if jump.isNone then .ready else .done) jump))) ∧
     T.heap[w.heap.size + 1]?=some (.loop { rec .ready none with state:=.busy }) ∧
     (T.putObj (w.heap.size + 1) (.loop (rec (if jump.isNone then .ready else .done) jump))).heap[w.heap.size + 1]?=some (.loop (rec (if jump.isNone then .ready else .done) jump)) ∧
     (T.putObj (w.heap.size + 1) (.loop (rec (if jump.isNone then .ready else .done) jump))).heap[w.heap.size]?=some (.deferred (some [])):=fun jump T hkT=>by
    have hlT:=hkT.same _ _ (by omega) hl2 rfl
    have hr:=run_endRound (P:=P) jump hlT
    rw [hrec] at hr ⊢
    exact ⟨hr,by rw [hrec] at hlT; exact hlT,World.putObj_heap_same (Array.getElem?_eq_some_iff.1 hlT).1,(World.putObj_heap_other (by omega)).trans (hkT.same _ _ (Nat.le_refl _) hk2 rfl)⟩
   rintro e a3 T hp
   have kk:KeepsFrom w.heap.size U T→∀ o,KeepsFrom (w.heap.size + 2) W (T.putObj (w.heap.size + 1) o):=fun h o=>(hkU.trans (KeepsFrom.mono h (by omega))).trans (keepsFrom_put T o)
   cases e with
   | normal =>
    obtain ⟨hkT,hkpT,hiT⟩:=hp
    obtain ⟨hr,hl3,hl4,hk4⟩:=fin none T hkT
    exact ⟨_,_,hr,kk hkT _,.inl ⟨rfl,⟨hI.putObj _ hiT (by omega) hl3 rfl,hl4,hk4⟩,hKt hkp (hKt (hKt hw2 hkpT) (hKb _ _ _ hl3 rfl))⟩⟩
   | ret =>
    obtain ⟨hr,hl3,hl4,hk4⟩:=fin (some .ret) T hp.1
    exact ⟨_,_,hr,kk hp.1 _,.inr ⟨rfl,.ret,(hIx _).putObj _ hp.2 (by omega) hl3 rfl,hl4,hk4⟩⟩
   | exit id =>
    obtain ⟨hr,hl3,hl4,hk4⟩:=fin (some (.exit id)) T hp.1
    exact ⟨_,_,hr,kk hp.1 _,.inr ⟨rfl,.exit id,(hIx _).putObj _ hp.2 (by omega) hl3 rfl,hl4,hk4⟩⟩
   | goto t =>
    obtain ⟨hr,hl3,hl4,hk4⟩:=fin (some (.goto t)) T hp.1
    exact ⟨_,_,hr,kk hp.1 _,.inr ⟨rfl,.goto t,(hIx _).putObj _ hp.2 (by omega) hl3 rfl,hl4,hk4⟩⟩
   | panic ch=>exact hp.elim
   | outgrown=>exact hp.elim
  ·rintro e T ⟨⟨v,rfl⟩,(⟨xs,hS,hi,hl,hk⟩ | ⟨pre,hSp,c,hi,hl,hk⟩)⟩
   ·exact ⟨none,_,by have:=run_endLoop (P:=P) hl (by rw [hrec]; simp); rw [hrec] at this; exact this,hdone _ xs _ (Nat.le_refl _) hS (hI.putObj _ hi (by omega) hl rfl) ((World.putObj_heap_other (by omega)).trans hk)⟩
   ·exact ⟨some c,_,by have:=run_endLoop (P:=P) hl (by rw [hrec]; simp); rw [hrec] at this; exact this,wpIn_wide.2 (hstop _ c pre _ (Nat.le_refl _) hSp ((hIx c).putObj _ hi (by omega) hl rfl) ((World.putObj_heap_other (by omega)).trans hk))⟩

end Go.Proofs.YthhkmihjnnfpgaaGreatDoor

/- Tables of texts in memory. -/
namespace Go.Proofs.YthhkmihjnnfpgaaGreatDoor
set_option linter.all false
open Go.RowKit

structure TabV (W:World) (ob:Nat) (rb:List Nat) (M:Nat) (c:Nat→Nat→Value) (T1 T2:TypeId):Prop where
 out:Blk W ob (rb.map (fun b=>Value.slice (some ⟨b,0,none⟩) M M)).toArray T1
 row:∀ (i:Nat) (h:i < rb.length),Blk W rb[i] ((List.range M).map (fun j=>c i j)).toArray T2
 far:ob ∉ rb
 nd:rb.Nodup
abbrev TabT (W:World) (ob:Nat) (rb:List Nat) (M:Nat) (c:Nat→Nat→ByteArray) (T1 T2:TypeId):Prop:=TabV W ob rb M (fun i j=>.string (c i j)) T1 T2
def updV (c:Nat→Nat→Value) (i j:Nat) (v:Value) (a b:Nat):Value:=if a=i∧b=j then v else c a b
section
variable {W W':World} {ob M:Nat} {rb:List Nat} {c:Nat→Nat→Value} {T1 T2:TypeId}
theorem TabV.cell1 (h:TabV W ob rb M c T1 T2) (i:Nat) (hi:i < rb.length):W.cell? ⟨ob,i,none⟩=some (.slice (some ⟨rb[i],0,none⟩) M M):=by
 refine h.out.atL i _ ?_
 rw [List.getElem?_map,List.getElem?_eq_getElem hi]
 rfl
theorem TabV.cell2 (h:TabV W ob rb M c T1 T2) (i j:Nat) (hi:i < rb.length) (hj:j < M):W.cell? ⟨rb[i],j,none⟩=some (c i j):=by
 refine (h.row i hi).atL j _ ?_
 rw [List.getElem?_map,List.getElem?_range hj]
 rfl
theorem TabV.free (h:TabV W ob rb M c T1 T2) (i j:Nat) (hi:i < rb.length):W.frozen? ⟨rb[i],j,none⟩=false:=(h.row i hi).free j
theorem TabV.below (h:TabV W ob rb M c T1 T2) (k:Below W.heap.size W W'):TabV W' ob rb M c T1 T2:=⟨h.out.below k,fun i hi=>(h.row i hi).below k,h.far,h.nd⟩
theorem TabV.keptC {S:Nat→TypeId→Prop} (h:TabV W ob rb M c T1 T2) (k:KeptC S W W') (h1:S ob T1) (h2:∀ g ∈ rb,S g T2):TabV W' ob rb M c T1 T2 :=
 ⟨h.out.keptC k h1,fun i hi=>(h.row i hi).keptC k (h2 _ (List.getElem_mem hi)),h.far,h.nd⟩
theorem TabV.lt1 (h:TabV W ob rb M c T1 T2):ob < W.heap.size:=h.out.lt
theorem TabV.lt2 (h:TabV W ob rb M c T1 T2) (g:Nat) (hg:g ∈ rb):g < W.heap.size:=by
 obtain ⟨i,hi,rfl⟩:=List.getElem_of_mem hg
 exact (h.row i hi).lt
theorem TabV.congr {c':Nat→Nat→Value} (h:TabV W ob rb M c T1 T2) (e:∀ i j,i < rb.length→j < M→c i j=c' i j):TabV W ob rb M c' T1 T2:=by
 refine ⟨h.out,fun i hi=>?_,h.far,h.nd⟩
 have h2:(List.range M).map (fun j=>c i j)=(List.range M).map (fun j=>c' i j):=List.map_congr_left (fun j hj=>by rw [e i j hi (List.mem_range.1 hj)])
 rw [← h2]
 exact h.row i hi
theorem TabV.set (h:TabV W ob rb M c T1 T2) (i j:Nat) (hi:i < rb.length) (v:Value):TabV (W.setCell ⟨rb[i],j,none⟩ v) ob rb M (updV c i j v) T1 T2:=by
 have one:∀ {b:Nat} {cs:Array Value} {T:TypeId},Blk W b cs T→b ≠ rb[i]→Blk (W.setCell ⟨rb[i],j,none⟩ v) b cs T:=fun {b cs T} hb hne=>hb.one hne j _
 refine ⟨one h.out (fun e=>h.far (e ▸ List.getElem_mem hi)),fun a ha=>?_,h.far,h.nd⟩
 by_cases hai:a=i
 ·subst hai
  have hs:=(h.row a ha).set j v
  have e:((List.range M).map (fun b=>c a b)).toArray.setIfInBounds j v=((List.range M).map (fun b=>updV c a j v a b)).toArray:=by
   apply Array.ext_getElem?
   intro b
   rw [Array.getElem?_setIfInBounds]
   simp only [List.getElem?_toArray,List.getElem?_map,List.size_toArray,List.length_map,List.length_range]
   by_cases hb:j=b
   ·subst hb
    rw [if_pos rfl]
    by_cases hj:j < M
    ·rw [if_pos hj,List.getElem?_range hj]
     simp [updV]
    ·rw [if_neg hj,List.getElem?_eq_none (by simpa using hj)]
     rfl
   ·rw [if_neg hb]
    by_cases hj:b < M
    ·rw [List.getElem?_range hj]
     have:¬ (a=a∧b=j):=fun h=>hb h.2.symm
     simp [updV,this]
     intro h2
     exact absurd h2.symm hb
    ·rw [List.getElem?_eq_none (by simpa using hj)]
     rfl
  rw [← e]
  exact hs
 ·have hne:rb[a] ≠ rb[i]:=fun e=>hai ((List.getElem_inj h.nd).1 e)
  have hr:=one (h.row a ha) hne
  have e:(List.range M).map (fun b=>updV c i j v a b)=(List.range M).map (fun b=>c a b):=List.map_congr_left (fun b _=>by
   unfold updV
   rw [if_neg (fun h=>hai h.1)])
  rw [e]
  exact hr
end
theorem keptC_set {S:Nat→TypeId→Prop} {W:World} (p:Addr) (hp:∀ t,¬ S p.block t) (v:Value):KeptC S W (W.setCell p v):=fun g cs t fz hg e=>by
 unfold World.setCell
 simp only [Array.getElem?_modify]
 rw [if_neg (fun e2=>hp t (by rw [e2]; exact hg))]
 exact e
structure Wrote (g:Nat) (W W':World):Prop where
 below:Below g W W'
 kept:KeptC (fun k _=>k ≠ g) W W'
 keeps:KeepsFrom 0 W W'
theorem Wrote.of {g:Nat} {W W':World} (hg:g≤W.heap.size) (h:Below W.heap.size W W'):Wrote g W W':=⟨h.mono hg,KeptC.below h,keepsFrom_below h⟩
theorem Wrote.trans {g:Nat} {A B C:World} (h:Wrote g A B) (k:Wrote g B C):Wrote g A C:=⟨h.below.trans k.below,h.kept.trans k.kept,h.keeps.trans k.keeps⟩
theorem Wrote.set {g:Nat} {W:World} {cs:Array Value} {T:TypeId} (h:Blk W g cs T) (j:Nat) (v:Value):Wrote g W (W.setCell ⟨g,j,none⟩ v) :=
 ⟨Below.setCell (p:=⟨g,j,none⟩) (Below.refl g W) (Nat.le_refl _) v,keptC_set _ (fun _ h=>h rfl) v,⟨by simp,fun k o _ hk ho=>by
  unfold World.setCell
  simp only [Array.getElem?_modify]
  by_cases e:g=k
  ·subst e
   rw [show W.heap[g]?=_ from h] at hk
   injection hk with hk
   subst hk
   cases ho
  ·rw [if_neg e]
   exact hk⟩⟩
noncomputable def rstT (q:CQ) (i j:Nat):ByteArray:=qT (rst q i j)

end Go.Proofs.YthhkmihjnnfpgaaGreatDoor
