/- Regions by their tables within a fence: in a round of a loop over an iterator; ahead of an operation that calls the round of an enclosing one. No program in sight. -/
import Derived.Test.YthhkmihjnnfpgaaGreatDoorGPar
import Derived.Test.YthhkmihjnnfpgaaGreatDoorMarks
import Derived.Test.YthhkmihjnnfpgaaGreatDoorGMag
namespace Go.Proofs.YthhkmihjnnfpgaaGreatDoor
set_option linter.all false
open Go.RowKit

section
variable {P:Program} {ops:Array Oper} {Q:Exit→Act→World→Prop}
theorem wpAny_par2 {a:Act} {w:World} (slots:List Nat) (J:(Nat→Prop)→(Nat→Value)→World→Prop) (hb:backward ops=true) (hp:plainOps ops slots=true)
  (hin:(slots.all fun s=>decide (s < a.tmps.size))=true) (h0:J (fun _=>False) (slotOf a) w.drew)
  (hstep:AllOps (fun i o=>∀ L a' w',OnlyAt slots a a'→J L (slotOf a') w'→¬ L i→Waited L o.after.toList →
   ∀ K':Act→World→Prop,Hid (∀ v w'',J (fun k=>L k ∨ k=i) (updS (slotOf a') o.dst v) w''→K' (a'.put o.dst v) w'')→Wants ops (slotOf a') o (Oper.wp P o a' w' K' Q) (J (fun k=>L k ∨ k=i) (updS (slotOf a') o.dst undef) w')) 0 ops.toList)
  (hend:∀ L σ w',J L σ w'→(∀ i,i < ops.size→L i)→Q .normal (putAll a slots (slots.map σ)) w'):wpAny P .any ops Q ops.size (Array.replicate ops.size false) a w.drew:=by
 have hin':∀ s ∈ slots,s < a.tmps.size:=fun s hs=>by simpa using List.all_eq_true.1 hin s hs
 exact wpAny_par (P:=P) (Q:=Q) (a0:=a) (slots:=slots) (J:=J) hb hp hin' (fun L a' w' hoa hJ i o ho hn hd K' hK=>by
  have:=AllOps.at_ ops.toList 0 i o hstep (by simpa using ho)
  rw [Nat.zero_add] at this
  exact this L a' w' hoa hJ hn (Waited.of _ (by simpa using hd)) K' hK)
  (fun L a' w' hoa hJ hL=>by rw [hoa.eq hin']; exact hend L _ w' hJ hL) ops.size (Array.replicate ops.size false) a w.drew ⟨rfl,rfl,fun _ _=>rfl⟩ (by simp) (by simp) (by
   have e:upL (Array.replicate ops.size false)=fun _=>False:=by
    funext k
    unfold upL
    apply propext
    by_cases h:k < ops.size <;> simp [h]
   rw [e]
   exact h0)
end
section
variable {P:Program} {ops:Array Oper} {Q:Exit→Act→World→Prop} {w:World}
theorem wpAny_tab {a:Act} {V:World} (tb:List Row) (ns:List NB) (eb:List EB) (al:List AL) (od dl xd:List (Nat × Nat)) (pl:List (Nat × Nat × Value)) (hc:ckT P ops a.tmps.size tb ns eb al dl xd true=true)
  (hb:Below w.heap.size w V) (he:EldAll V eb) (hp:PreAll (slotOf a) pl) (hops:AllOps (Ob P ops Q a (slotsOf tb) w V.heap.size tb ns eb al od dl pl true) 0 ops.toList)
  (hend:∀ σ W,FinN σ w W ns→FinE W eb→FinX σ ns eb xd→FinD σ ns dl→Hid (Below w.heap.size w W)→Q .normal (putAll a (slotsOf tb) (finX ns al σ tb)) W):wpAny P .any ops Q ops.size (Array.replicate ops.size false) a V.drew:=by
 unfold ckT at hc
 simp only [Bool.and_eq_true] at hc
 obtain ⟨q1,q2,q3,q4,q5,q6,q7,q8,q9⟩:=hc
 have hlen:=Nat.eq_of_beq_eq_true q4
 have fin:∀ L σ W,RJ w V.heap.size tb ns eb al od dl pl L σ W→(∀ i,i < ops.size→L i)→Q .normal (putAll a (slotsOf tb) ((slotsOf tb).map σ)) W:=by
  intro L σ W J hL
  have hst:∀ x ∈ ns,L x.k∧∀ p,x.st=some p→L p.1:=fun x hx=>by
   have:=List.all_eq_true.1 q5 x hx
   simp only [Bool.and_eq_true] at this
   refine ⟨hL _ (blt_lt this.1),fun p hp=>hL _ ?_⟩
   have h2:=this.2
   rw [hp] at h2
   exact blt_lt h2
  have hnew:∀ x ∈ ns,match x.st with
   | none=>NewB (σ x.s) V.heap.size W x.m x.cs x.T
   | some p=>NewB (σ x.s) V.heap.size W x.m p.2 x.T:=fun x hx=>by
   obtain ⟨i,hi1,hi2⟩:=List.mem_iff_getElem.1 hx
   have hi:ns[i]?=some x:=by rw [List.getElem?_eq_getElem hi1,hi2]
   have:=J.news i x hi (hst x hx).1
   obtain ⟨k,s,m,cs,T,st⟩:=x
   cases st with
   | none=>exact this
   | some p=>exact this.2 ((hst _ hx).2 p rfl)
  have hnew':∀ j,j < ns.length→V.heap.size≤blkOf (σ (nbS ns j)):=fun j hj=>by
   have hx:=List.getElem_mem hj
   have:=hnew _ hx
   unfold nbS
   rw [List.getElem?_eq_getElem hj]
   generalize ns[j]=x at *
   obtain ⟨k,s,m,cs,T,st⟩:=x
   cases st with
   | none=>exact this.low
   | some p=>exact this.low
  rw [finX_eq J tb 0 (fun k => by rw [Nat.zero_add]) (fun k hk => hL k (by omega)) (fun k d p hk hv => by
    have h1:=List.all_eq_true.1 q9 _ (List.mem_of_getElem? hk)
    simp only [okRow] at h1
    have hf:=nval_fst ns al (fun _=>undef) σ d
    rw [hv] at hf
    cases h2:nval ns al (fun _=>undef) d with
    | none=>rw [h2] at hf; cases hf
    | some p' =>
     rw [h2] at h1 hf
     simp only [Option.map_some,Option.some.injEq] at hf
     rw [← hf]
     exact hL _ (blt_lt h1))
   (fun k d hk hv=>by
    have h1:=List.all_eq_true.1 q9 _ (List.mem_of_getElem? hk)
    simp only [okRow] at h1
    have hf:=nval_fst ns al (fun _=>undef) σ d
    rw [hv] at hf
    cases h2:nval ns al (fun _=>undef) d with
    | none=>rw [h2] at h1; cases h1
    | some p'=>rw [h2] at hf; cases hf)]
  refine hend σ W (finN_of V.heap.size J.low ns hnew) (finE_of eb fun x hx=>?_) (finX_of fun p hp=>?_) (finD_of fun p hp=>?_) (Lib.hid J.bb)
  ·obtain ⟨i,hi1,hi2⟩:=List.mem_iff_getElem.1 hx
   have hi:eb[i]?=some x:=by rw [List.getElem?_eq_getElem hi1,hi2]
   have:=J.elds i x hi
   have h6:=List.all_eq_true.1 q6 x hx
   obtain ⟨e,cs,T,st⟩:=x
   cases st with
   | none=>exact this
   | some p=>exact this.2 (hL _ (blt_lt h6))
  ·have h7:=List.all_eq_true.1 q7 p hp
   simp only [Bool.and_eq_true] at h7
   have l1:=blt_lt h7.1
   have l2:=hnew' p.2 (blt_lt h7.2)
   have hx:eb[p.1]?=some eb[p.1]:=List.getElem?_eq_getElem l1
   have:=(he.at_ p.1 _ hx).lt
   unfold ebE
   rw [hx]
   show (eb[p.1]).e ≠ _
   omega
  ·have h8:=List.all_eq_true.1 q8 p hp
   simp only [Bool.and_eq_true] at h8
   have l1:=blt_lt h8.1
   have l2:=blt_lt h8.2
   have hx:ns[p.1]?=some ns[p.1]:=List.getElem?_eq_getElem l1
   have hy:ns[p.2]?=some ns[p.2]:=List.getElem?_eq_getElem l2
   obtain ⟨u,hu1,hu2⟩:=List.mem_iff_getElem.1 hp
   have:=J.dis u p _ _ (by rw [List.getElem?_eq_getElem hu1,hu2]) hx hy (hst _ (List.getElem_mem l1)).1 (hst _ (List.getElem_mem l2)).1
   unfold nbS
   rw [hx,hy]
   exact this
 simp only [Bool.not_true,Bool.false_or,Bool.and_eq_true] at q1
 exact wpAny_par2 (slotsOf tb) (RJ w V.heap.size tb ns eb al od dl pl) q1.2 q2 q3 (RJ.drew (RJ.start rfl hb he hp)) hops fin
theorem wpIn_tab {l n:Nat} {id:Nat} {a:Act} {V:World} (tb:List Row) (ns:List NB) (eb:List EB) (al:List AL) (od dl xd:List (Nat × Nat)) (pl:List (Nat × Nat × Value)) (hc:(ckT P ops a.tmps.size tb ns eb al dl xd true && noDefer ops && P.follows .mixedOrders)=true)
  (hL:¬ LetsOut Q) (hb:Below w.heap.size w V) (he:EldAll V eb) (hp:PreAll (slotOf a) pl) (hops:AllOps (Ob P ops Q a (slotsOf tb) w V.heap.size tb ns eb al od dl pl true) 0 ops.toList)
  (hend:∀ σ W,FinN σ w W ns→FinE W eb→FinX σ ns eb xd→FinD σ ns dl→Hid (Below w.heap.size w W)→Q .normal (putAll a (slotsOf tb) (finX ns al σ tb)) W):(Code.region id ops true).wpIn (Fence.wide.inRound l) n P Q a V:=by
 rw [Bool.and_eq_true,Bool.and_eq_true] at hc
 exact wpIn_region_any hc.2 (anyIn_of_any hc.1.2 hL _ _ _ _ (wpAny_tab tb ns eb al od dl xd pl hc.1.1 hb he hp hops hend))
end

/-! An operation that waits for all that stand ahead of it. -/
def predsO (ops:Array Oper) (i:Nat):List Nat:=match ops[i]? with
 | none=>[]
 | some o=>(o.after.toList.filter (Region.binds .any ·)).map (·.on)
def reachO (ops:Array Oper):Nat→Nat→List Nat
 | 0,_=>[]
 | f + 1,i=>(predsO ops i).flatMap (fun p=>p :: reachO ops f p)
def closedO (ops:Array Oper) (f k:Nat):Bool:=(List.range (ops.size - k)).all fun d=>(List.range k).all fun j=>(reachO ops f (k + d)).contains j
def guardsLow (ops:Array Oper) (k:Nat):Bool:=(List.range k).all fun i=>match ops[i]? with
 | none=>true
 | some o=>match o.guard with
  | none=>true
  | some g=>decide (g.1 < k)
def DownO (ops:Array Oper) (X:Array Bool):Prop:=∀ i,X.getD i false=true→∀ p ∈ predsO ops i,X.getD p false=true
theorem reachO_up {ops:Array Oper} {X:Array Bool} (hD:DownO ops X):∀ (f i:Nat),(∀ p ∈ predsO ops i,X.getD p false=true)→∀ x ∈ reachO ops f i,X.getD x false=true
 | 0,_,_,x,hx=>by cases hx
 | f + 1,i,h,x,hx=>by
  obtain ⟨p,hp,hx⟩:=List.mem_flatMap.1 hx
  rcases List.mem_cons.1 hx with rfl | hx
  ·exact h x hp
  ·exact reachO_up hD f p (hD p (h p hp)) x hx
theorem preds_ready {ops:Array Oper} {X:Array Bool} {i:Nat} {o:Oper} (ho:ops[i]?=some o) (h:∀ e ∈ o.after,Region.binds .any e=true→X.getD e.on false=true):∀ p ∈ predsO ops i,X.getD p false=true:=by
 intro p hp
 unfold predsO at hp
 rw [ho] at hp
 obtain ⟨e,he,rfl⟩:=List.mem_map.1 hp
 rw [List.mem_filter] at he
 exact h e (by simpa using he.1) he.2
theorem DownO.set {ops:Array Oper} {X:Array Bool} {i:Nat} {o:Oper} (hD:DownO ops X) (ho:ops[i]?=some o) (h:∀ e ∈ o.after,Region.binds .any e=true→X.getD e.on false=true):DownO ops (X.setIfInBounds i true):=by
 have up:∀ p,X.getD p false=true→(X.setIfInBounds i true).getD p false=true:=by
  intro p hp
  simp only [Array.getD_eq_getD_getElem?,Array.getElem?_setIfInBounds] at hp ⊢
  split
  ·split
   ·rfl
   ·rename_i h1 h2
    subst h1
    rw [Array.getElem?_eq_none (by omega)] at hp
    cases hp
  ·exact hp
 intro j hj p hp
 refine up p ?_
 by_cases hji:j=i
 ·subst hji
  exact preds_ready ho h p hp
 ·refine hD j ?_ p hp
  simp only [Array.getD_eq_getD_getElem?,Array.getElem?_setIfInBounds,if_neg (Ne.symm hji)] at hj ⊢
  exact hj

def takeO (ops:Array Oper) (k:Nat):Array Oper:=⟨ops.toList.take k⟩
theorem takeO_at {ops:Array Oper} {k i:Nat} (h:i < k):(takeO ops k)[i]?=ops[i]?:=by
 unfold takeO
 rw [List.getElem?_toArray,List.getElem?_take,if_pos h,Array.getElem?_toList]
theorem takeO_size {ops:Array Oper} {k:Nat} (h:k≤ops.size):(takeO ops k).size=k:=by
 unfold takeO
 show (ops.toList.take k).length=k
 rw [List.length_take,Array.length_toList]
 omega
def Fair (F:Fence):Prop:=F=Fence.wide ∨ ∃ l,F=Fence.wide.inRound l
theorem opIn_of_op2 {P:Program} {Q Q':Exit→Act→World→Prop} {F:Fence} (hF:Fair F) {n:Nat} {o:Oper} {a:Act} {w:World} {K K':Act→World→Prop} (hnd:∀ c,o.op ≠ .defer c) (hK:∀ a w,K a w→K' a w) (hQ:∀ c a w,Q' (.panic c) a w→Q (.panic c) a w) (hL:¬ LetsOut Q')
  (h:o.wp P a w K Q'):o.wpIn F n P a w K' Q:=by
 have hdep:F.depth.isSome=true→1≤n:=fun hd=>by rcases hF with rfl | ⟨l,rfl⟩ <;> cases hd
 have hsem:o.semAt F.round a.eval=execOp a.eval o:=by
  rcases hF with rfl | ⟨l,rfl⟩
  ·rfl
  ·rw [show (Fence.wide.inRound l).round=some l from rfl,Oper.semAt_some l _ _ hnd]
 have hfn:∀ f,F.fn f:=fun f=>by rcases hF with rfl | ⟨l,rfl⟩ <;> exact trivial
 have hcalls:∀ f args w R,Calls P f args w R→CallsIn F (n - 1) P f args w R:=fun f args w R h=>by
  rcases hF with rfl | ⟨l,rfl⟩
  ·exact callsIn_wide.2 h
  ·exact CallsIn.inRound l (callsIn_wide.2 h)
 have hrows:∀ row args w R,Rows P row args w R→RowsIn F (n - 1) P row args w R:=fun row args w R h=>by
  rcases hF with rfl | ⟨l,rfl⟩
  ·exact fun c cs _=>let ⟨v,w',r,s⟩:=h c cs; ⟨v,w',r,stepsIn_wide.2 s⟩
  ·exact rowsIn_round h
 refine ⟨fun f _=>hfn f,?_⟩
 rw [hsem]
 unfold Oper.wp at h
 generalize (execOp a.eval o).run P w=r at *
 cases r with
 | ok x w' =>
  cases x
  case value v=>exact hK _ _ h
  case skip=>exact hK _ _ h
  case defer d=>exact hK _ _ h
  case enter f args =>
   refine ⟨hdep,hcalls _ _ _ _ (Calls.mono h ?_)⟩
   intro e w'' he
   cases e with
   | returned v=>exact hK _ _ he
   | panicked c=>exact hQ _ _ _ he
   | outgrown=>exact (hL he).elim
  case row row args=>exact ⟨hdep,hrows _ _ _ _ (fun c cs=>let ⟨v,w',r,s⟩:=h c cs; ⟨v,w',hK _ _ r,s⟩)⟩
  all_goals exact h.elim
 | halt x w' =>
  cases x
  case panic v=>exact hQ _ _ _ h
  all_goals exact h

structure AgO (N k:Nat) (l X:Array Bool):Prop where
 hN:X.size=N
 hl:l.size=k
 low:∀ j,j < k→X[j]?=l[j]?
 high:∀ j,k≤j→j < N→X[j]?=some false

section
variable {P:Program} {ops:Array Oper} {Q Q':Exit→Act→World→Prop}
theorem anyIn_phase {F:Fence} (hF:Fair F) {n f k:Nat} (hd:noDefer ops=true) (hcl:closedO ops f k=true) (hb:backward ops=true) (hk:k≤ops.size) (hgl:guardsLow ops k=true)
  (hQ:∀ c a w,Q' (.panic c) a w→Q (.panic c) a w) (hL:¬ LetsOut Q')
  (hK:∀ a w,Q' .normal a w→wpAnyIn F n P .any ops Q (ops.size - k) (Array.replicate k true ++ Array.replicate (ops.size - k) false) a w) :
  ∀ (fuel:Nat) (listed X:Array Bool) (a:Act) (w:World),AgO ops.size k listed X→DownO ops X→listed.toList.count false=fuel→wpAny P .any (takeO ops k) Q' fuel listed a w→wpAnyIn F n P .any ops Q (fuel + (ops.size - k)) X a w:=by
 intro fuel
 induction fuel with
 | zero =>
  intro listed X a w hA hD hc h
  have hX:X=Array.replicate k true ++ Array.replicate (ops.size - k) false:=by
   apply Array.ext_getElem?
   intro j
   rw [Array.getElem?_append]
   simp only [Array.size_replicate]
   by_cases hj:j < k
   ·rw [if_pos hj,hA.low j hj]
    have h2:j < listed.size:=by rw [hA.hl]; exact hj
    have h3:false ∉ listed.toList:=List.count_eq_zero.1 hc
    rw [Array.getElem?_eq_getElem h2,Array.getElem?_replicate,if_pos hj]
    cases h4:listed[j] with
    | true=>rfl
    | false=>exact absurd (by rw [← h4]; exact Array.getElem_mem_toList h2) h3
   ·rw [if_neg hj,Array.getElem?_replicate]
    by_cases hj2:j < ops.size
    ·rw [if_pos (by omega),hA.high j (by omega) hj2]
    ·rw [if_neg (by omega),Array.getElem?_eq_none (by rw [hA.hN]; omega)]
  rw [hX,Nat.zero_add]
  exact hK a w h.2
 | succ fuel ih =>
  intro listed X a w hA hD hc h
  obtain ⟨j0,hj0,hj1⟩:∃ j,∃ hj:j < listed.size,listed[j]=false:=by
   have h1:0 < listed.toList.count false:=by omega
   have h2:=List.count_pos_iff.1 h1
   obtain ⟨j,hj,e⟩:=List.getElem_of_mem h2
   exact ⟨j,by simpa using hj,by simpa using e⟩
  have hj0k:j0 < k:=by rw [← hA.hl]; exact hj0
  have hX0:X[j0]?=some false:=by rw [hA.low j0 hj0k,Array.getElem?_eq_getElem hj0,hj1]
  rw [show fuel + 1 + (ops.size - k)=(fuel + (ops.size - k)) + 1 by omega]
  refine ⟨fun hr=>?_,fun i hi=>?_⟩
  ·have:=all_up hb hr j0 j0 (Nat.le_refl _) (by omega)
   rw [Array.getD_eq_getD_getElem?,hX0] at this
   cases this
  ·obtain ⟨h1,o,ho,hdn⟩:=mem_ready.1 hi
   have hik:i < k:=by
    refine Nat.lt_of_not_le fun hge=>?_
    have hlt:i < ops.size:=(Array.getElem?_eq_some_iff.1 ho).1
    have h2:=List.all_eq_true.1 hcl (i - k) (List.mem_range.2 (by omega))
    have h3:=List.all_eq_true.1 h2 j0 (List.mem_range.2 hj0k)
    rw [show k + (i - k)=i by omega] at h3
    have h4:=reachO_up hD f i (preds_ready ho hdn) j0 (by simpa using h3)
    rw [Array.getD_eq_getD_getElem?,hX0] at h4
    cases h4
   have ho':(takeO ops k)[i]?=some o:=(takeO_at hik).trans ho
   have hLi:listed.getD i true=false:=by rw [Array.getD_eq_getD_getElem?] at h1 ⊢; rw [← hA.low i hik]; exact h1
   have hil:i < listed.size:=by rw [hA.hl]; exact hik
   have hir:i ∈ Region.ready .any (takeO ops k) listed:=by
    refine mem_ready.2 ⟨hLi,o,ho',fun e he hbd=>?_⟩
    have h2:=hdn e he hbd
    have h5:e.on < i:=by
     have hx:=List.all_eq_true.1 hb i (List.mem_range.2 (Array.getElem?_eq_some_iff.1 ho).1)
     rw [ho] at hx
     have h6:=(Array.all_eq_true_iff_forall_mem.1 hx) e he
     rw [hbd] at h6
     simpa using h6
    rw [Array.getD_eq_getD_getElem?] at h2 ⊢
    rw [← hA.low e.on (by omega)]
    exact h2
   have hw:=h.2 i hir
   unfold wpOp at hw
   rw [ho'] at hw
   unfold wpOpIn
   rw [ho]
   have next:∀ a' w',wpAny P .any (takeO ops k) Q' fuel (listed.setIfInBounds i true) a' w'→wpAnyIn F n P .any ops Q (fuel + (ops.size - k)) (X.setIfInBounds i true) a' w':=fun a' w' hh=>by
    refine ih (listed.setIfInBounds i true) (X.setIfInBounds i true) a' w' ⟨by simp [hA.hN],by simp [hA.hl],fun j hj=>?_,fun j hj hj2=>?_⟩ (hD.set ho hdn) ?_ hh
    ·rw [Array.getElem?_setIfInBounds,Array.getElem?_setIfInBounds,hA.hl,hA.hN,hA.low j hj]
     have:i < ops.size:=by omega
     simp [hik,this]
    ·rw [Array.getElem?_setIfInBounds,if_neg (by omega),hA.high j hj hj2]
    ·rw [Array.toList_setIfInBounds,List.count_set (by simpa using hil)]
     have h2:listed.toList[i]'(by simpa using hil)=false:=by
      rw [Array.getD_eq_getD_getElem?,Array.getElem?_eq_getElem hil] at hLi
      simpa using hLi
     rw [h2,if_pos (by rfl),if_neg (by simp)]
     omega
   have hgd:Region.wanted o (yielded (takeO ops k) a.tmps)=Region.wanted o (yielded ops a.tmps):=by
    unfold Region.wanted
    cases hg:o.guard with
    | none=>rfl
    | some g =>
     obtain ⟨j,want⟩:=g
     have hx:=List.all_eq_true.1 hgl i (List.mem_range.2 hik)
     rw [ho] at hx
     dsimp only at hx
     rw [hg] at hx
     have hj:j < k:=of_decide_eq_true hx
     show (yielded (takeO ops k) a.tmps j == some want)=(yielded ops a.tmps j == some want)
     unfold yielded
     rw [takeO_at hj]
   dsimp only at hw ⊢
   rw [hgd] at hw
   by_cases hwt:Region.wanted o (yielded ops a.tmps)=true
   ·rw [if_pos hwt] at hw ⊢
    rcases hw with hw | hw
    ·exact opIn_of_op2 hF (noDefer_spec hd ho) next hQ hL hw
    ·exact (hL hw.2).elim
   ·rw [if_neg hwt] at hw ⊢
    exact ⟨fun f _=>by rcases hF with rfl | ⟨l,rfl⟩ <;> exact trivial,next _ _ hw⟩
def seqO (ops:Array Oper) (k:Nat):Bool:=(List.range (ops.size - k)).all fun d=>Region.ready .any ops (Array.replicate (k + d) true ++ Array.replicate (ops.size - (k + d)) false) == [k + d]
theorem anyIn_seq {F:Fence} {n:Nat}:∀ (m k:Nat) (a:Act) (w:World),k + m=ops.size→(∀ d,d < m→Region.ready .any ops (Array.replicate (k + d) true ++ Array.replicate (ops.size - (k + d)) false)=[k + d]) →
  wpListIn F n P ops Q (ops.toList.drop k) a w→wpAnyIn F n P .any ops Q m (Array.replicate k true ++ Array.replicate m false) a w
 | 0,k,a,w,hk,_,h=>by
  refine ⟨?_,?_⟩
  ·rw [List.eq_nil_iff_forall_not_mem]
   intro i hi
   have h1:=(mem_ready.1 hi).1
   rw [Array.getD_eq_getD_getElem?,Array.getElem?_append] at h1
   by_cases hik:i < k
   ·rw [if_pos (by simpa using hik),Array.getElem?_replicate,if_pos hik] at h1
    cases h1
   ·rw [if_neg (by simpa using hik),Array.getElem?_replicate,if_neg (by omega)] at h1
    cases h1
  ·rw [List.drop_eq_nil_of_le (by rw [Array.length_toList]; omega)] at h
   exact h
 | m + 1, k, a, w, hk, hs, h => by
  have hr:=hs 0 (by omega)
  rw [Nat.add_zero,show ops.size - k=m + 1 by omega] at hr
  have hlt:k < ops.size:=by omega
  refine ⟨fun e=>(by rw [hr] at e; cases e),fun i hi=>?_⟩
  rw [hr] at hi
  obtain rfl:i=k:=List.mem_singleton.1 hi
  have hd:ops.toList.drop i=ops[i] :: ops.toList.drop (i + 1):=by
   rw [List.drop_eq_getElem_cons (by simpa using hlt)]
   simp
  rw [hd] at h
  unfold wpOpIn
  rw [Array.getElem?_eq_getElem hlt]
  have next:∀ a' w',wpListIn F n P ops Q (ops.toList.drop (i + 1)) a' w'→wpAnyIn F n P .any ops Q m ((Array.replicate i true ++ Array.replicate (m + 1) false).setIfInBounds i true) a' w':=fun a' w' hh=>by
   have e:(Array.replicate i true ++ Array.replicate (m + 1) false).setIfInBounds i true=Array.replicate (i + 1) true ++ Array.replicate m false:=by
    apply Array.ext_getElem?
    intro j
    rw [Array.getElem?_setIfInBounds,Array.getElem?_append,Array.getElem?_append]
    simp only [Array.size_append,Array.size_replicate,Array.getElem?_replicate]
    rcases Nat.lt_trichotomy j i with hj | hj | hj
    ·simp [show ¬ i=j by omega,hj,show j < i + 1 by omega]
    ·subst hj
     simp
    ·simp [show ¬ i=j by omega,show ¬ j < i by omega,show ¬ j < i + 1 by omega]
     by_cases h2:j - i < m + 1
     ·rw [if_pos h2,if_pos (by omega)]
     ·rw [if_neg h2,if_neg (by omega)]
   rw [e]
   exact anyIn_seq m (i + 1) a' w' (by omega) (fun d hd=>by
    have:=hs (d + 1) (by omega)
    rw [show i + (d + 1)=i + 1 + d by omega] at this
    exact this) hh
  unfold wpListIn at h
  dsimp only at h ⊢
  by_cases hwt:Region.wanted ops[i] (yielded ops a.tmps)=true
  ·rw [if_pos hwt] at h ⊢
   exact Oper.wpIn_mono next h
  ·rw [if_neg hwt] at h ⊢
   exact ⟨h.1,next _ _ h.2⟩
def tailQ (F:Fence) (n:Nat) (P:Program) (ops:Array Oper) (Q:Exit→Act→World→Prop) (k:Nat):Exit→Act→World→Prop
 | .normal,a,w=>wpListIn F n P ops Q (ops.toList.drop k) a w
 | .ret,a,w=>Q .ret a w
 | .exit i,a,w=>Q (.exit i) a w
 | .goto l,a,w=>Q (.goto l) a w
 | .panic c,a,w=>Q (.panic c) a w
 | .outgrown,a,w=>Q .outgrown a w
theorem wpIn_phase {F:Fence} (hF:Fair F) {n id:Nat} {w:World} {a:Act} {V:World} (f k:Nat) (tb:List Row) (ns:List NB) (eb:List EB) (al:List AL) (od dl xd:List (Nat × Nat)) (pl:List (Nat × Nat × Value))
  (hc:(ckT P (takeO ops k) a.tmps.size tb ns eb al dl xd true && noDefer ops && P.follows .mixedOrders && closedO ops f k && backward ops && guardsLow ops k && decide (k≤ops.size) && seqO ops k)=true)
  (hL:¬ LetsOut Q) (hb:Below w.heap.size w V) (he:EldAll V eb) (hp:PreAll (slotOf a) pl) (hops:AllOps (Ob P (takeO ops k) (tailQ F n P ops Q k) a (slotsOf tb) w V.heap.size tb ns eb al od dl pl true) 0 (takeO ops k).toList)
  (hend:∀ σ W,FinN σ w W ns→FinE W eb→FinX σ ns eb xd→FinD σ ns dl→Hid (Below w.heap.size w W)→wpListIn F n P ops Q (ops.toList.drop k) (putAll a (slotsOf tb) (finX ns al σ tb)) W):(Code.region id ops true).wpIn F n P Q a V:=by
 simp only [Bool.and_eq_true] at hc
 obtain ⟨⟨⟨⟨⟨⟨⟨c1,c2⟩,c3⟩,c4⟩,c5⟩,c6⟩,c7⟩,c8⟩:=hc
 have hk:=of_decide_eq_true c7
 have h:=wpAny_tab (Q:=tailQ F n P ops Q k) tb ns eb al od dl xd pl c1 hb he hp hops hend
 rw [takeO_size hk] at h
 refine wpIn_region_any c3 ?_
 have h2:=anyIn_phase (Q:=Q) (Q':=tailQ F n P ops Q k) hF (n:=n) c2 c4 c5 hk c6 (fun _ _ _ hh=>hh) (fun ⟨a,w,hh⟩=>hL ⟨a,w,hh⟩)
  (fun a w hh=>anyIn_seq (ops.size - k) k a w (by omega) (fun d hd=>by
   have:=List.all_eq_true.1 c8 d (List.mem_range.2 hd)
   exact eq_of_beq this) hh)
  k (Array.replicate k false) (Array.replicate ops.size false) a V.drew ⟨by simp,by simp,fun j hj=>by simp [hj,show j < ops.size by omega],fun j hj hj2=>by simp [hj2]⟩
  (fun i hi=>by
   rw [Array.getD_eq_getD_getElem?,Array.getElem?_replicate] at hi
   split at hi <;> cases hi) (by simp) h
 rw [show k + (ops.size - k)=ops.size by omega] at h2
 exact h2
end

end Go.Proofs.YthhkmihjnnfpgaaGreatDoor
