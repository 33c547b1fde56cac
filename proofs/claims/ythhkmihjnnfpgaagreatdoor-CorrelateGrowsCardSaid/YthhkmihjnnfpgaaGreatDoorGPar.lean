/- Regions by one invariant, whatever their order; blocks that they make and write; operations worked out by the kernel. -/
import Derived.Test.YthhkmihjnnfpgaaGreatDoorBox
import Derived.Deep.RegionHeld3
import Derived.KernelRfl
/- A region that draws its order, by one invariant over what has come up: one obligation for each operation, whatever the number of orders. No program in sight. -/
namespace Go.Proofs.YthhkmihjnnfpgaaGreatDoor
set_option linter.all false
open Go.RowKit

def putAll (a:Act):List Nat→List Value→Act
 | s :: ss,v :: vs=>putAll (a.put (some s) v) ss vs
 | _,_=>a

def AllOps (F:Nat→Oper→Prop):Nat→List Oper→Prop
 | _,[]=>True
 | k,o :: os=>F k o∧AllOps F (k + 1) os

theorem AllOps.at_ {F:Nat→Oper→Prop}:∀ (l:List Oper) (k i:Nat) (o:Oper),AllOps F k l→l[i]?=some o→F (k + i) o
 | [],_,i,_,_,h=>by simp at h
 | a :: l,k,0,o,h,e=>by
  simp at e
  subst e
  exact h.1
 | a :: l,k,i + 1,o,h,e=>by
  have:=AllOps.at_ l (k + 1) i o h.2 (by simpa using e)
  rw [show k + (i + 1)=k + 1 + i by omega]
  exact this

def Waited (L:Nat→Prop):List Edge→Prop
 | []=>True
 | e :: es=>(Region.binds .any e=true→L e.on)∧Waited L es

theorem Waited.of {L:Nat→Prop}:∀ (l:List Edge),(∀ e ∈ l,Region.binds .any e=true→L e.on)→Waited L l
 | [],_=>trivial
 | e :: es,h=>⟨h e (List.mem_cons_self ..),Waited.of es (fun x hx=>h x (List.mem_cons_of_mem _ hx))⟩

def backward (ops:Array Oper):Bool:=(List.range ops.size).all fun i=>match ops[i]? with
 | none=>true
 | some o=>o.after.all fun e=>!Region.binds .any e || decide (e.on < i)

theorem all_up {ops:Array Oper} (hb:backward ops=true) {listed:Array Bool} (hr:Region.ready .any ops listed=[]):∀ (n i:Nat),i≤n→i < ops.size→listed.getD i true=true:=by
 intro n
 induction n with
 | zero =>
  intro i hi hlt
  have e:i=0:=by omega
  subst e
  by_cases h:listed.getD 0 true=true
  ·exact h
  ·exfalso
   have hm:0 ∈ Region.ready .any ops listed:=mem_ready.2 ⟨by simpa using h,ops[0],by simp [hlt],fun e he hbd=>by
    have hx:=List.all_eq_true.1 hb 0 (List.mem_range.2 hlt)
    rw [show ops[0]?=some ops[0] by simp [hlt]] at hx
    have:=(Array.all_eq_true_iff_forall_mem.1 hx) e he
    rw [hbd] at this
    simp at this⟩
   rw [hr] at hm
   cases hm
 | succ n ih =>
  intro i hi hlt
  by_cases h:listed.getD i true=true
  ·exact h
  ·exfalso
   have hm:i ∈ Region.ready .any ops listed:=mem_ready.2 ⟨by simpa using h,ops[i],by simp [hlt],fun e he hbd=>by
    have hx:=List.all_eq_true.1 hb i (List.mem_range.2 hlt)
    rw [show ops[i]?=some ops[i] by simp [hlt]] at hx
    have h1:=(Array.all_eq_true_iff_forall_mem.1 hx) e he
    have h2:e.on < i:=by
     rw [hbd] at h1
     simpa using h1
    have h3:=ih e.on (by omega) (by omega)
    have h4:e.on < listed.size:=by
     refine Classical.byContradiction fun h4=>h ?_
     simp [show ¬ i < listed.size by omega]
    simp [h4] at h3 ⊢
    exact h3⟩
   rw [hr] at hm
   exact absurd hm List.not_mem_nil

def upL (listed:Array Bool) (k:Nat):Prop:=listed.getD k false=true

theorem upL_set (listed:Array Bool) (i:Nat) (hi:i < listed.size):upL (listed.setIfInBounds i true)=fun k=>upL listed k ∨ k=i:=by
 funext k
 unfold upL
 apply propext
 by_cases h:k=i
 ·subst h
  simp [hi]
 ·have h':i ≠ k:=fun e=>h e.symm
  simp only [h,or_false]
  simp [Array.getElem_setIfInBounds,h']

def slotOf (a:Act) (s:Nat):Value:=a.tmps[s]?.getD undef
def updS (σ:Nat→Value) (d:Option Nat) (v:Value) (s:Nat):Value:=match d with
 | none=>σ s
 | some d=>if s=d then v else σ s

structure OnlyAt (slots:List Nat) (a a':Act):Prop where
 defers:a'.defers=a.defers
 size:a'.tmps.size=a.tmps.size
 far:∀ s,s ∉ slots→a'.tmps[s]?=a.tmps[s]?

theorem OnlyAt.put {slots:List Nat} {a a':Act} (h:OnlyAt slots a a') (d:Option Nat) (v:Value) (hd:∀ s,d=some s→s ∈ slots):OnlyAt slots a (a'.put d v):=by
 cases d with
 | none=>exact h
 | some s =>
  refine ⟨h.defers,by simp [Act.put,h.size],fun k hk=>?_⟩
  have:s ≠ k:=fun e=>hk (e ▸ hd s rfl)
  simp [Act.put,this]
  exact h.far k hk

theorem slotOf_put (a:Act) (d:Option Nat) (v:Value) (hd:∀ s,d=some s→s < a.tmps.size):slotOf (a.put d v)=updS (slotOf a) d v:=by
 funext k
 cases d with
 | none=>rfl
 | some s =>
  have hs:=hd s rfl
  unfold slotOf updS
  by_cases h:k=s
  ·subst h
   simp [Act.put,hs]
  ·have h':s ≠ k:=fun e=>h e.symm
   simp [Act.put,h,h']

theorem putAll_defers:∀ (slots:List Nat) (vs:List Value) (a:Act),(putAll a slots vs).defers=a.defers
 | [],_,_=>rfl
 | _ :: _,[],_=>rfl
 | s :: ss,v :: vs,a=>putAll_defers ss vs (a.put (some s) v)

theorem putAll_at (σ:Nat→Value) (k:Nat):∀ (slots:List Nat) (a:Act),(∀ s ∈ slots,s < a.tmps.size) →
  (putAll a slots (slots.map σ)).tmps[k]?=if k ∈ slots then some (σ k) else a.tmps[k]?
 | [],a,_=>by simp [putAll]
 | s :: ss,a,h=>by
  have hs:=h s (List.mem_cons_self ..)
  have ih:=putAll_at σ k ss (a.put (some s) (σ s)) (fun x hx=>by simpa [Act.put] using h x (List.mem_cons_of_mem _ hx))
  show (putAll (a.put (some s) (σ s)) ss (ss.map σ)).tmps[k]?=_
  rw [ih]
  by_cases h1:k ∈ ss
  ·simp [h1]
  ·by_cases h2:k=s
   ·subst h2
    simp [h1,Act.put,hs]
   ·have h3:s ≠ k:=fun e=>h2 e.symm
    simp [h1,h2,Act.put,h3]

theorem OnlyAt.eq {slots:List Nat} {a a':Act} (h:OnlyAt slots a a') (hs:∀ s ∈ slots,s < a.tmps.size):a'=putAll a slots (slots.map (slotOf a')):=by
 have hd:=putAll_defers slots (slots.map (slotOf a')) a
 have ht:(putAll a slots (slots.map (slotOf a'))).tmps=a'.tmps:=by
  apply Array.ext_getElem?
  intro k
  rw [putAll_at (slotOf a') k slots a hs]
  by_cases hk:k ∈ slots
  ·have hlt:k < a'.tmps.size:=by rw [h.size]; exact hs k hk
   unfold slotOf
   simp [hk,hlt]
  ·rw [if_neg hk,h.far k hk]
 generalize putAll a slots (slots.map (slotOf a'))=b at *
 cases b with
 | mk t d =>
  cases a' with
  | mk t' d' =>
   simp only at hd ht
   rw [ht,hd,← h.defers]

def plainOps (ops:Array Oper) (slots:List Nat):Bool:=ops.all fun o=>(match o.dst with | none=>true | some d=>slots.contains d)

def Wants (ops:Array Oper) (σ:Nat→Value) (o:Oper) (p q:Prop):Prop:=match o.guard with
 | none=>p
 | some (j,want)=>∃ s v,(ops[j]?.bind fun x=>x.dst)=some s∧σ s=v∧(v=.bool want→p)∧(v ≠ .bool want→q)

theorem Wants.free {ops:Array Oper} {σ:Nat→Value} {o:Oper} {p q:Prop} (hg:o.guard=none) (h:p):Wants ops σ o p q:=by
 unfold Wants
 rw [hg]
 exact h
theorem Wants.pos {ops:Array Oper} {σ:Nat→Value} {o:Oper} {p q:Prop} {j s:Nat} {b:Bool} (hg:o.guard=some (j,b)) (hs:(ops[j]?.bind fun x=>x.dst)=some s) (hb:σ s=.bool b) (h:p):Wants ops σ o p q:=by
 unfold Wants
 rw [hg]
 exact ⟨s,.bool b,hs,hb,fun _=>h,fun hn=>absurd rfl hn⟩
theorem Wants.neg {ops:Array Oper} {σ:Nat→Value} {o:Oper} {p q:Prop} {j s:Nat} {b:Bool} (hg:o.guard=some (j,!b)) (hs:(ops[j]?.bind fun x=>x.dst)=some s) (hb:σ s=.bool b) (h:q):Wants ops σ o p q:=by
 unfold Wants
 rw [hg]
 exact ⟨s,.bool b,hs,hb,fun e=>absurd e (by cases b <;> simp),fun _=>h⟩
theorem Wants.out {ops:Array Oper} {σ:Nat→Value} {o:Oper} {p q:Prop} {j s:Nat} {b:Bool} (hg:o.guard=some (j,b)) (hs:(ops[j]?.bind fun x=>x.dst)=some s) (hb:σ s=undef) (h:q):Wants ops σ o p q:=by
 unfold Wants
 rw [hg]
 exact ⟨s,undef,hs,hb,(fun e=>by cases e),fun _=>h⟩
theorem yield_at {ops:Array Oper} {a:Act} {j s:Nat} {want:Bool} {v:Value} (h1:(ops[j]?.bind fun x=>x.dst)=some s) (h2:slotOf a s=v):(yielded ops a.tmps j == some want)=true ↔ v=.bool want:=by
 subst h2
 unfold yielded slotOf
 rw [h1]
 show ((match (a.tmps[s]?) with | some (Value.bool b)=>some b | _=>none) == some want)=true ↔ _
 cases hs:a.tmps[s]? with
 | none=>exact ⟨fun h=>absurd h (by simp),fun h=>by cases h⟩
 | some u =>
  show ((match (some u:Option Value) with | some (Value.bool b)=>some b | _=>none) == some want)=true ↔ u=.bool want
  cases u with
  | bool b=>simp
  | _=>exact ⟨fun h=>absurd h (by simp),fun h=>by cases h⟩
/-! What the slots of a region hold,by lists: the slots that its operations write,and what they write. -/

theorem old {L:Nat→Prop} {P:Prop} {k i:Nat} (f:L k→P) (hne:(k == i)=false) (h:L k ∨ k=i):P:=f (h.resolve_right (by simpa using hne))

theorem Waited.get {L:Nat→Prop}:∀ {l:List Edge},Waited L l→∀ (k:Nat),(l.any fun e=>Region.binds .any e && e.on == k)=true→L k
 | [],_,k,h=>by simp at h
 | e :: es,hw,k,h=>by
  rw [List.any_cons,Bool.or_eq_true,Bool.and_eq_true] at h
  rcases h with ⟨h1,h2⟩ | h
  ·exact eq_of_beq h2 ▸ hw.1 h1
  ·exact Waited.get hw.2 k h

def Vals (ds:List (Option Nat)) (vs:List Value) (L:Nat→Prop) (σ:Nat→Value):Prop:=∀ k s v,ds[k]?=some (some s)→vs[k]?=some v→L k→σ s=v

def lone (ds:List (Option Nat)) (i s:Nat):Bool:=(List.range ds.length).all fun k=>k == i || ds[k]? != some (some s)

theorem lone.ne {ds:List (Option Nat)} {i s:Nat} (h:lone ds i s=true) {k:Nat} (hk:k ≠ i):ds[k]? ≠ some (some s):=fun e=>by
 have hlt:k < ds.length:=(List.getElem?_eq_some_iff.1 e).1
 have:=List.all_eq_true.1 h k (List.mem_range.2 hlt)
 simp [hk,e] at this

theorem Vals.start {ds:List (Option Nat)} {vs:List Value} {σ:Nat→Value}:Vals ds vs (fun _=>False) σ:=fun _ _ _ _ _ h=>h.elim

theorem Vals.set {ds:List (Option Nat)} {vs:List Value} {L:Nat→Prop} {σ:Nat→Value} (V:Vals ds vs L σ) (i s:Nat) (v:Value) (hd:ds[i]?=some (some s)) (hv:vs[i]?=some v) (h:lone ds i s=true) :
  Vals ds vs (fun k=>L k ∨ k=i) (updS σ (some s) v):=fun k s' v' e1 e2 hL=>by
 by_cases hk:k=i
 ·subst hk
  rw [e1] at hd
  rw [e2] at hv
  injection hd with hd
  injection hd with hd
  injection hv with hv
  subst hd
  subst hv
  unfold updS
  simp
 ·have hs:s' ≠ s:=fun e=>lone.ne h hk (e ▸ e1)
  unfold updS
  simp [hs]
  exact V k s' v' e1 e2 (hL.resolve_right hk)

theorem Vals.same {ds:List (Option Nat)} {vs:List Value} {L:Nat→Prop} {σ:Nat→Value} (V:Vals ds vs L σ) (i:Nat) (v:Value) (hd:ds[i]?=some none):Vals ds vs (fun k=>L k ∨ k=i) (updS σ none v):=fun k s' v' e1 e2 hL=>by
 have hk:k ≠ i:=fun e=>by rw [e,hd] at e1; cases e1
 exact V k s' v' e1 e2 (hL.resolve_right hk)

theorem Vals.read {ds:List (Option Nat)} {vs:List Value} {L:Nat→Prop} {a:Act} (V:Vals ds vs L (slotOf a)) (k:Nat) {s:Nat} {v:Value} (hd:ds[k]?=some (some s)) (hv:vs[k]?=some v) (hL:L k):a.tmps[s]?.getD undef=v:=V k s v hd hv hL

class NearI (w w1:World):Prop where
 near:Near w w1
instance NearI.same (w:World):NearI w w:=⟨Near.same w⟩
instance NearI.one (w:World):NearI w w.drew:=⟨Near.one w⟩
section
variable {P:Program} {ops:Array Oper} {Q:Exit→Act→World→Prop} {a0:Act} {slots:List Nat} {J:(Nat→Prop)→(Nat→Value)→World→Prop}

theorem wpAny_par (hb:backward ops=true) (hp:plainOps ops slots=true) (hin:∀ s ∈ slots,s < a0.tmps.size)
  (hstep:∀ L a w,OnlyAt slots a0 a→J L (slotOf a) w→∀ i o,ops[i]?=some o→¬ L i→(∀ e ∈ o.after,Region.binds .any e=true→L e.on) →
   ∀ K':Act→World→Prop,(∀ v w',J (fun k=>L k ∨ k=i) (updS (slotOf a) o.dst v) w'→K' (a.put o.dst v) w')→Wants ops (slotOf a) o (Oper.wp P o a w K' Q) (J (fun k=>L k ∨ k=i) (updS (slotOf a) o.dst undef) w))
  (hend:∀ L a w,OnlyAt slots a0 a→J L (slotOf a) w→(∀ i,i < ops.size→L i)→Q .normal a w) :
  ∀ (fuel:Nat) (listed:Array Bool) (a:Act) (w:World),OnlyAt slots a0 a→listed.size=ops.size→listed.toList.count false≤fuel→J (upL listed) (slotOf a) w →
   wpAny P .any ops Q fuel listed a w:=by
 intro fuel
 have done:∀ (listed:Array Bool) (a:Act) (w:World),OnlyAt slots a0 a→listed.size=ops.size→J (upL listed) (slotOf a) w→Region.ready .any ops listed=[]→Q .normal a w:=by
  intro listed a w ho hs hJ hr
  refine hend _ a w ho hJ (fun i hi=>?_)
  have:=all_up hb hr i i (Nat.le_refl _) hi
  unfold upL
  have h2:i < listed.size:=by omega
  simp [h2] at this ⊢
  exact this
 induction fuel with
 | zero =>
  intro listed a w hoa hs hc hJ
  have hall:∀ i,i < ops.size→listed.getD i true=true:=fun i hi=>by
   have h2:i < listed.size:=by omega
   simp [h2]
   have h3:false ∉ listed.toList:=List.count_eq_zero.1 (by omega)
   cases h4:listed[i] with
   | true=>rfl
   | false=>exact absurd (by rw [← h4]; exact Array.getElem_mem_toList h2) h3
  have hr:Region.ready .any ops listed=[]:=by
   cases h:Region.ready .any ops listed with
   | nil=>rfl
   | cons i l =>
    exfalso
    have hm:i ∈ Region.ready .any ops listed:=by rw [h]; exact List.mem_cons_self ..
    obtain ⟨h1,o,ho,_⟩:=mem_ready.1 hm
    have:=hall i (Array.getElem?_eq_some_iff.1 ho).1
    rw [this] at h1
    cases h1
  exact ⟨hr,done listed a w hoa hs hJ hr⟩
 | succ fuel ih =>
  intro listed a w hoa hs hc hJ
  refine ⟨fun hr=>done listed a w hoa hs hJ hr,fun i hi=>?_⟩
  obtain ⟨h1,o,ho,hd⟩:=mem_ready.1 hi
  have hlt:i < listed.size:=by rw [hs]; exact (Array.getElem?_eq_some_iff.1 ho).1
  have hn:¬ upL listed i:=fun h=>by
   unfold upL at h
   simp [hlt] at h h1
   rw [h] at h1
   cases h1
  have hpo:=(Array.all_eq_true_iff_forall_mem.1 hp) o (Array.mem_of_getElem? ho)
  have hds:∀ s,o.dst=some s→s ∈ slots:=fun s e=>by
   rw [e] at hpo
   simpa using hpo
  refine wpOp_step ho (fun K' hK=>?_)
  have step:∀ v w',J (fun k=>upL listed k ∨ k=i) (updS (slotOf a) o.dst v) w'→K' (a.put o.dst v) w':=fun v w' hJ'=>hK _ _ (by
   refine ih (listed.setIfInBounds i true) _ w' (hoa.put o.dst v hds) (by simp [hs]) ?_ ?_
   ·rw [Array.toList_setIfInBounds,List.count_set (by simpa using hlt)]
    have h2:listed.toList[i]'(by simpa using hlt)=false:=by
     simp [hlt] at h1
     simpa using h1
    rw [h2]
    have h3:0 < listed.toList.count false:=List.count_pos_iff.2 (by rw [← h2]; exact List.getElem_mem _)
    rw [if_pos (by rfl),if_neg (by simp)]
    omega
   ·rw [upL_set listed i hlt,slotOf_put a o.dst v (fun s e=>by rw [hoa.size]; exact hin s (hds s e))]
    exact hJ')
  have h:=hstep (upL listed) a w hoa hJ i o ho hn hd K' step
  unfold Wants at h
  unfold Region.wanted
  cases hg:o.guard with
  | none =>
   rw [hg] at h
   exact h
  | some g =>
   obtain ⟨j,want⟩:=g
   rw [hg] at h
   obtain ⟨s,v,h1,h2,h3,h4⟩:=h
   have h5:=yield_at (want:=want) h1 h2
   show if (yielded ops a.tmps j == some want)=true then _ else _
   by_cases hb:v=.bool want
   ·rw [if_pos (h5.2 hb)]
    exact h3 hb
   ·rw [if_neg (fun e=>hb (h5.1 e))]
    exact step undef w (h4 hb)

end

end Go.Proofs.YthhkmihjnnfpgaaGreatDoor

/- Regions in order by the same invariant as those that draw theirs; blocks that a region makes; cells written in a row. No program in sight. -/
namespace Go.Proofs.YthhkmihjnnfpgaaGreatDoor
set_option linter.all false
open Go.RowKit

def setAll (w:World) (b:Nat):Nat→List Value→World
 | _,[]=>w
 | o,v :: vs=>setAll (w.setCell ⟨b,o,none⟩ v) b (o + 1) vs
def putCells (cs:Array Value):Nat→List Value→Array Value
 | _,[]=>cs
 | o,v :: vs=>putCells (cs.setIfInBounds o v) (o + 1) vs

theorem Blk.one {w:World} {b k:Nat} {cs:Array Value} {T:TypeId} (h:Blk w b cs T) (hk:b ≠ k) (o:Nat) (v:Value):Blk (w.setCell ⟨k,o,none⟩ v) b cs T:=by
 unfold Blk World.setCell at *
 simp only [Array.getElem?_modify,if_neg (Ne.symm hk)]
 exact h
theorem Blk.elseA {w:World} {b k:Nat} {cs:Array Value} {T:TypeId} (h:Blk w b cs T) (hk:b ≠ k) (o:Nat) (vs:List Value):Blk (setAll w k o vs) b cs T:=by
 induction vs generalizing w o with
 | nil=>exact h
 | cons v vs ih=>exact ih (h.one hk o v) (o + 1)
theorem Blk.setA {w:World} {b:Nat} {cs:Array Value} {T:TypeId} (h:Blk w b cs T) (o:Nat) (vs:List Value):Blk (setAll w b o vs) b (putCells cs o vs) T:=by
 induction vs generalizing w o cs with
 | nil=>exact h
 | cons v vs ih=>exact ih (h.set o v) (o + 1)
theorem below_setA (w:World) (B k:Nat) (hB:B≤k) (o:Nat) (vs:List Value):Below B w (setAll w k o vs):=by
 have one:∀ (w:World) (o:Nat) (v:Value),Below B w (w.setCell ⟨k,o,none⟩ v):=fun w o v=>Below.setCell (p:=⟨k,o,none⟩) (Below.refl B w) hB v
 induction vs generalizing w o with
 | nil=>exact Below.refl B w
 | cons v vs ih=>exact (one w o v).trans (ih _ _)
theorem size_setA (w:World) (k o:Nat) (vs:List Value):(setAll w k o vs).heap.size=w.heap.size:=by
 induction vs generalizing w o with
 | nil=>rfl
 | cons v vs ih=>rw [show setAll w k o (v :: vs)=setAll (w.setCell ⟨k,o,none⟩ v) k (o + 1) vs from rfl,ih]; simp

def blkOf:Value→Nat
 | .pointer (some a)=>a.block
 | .slice (some a) _ _=>a.block
 | _=>0

structure NewB (x:Value) (B:Nat) (W:World) (mk:Nat→Value) (cs:Array Value) (T:TypeId):Prop where
 eq:x=mk (blkOf x)
 low:B≤blkOf x
 blk:Blk W (blkOf x) cs T
theorem NewB.of {x:Value} {B g:Nat} {W:World} {mk:Nat→Value} {cs:Array Value} {T:TypeId} (e:x=mk g) (hm:blkOf (mk g)=g) (hg:B≤g) (h:Blk W g cs T):NewB x B W mk cs T:=by
 have e':blkOf x=g:=by rw [e,hm]
 exact ⟨by rw [e',e],by rw [e']; exact hg,by rw [e']; exact h⟩
theorem NewB.below {x:Value} {B:Nat} {W W':World} {mk:Nat→Value} {cs:Array Value} {T:TypeId} (h:NewB x B W mk cs T) (q:Below W.heap.size W W'):NewB x B W' mk cs T:=⟨h.eq,h.low,h.blk.below q⟩
theorem NewB.elseA {x:Value} {B k:Nat} {W:World} {mk:Nat→Value} {cs:Array Value} {T:TypeId} (h:NewB x B W mk cs T) (hk:blkOf x ≠ k) (o:Nat) (vs:List Value):NewB x B (setAll W k o vs) mk cs T:=⟨h.eq,h.low,h.blk.elseA hk o vs⟩
theorem NewB.setA {x:Value} {B:Nat} {W:World} {mk:Nat→Value} {cs:Array Value} {T:TypeId} (h:NewB x B W mk cs T) (o:Nat) (vs:List Value):NewB x B (setAll W (blkOf x) o vs) mk (putCells cs o vs) T:=⟨h.eq,h.low,h.blk.setA o vs⟩

section
variable {P:Program} {ops:Array Oper} {Q:Exit→Act→World→Prop} {a0:Act} {slots:List Nat} {J:(Nat→Prop)→(Nat→Value)→World→Prop}
theorem wpList_par (hp:plainOps ops slots=true) (hin:∀ s ∈ slots,s < a0.tmps.size)
  (hstep:∀ L a w,OnlyAt slots a0 a→J L (slotOf a) w→∀ i o,ops[i]?=some o→¬ L i→(∀ j,j < i→L j) →
   ∀ K':Act→World→Prop,(∀ v w',J (fun k=>L k ∨ k=i) (updS (slotOf a) o.dst v) w'→K' (a.put o.dst v) w')→Wants ops (slotOf a) o (Oper.wp P o a w K' Q) (J (fun k=>L k ∨ k=i) (updS (slotOf a) o.dst undef) w))
  (hend:∀ L a w,OnlyAt slots a0 a→J L (slotOf a) w→(∀ i,i < ops.size→L i)→Q .normal a w) :
  ∀ (l:List Oper) (k:Nat) (a:Act) (w:World),ops.toList.drop k=l→OnlyAt slots a0 a→J (fun i=>i < k) (slotOf a) w→wpList P ops Q l a w
 | [],k,a,w,hl,ho,hJ=>by
  have hk:ops.size≤k:=by
   have:=congrArg List.length hl
   simp at this
   omega
  exact hend _ a w ho hJ (fun i hi=>by omega)
 | o :: rest,k,a,w,hl,ho,hJ=>by
  have hk:ops[k]?=some o:=by
   have:(ops.toList.drop k)[0]?=some o:=by rw [hl]; rfl
   simpa using this
  have hlt:k < ops.size:=(Array.getElem?_eq_some_iff.1 hk).1
  have hrest:ops.toList.drop (k + 1)=rest:=by
   have:=congrArg (List.drop 1) hl
   rw [List.drop_drop] at this
   exact this
  have hpo:=(Array.all_eq_true_iff_forall_mem.1 hp) o (Array.mem_of_getElem? hk)
  have hds:∀ s,o.dst=some s→s ∈ slots:=fun s e=>by
   rw [e] at hpo
   simpa using hpo
  have hL:(fun i=>i < k + 1)=(fun i=>i < k ∨ i=k):=by
   funext i
   apply propext
   omega
  have step:∀ v w',J (fun i=>i < k ∨ i=k) (updS (slotOf a) o.dst v) w'→wpList P ops Q rest (a.put o.dst v) w':=fun v w' hJ'=>by
   refine wpList_par hp hin hstep hend rest (k + 1) _ w' hrest (ho.put o.dst v hds) ?_
   rw [hL,slotOf_put a o.dst v (fun s e=>by rw [ho.size]; exact hin s (hds s e))]
   exact hJ'
  have h:=hstep (fun i=>i < k) a w ho hJ k o hk (Nat.lt_irrefl k) (fun _ h=>h) (wpList P ops Q rest) step
  unfold wpList
  unfold Wants at h
  unfold Region.wanted
  cases hg:o.guard with
  | none =>
   rw [hg] at h
   exact .inl h
  | some g =>
   obtain ⟨j,want⟩:=g
   rw [hg] at h
   obtain ⟨s,v,h1,h2,h3,h4⟩:=h
   have h5:=yield_at (want:=want) h1 h2
   show if (yielded ops a.tmps j == some want)=true then _ else _
   by_cases hb':v=.bool want
   ·rw [if_pos (h5.2 hb')]
    exact .inl (h3 hb')
   ·rw [if_neg (fun e=>hb' (h5.1 e))]
    exact step undef w (h4 hb')

end

end Go.Proofs.YthhkmihjnnfpgaaGreatDoor

/- A region's invariant as tables: what each operation yields, which blocks are made, which are written. No program in sight. -/
namespace Go.Proofs.YthhkmihjnnfpgaaGreatDoor
set_option linter.all false
open Go.RowKit

@[reducible] def Ret (P:Program) (w:World) (f:Nat) (args:Array Value) (v:Value):Prop:=∀ W,Below w.heap.size w W→Calls P f args W fun e w'=>e=.returned v∧Below W.heap.size W w'

inductive Row where
 | v (d:Nat) (x:Value)
 | n (d:Nat)
 | z
def Row.dst:Row→Option Nat
 | .v d _=>some d
 | .n d=>some d
 | .z=>none
structure NB where
 k:Nat
 s:Nat
 m:Nat→Value
 cs:Array Value
 T:TypeId
 st:Option (Nat × Array Value)
structure EB where
 e:Nat
 cs:Array Value
 T:TypeId
 st:Option (Nat × Array Value)
structure AL where
 k:Nat
 d:Nat
 s:Nat
 b:Nat
 m:Nat→Value

def Ph (L:Nat→Prop) (st:Option (Nat × Array Value)) (P:Array Value→Prop) (cs:Array Value):Prop:=match st with
 | none=>P cs
 | some p=>(¬ L p.1→P cs)∧(L p.1→P p.2)
theorem Ph.mono {L L':Nat→Prop} {st:Option (Nat × Array Value)} {P Q:Array Value→Prop} {cs:Array Value} (h:Ph L st P cs) (hL:∀ p,st=some p→(L' p.1 ↔ L p.1)) (f:∀ c,P c→Q c):Ph L' st Q cs:=by
 cases st with
 | none=>exact f _ h
 | some p =>
  have e:=hL p rfl
  exact ⟨fun x=>f _ (h.1 (fun y=>x (e.2 y))),fun x=>f _ (h.2 (e.1 x))⟩
theorem Ph.any {L:Nat→Prop} {st:Option (Nat × Array Value)} {P:Array Value→Prop} {cs:Array Value} {R:Prop} (h:Ph L st P cs) (f:∀ c,P c→R):R:=by
 cases st with
 | none=>exact f _ h
 | some p=>exact (Classical.em (L p.1)).elim (fun x=>f _ (h.2 x)) (fun x=>f _ (h.1 x))

structure RJ (w:World) (B:Nat) (tb:List Row) (ns:List NB) (eb:List EB) (al:List AL) (od:List (Nat × Nat)) (dl:List (Nat × Nat)) (pl:List (Nat × Nat × Value)) (L:Nat→Prop) (σ:Nat→Value) (U:World):Prop where
 vals:∀ (k d:Nat) (x:Value),tb[k]?=some (.v d x)→L k→σ d=x
 news:∀ (i:Nat) (x:NB),ns[i]?=some x→L x.k→Ph L x.st (fun cs=>NewB (σ x.s) B U x.m cs x.T) x.cs
 elds:∀ (i:Nat) (x:EB),eb[i]?=some x→Ph L x.st (fun cs=>Blk U x.e cs x.T) x.cs
 als:∀ (i:Nat) (x:AL),al[i]?=some x→L x.k→σ x.d=x.m (blkOf (σ x.s))∧L x.b
 ord:∀ (i:Nat) (p:Nat × Nat),od[i]?=some p→L p.1→L p.2
 dis:∀ (i:Nat) (p:Nat × Nat) (x y:NB),dl[i]?=some p→ns[p.1]?=some x→ns[p.2]?=some y→L x.k→L y.k→blkOf (σ x.s) ≠ blkOf (σ y.s)
 pre:∀ (i:Nat) (p:Nat × Nat × Value),pl[i]?=some p→¬ L p.2.1→σ p.1=p.2.2
 sz:B≤U.heap.size
 low:w.heap.size≤B
 bb:Below w.heap.size w U

def EldAll (U:World):List EB→Prop
 | []=>True
 | x :: r=>Blk U x.e x.cs x.T∧EldAll U r
theorem EldAll.at_ {U:World}:∀ {l:List EB},EldAll U l→∀ (i:Nat) (x:EB),l[i]?=some x→Blk U x.e x.cs x.T
 | [],_,i,x,h=>by simp at h
 | y :: r,⟨a,b⟩,0,x,h=>by simp at h; subst h; exact a
 | y :: r,⟨a,b⟩,i + 1,x,h=>EldAll.at_ b i x (by simpa using h)
theorem EldAll.below {U U':World}:∀ {l:List EB},EldAll U l→Below U.heap.size U U'→EldAll U' l
 | [],_,_=>trivial
 | _ :: _,⟨a,b⟩,q=>⟨a.below q,EldAll.below b q⟩
def NeAll (e i:Nat):Nat→List EB→Prop
 | _,[]=>True
 | k,x :: r=>(k=i ∨ x.e ≠ e)∧NeAll e i (k + 1) r
theorem NeAll.at_ {e i:Nat}:∀ {k:Nat} {l:List EB},NeAll e i k l→∀ (j:Nat) (x:EB),l[j]?=some x→k + j=i ∨ x.e ≠ e
 | k,[],_,j,x,h=>by simp at h
 | k,y :: r,⟨a,b⟩,0,x,h=>by simp at h; subst h; exact a
 | k,y :: r,⟨a,b⟩,j + 1,x,h=>by
  have:=NeAll.at_ b j x (by simpa using h)
  rcases this with h | h
  ·exact .inl (by omega)
  ·exact .inr h

def PreAll (σ:Nat→Value):List (Nat × Nat × Value)→Prop
 | []=>True
 | x :: r=>σ x.1=x.2.2∧PreAll σ r
theorem PreAll.at_ {σ:Nat→Value}:∀ {l:List (Nat × Nat × Value)},PreAll σ l→∀ (i:Nat) (x:Nat × Nat × Value),l[i]?=some x→σ x.1=x.2.2
 | [],_,i,x,h=>by simp at h
 | y :: r,⟨a,b⟩,0,x,h=>by simp at h; subst h; exact a
 | y :: r,⟨a,b⟩,i + 1,x,h=>PreAll.at_ b i x (by simpa using h)
def okP (pl:List (Nat × Nat × Value)) (k d:Nat):Bool:=pl.all fun p=>p.2.1 == k || p.1 != d
theorem pre_step {pl:List (Nat × Nat × Value)} {L:Nat→Prop} {σ:Nat→Value} {k d:Nat} {v:Value} (h:∀ (i:Nat) (p:Nat × Nat × Value),pl[i]?=some p→¬ L p.2.1→σ p.1=p.2.2) (hk:okP pl k d=true) :
  ∀ (i:Nat) (p:Nat × Nat × Value),pl[i]?=some p→¬ (L p.2.1 ∨ p.2.1=k)→updS σ (some d) v p.1=p.2.2:=fun i p hp hn=>by
 have:=List.all_eq_true.1 hk p (List.mem_of_getElem? hp)
 simp only [Bool.or_eq_true,beq_iff_eq,bne_iff_ne] at this
 have hd:p.1 ≠ d:=this.resolve_left (fun e=>hn (.inr e))
 unfold updS
 simp [hd]
 exact h i p hp (fun x=>hn (.inl x))
def LtAll (B:Nat):List EB→Prop
 | []=>True
 | x :: r=>x.e < B∧LtAll B r
theorem LtAll.at_ {B:Nat}:∀ {l:List EB},LtAll B l→∀ (i:Nat) (x:EB),l[i]?=some x→x.e < B
 | [],_,i,x,h=>by simp at h
 | y :: r,⟨a,b⟩,0,x,h=>by simp at h; subst h; exact a
 | y :: r,⟨a,b⟩,i + 1,x,h=>LtAll.at_ b i x (by simpa using h)
def OdAll (k:Nat) (P:Nat→Prop):List (Nat × Nat)→Prop
 | []=>True
 | x :: r=>(x.1 ≠ k ∨ P x.2)∧OdAll k P r
theorem OdAll.at_ {k:Nat} {P:Nat→Prop}:∀ {l:List (Nat × Nat)},OdAll k P l→∀ (i:Nat) (x:Nat × Nat),l[i]?=some x→x.1=k→P x.2
 | [],_,i,x,h=>by simp at h
 | y :: r,⟨a,b⟩,0,x,h=>fun e=>by simp at h; subst h; exact a.resolve_left (fun f=>f e)
 | y :: r,⟨a,b⟩,i + 1,x,h=>OdAll.at_ b i x (by simpa using h)

section
variable {w:World} {B:Nat} {tb:List Row} {ns:List NB} {eb:List EB} {al:List AL} {od dl:List (Nat × Nat)} {pl:List (Nat × Nat × Value)} {L:Nat→Prop} {σ:Nat→Value} {U U':World}

theorem RJ.start (hB:B=U.heap.size) (hbb:Below w.heap.size w U) (he:EldAll U eb) {σ:Nat→Value} (hp:PreAll σ pl:=by trivial):RJ w B tb ns eb al od dl pl (fun _=>False) σ U where
 vals:=fun _ _ _ _ h=>h.elim
 news:=fun _ _ _ h=>h.elim
 elds:=fun i x h=>by
  have:=he.at_ i x h
  unfold Ph
  split
  ·exact this
  ·exact ⟨fun _=>this,fun h=>h.elim⟩
 als:=fun _ _ _ h=>h.elim
 ord:=fun _ _ _ h=>h.elim
 dis:=fun _ _ _ _ _ _ _ h=>h.elim
 pre:=fun i p h _=>hp.at_ i p h
 sz:=by rw [hB]; exact Nat.le_refl _
 low:=by rw [hB]; exact hbb.size
 bb:=hbb

theorem RJ.read {a:Act} (J:RJ w B tb ns eb al od dl pl L (slotOf a) U) (k:Nat) {d:Nat} {x:Value} (h:tb[k]?=some (.v d x)) (hL:L k):a.tmps[d]?.getD undef=x:=J.vals k d x h hL
theorem RJ.readN {a:Act} (J:RJ w B tb ns eb al od dl pl L (slotOf a) U) (i:Nat) {x:NB} (h:ns[i]?=some x) (hL:L x.k):a.tmps[x.s]?.getD undef=x.m (blkOf (slotOf a x.s)):=(J.news i x h hL).any fun _ h=>h.eq
theorem RJ.readP {a:Act} (J:RJ w B tb ns eb al od dl pl L (slotOf a) U) (i:Nat) {p:Nat × Nat × Value} (h:pl[i]?=some p) (hn:¬ L p.2.1):a.tmps[p.1]?.getD undef=p.2.2:=J.pre i p h hn
theorem RJ.eld (J:RJ w B tb ns eb al od dl pl L σ U) (i:Nat) {e:Nat} {cs:Array Value} {T:TypeId} (h:eb[i]?=some ⟨e,cs,T,none⟩):Blk U e cs T:=J.elds i _ h
theorem RJ.eldB (J:RJ w B tb ns eb al od dl pl L σ U) (i:Nat) {e s:Nat} {cs cs':Array Value} {T:TypeId} (h:eb[i]?=some ⟨e,cs,T,some (s,cs')⟩) (hn:¬ L s):Blk U e cs T:=(J.elds i _ h).1 hn
theorem RJ.nw (J:RJ w B tb ns eb al od dl pl L σ U) (i:Nat) {k s:Nat} {mk:Nat→Value} {cs:Array Value} {T:TypeId} (h:ns[i]?=some ⟨k,s,mk,cs,T,none⟩) (hL:L k):NewB (σ s) B U mk cs T:=J.news i _ h hL
theorem RJ.nwB (J:RJ w B tb ns eb al od dl pl L σ U) (i:Nat) {k s t:Nat} {mk:Nat→Value} {cs cs':Array Value} {T:TypeId} (h:ns[i]?=some ⟨k,s,mk,cs,T,some (t,cs')⟩) (hL:L k) (hn:¬ L t):NewB (σ s) B U mk cs T:=(J.news i _ h hL).1 hn
def chk (pl:List (Nat × Nat × Value)) (tb:List Row) (ns:List NB) (eb:List EB) (al:List AL) (od:List (Nat × Nat)) (k d:Nat):Bool :=
 ((List.range tb.length).all fun j=>j == k || (tb[j]?.bind Row.dst) != some d) && (ns.all fun x=>(x.k == k || x.s != d) && ((x.st.map Prod.fst) != some k)) && (eb.all fun x=>(x.st.map Prod.fst) != some k) && (al.all fun x=>(x.k == k || x.d != d) && (x.b == k || x.s != d)) && (od.all fun p=>p.1 != k) && okP pl k d
structure Chk (pl:List (Nat × Nat × Value)) (tb:List Row) (ns:List NB) (eb:List EB) (al:List AL) (od:List (Nat × Nat)) (k d:Nat):Prop where
 tb:∀ (j e:Nat) (x:Value),tb[j]?=some (.v e x)→j ≠ k→e ≠ d
 ns:∀ (i:Nat) (x:NB),ns[i]?=some x→(x.k=k ∨ x.s ≠ d)∧∀ p,x.st=some p→p.1 ≠ k
 eb:∀ (i:Nat) (x:EB),eb[i]?=some x→∀ p,x.st=some p→p.1 ≠ k
 al:∀ (i:Nat) (x:AL),al[i]?=some x→(x.k=k ∨ x.d ≠ d)∧(x.b=k ∨ x.s ≠ d)
 od:∀ (i:Nat) (p:Nat × Nat),od[i]?=some p→p.1 ≠ k
 pl:okP pl k d=true
theorem Chk.of {k d:Nat} (h:chk pl tb ns eb al od k d=true):Chk pl tb ns eb al od k d:=by
 unfold chk at h
 simp only [Bool.and_eq_true,List.all_eq_true] at h
 obtain ⟨⟨⟨⟨⟨h1,h2⟩,h3⟩,h4⟩,h5⟩,h6⟩:=h
 refine ⟨fun j e x hj hne=>?_,fun i x hx=>?_,fun i x hx p hp=>?_,fun i x hx=>?_,fun i p hp=>?_,h6⟩
 ·have hlt:j < tb.length:=(List.getElem?_eq_some_iff.1 hj).1
  have:=h1 j (List.mem_range.2 hlt)
  rw [hj] at this
  simp [Row.dst,hne] at this
  exact this
 ·have:=h2 x (List.mem_of_getElem? hx)
  simp only [Bool.or_eq_true,beq_iff_eq,bne_iff_ne] at this
  refine ⟨this.1,fun p hp e=>this.2 ?_⟩
  rw [hp,← e]; rfl
 ·have:=h3 x (List.mem_of_getElem? hx)
  simp only [bne_iff_ne] at this
  intro e
  apply this
  rw [hp,← e]; rfl
 ·have:=h4 x (List.mem_of_getElem? hx)
  simp only [Bool.and_eq_true,Bool.or_eq_true,beq_iff_eq,bne_iff_ne] at this
  exact this
 ·have:=h5 p (List.mem_of_getElem? hp)
  simpa using this
theorem upd_other {σ:Nat→Value} {d s:Nat} {v:Value} (h:s ≠ d):updS σ (some d) v s=σ s:=by
 unfold updS
 simp [h]
theorem upd_same {σ:Nat→Value} {d:Nat} {v:Value}:updS σ (some d) v d=v:=by
 unfold updS
 simp
theorem NewB.cong {x y:Value} {B:Nat} {W:World} {mk:Nat→Value} {cs:Array Value} {T:TypeId} (h:NewB x B W mk cs T) (e:y=x):NewB y B W mk cs T:=e ▸ h

theorem RJ.step (J:RJ w B tb ns eb al od dl pl L σ U) (k:Nat) {d:Nat} {v:Value} (h1:tb[k]?=some (.v d v)) (h2:chk pl tb ns eb al od k d=true) (hn:(ns.all fun x=>x.k != k)=true) (ha:(al.all fun x=>x.k != k && x.b != k)=true)
  (q:Below U.heap.size U U'):RJ w B tb ns eb al od dl pl (fun j=>L j ∨ j=k) (updS σ (some d) v) U':=by
 have c:=Chk.of h2
 simp only [List.all_eq_true] at hn ha
 have hn':∀ (i:Nat) (x:NB),ns[i]?=some x→x.k ≠ k:=fun i x hx=>by simpa using hn x (List.mem_of_getElem? hx)
 have ha':∀ (i:Nat) (x:AL),al[i]?=some x→x.k ≠ k∧x.b ≠ k:=fun i x hx=>by simpa using ha x (List.mem_of_getElem? hx)
 have hs:∀ (i:Nat) (x:NB),ns[i]?=some x→updS σ (some d) v x.s=σ x.s:=fun i x hx=>upd_other (((c.ns i x hx).1).resolve_left (hn' i x hx))
 refine ⟨fun j e x hj hL=>?_,fun i x hx hL=>?_,fun i x hx=>?_,fun i x hx hL=>?_,fun i p hp hL=>?_,fun i p x y hp hx hy hL hL'=>?_,pre_step J.pre c.pl,Nat.le_trans J.sz q.size,J.low,J.bb.trans (q.mono J.bb.size)⟩
 ·by_cases e1:j=k
  ·subst e1
   rw [h1] at hj
   cases hj
   exact upd_same
  ·rw [upd_other (c.tb j e x hj e1)]
   exact J.vals j e x hj (hL.resolve_right e1)
 ·have:=J.news i x hx (hL.resolve_right (hn' i x hx))
  refine this.mono (fun p hp=>⟨fun h=>h.resolve_right ((c.ns i x hx).2 p hp),.inl⟩) (fun cs h=>(h.below q).cong (hs i x hx))
 ·exact (J.elds i x hx).mono (fun p hp=>⟨fun h=>h.resolve_right (c.eb i x hx p hp),.inl⟩) (fun cs h=>h.below q)
 ·obtain ⟨a1,a2⟩:=J.als i x hx (hL.resolve_right (ha' i x hx).1)
  rw [upd_other (((c.al i x hx).1).resolve_left (ha' i x hx).1),upd_other (((c.al i x hx).2).resolve_left (ha' i x hx).2)]
  exact ⟨a1,.inl a2⟩
 ·exact .inl (J.ord i p hp (hL.resolve_right (c.od i p hp)))
 ·rw [hs _ x hx,hs _ y hy]
  exact J.dis i p x y hp hx hy (hL.resolve_right (hn' _ x hx)) (hL'.resolve_right (hn' _ y hy))

theorem RJ.stepO (J:RJ w B tb ns eb al od dl pl L σ U) (k:Nat) {d:Nat} {v:Value} (h1:tb[k]?=some (.v d v)) (h2:chk pl tb ns eb al [] k d=true) (hod':OdAll k L od) (hn:(ns.all fun x=>x.k != k)=true) (ha:(al.all fun x=>x.k != k && x.b != k)=true)
  (q:Below U.heap.size U U'):RJ w B tb ns eb al od dl pl (fun j=>L j ∨ j=k) (updS σ (some d) v) U':=by
 have c:=Chk.of h2
 simp only [List.all_eq_true] at hn ha
 have hn':∀ (i:Nat) (x:NB),ns[i]?=some x→x.k ≠ k:=fun i x hx=>by simpa using hn x (List.mem_of_getElem? hx)
 have ha':∀ (i:Nat) (x:AL),al[i]?=some x→x.k ≠ k∧x.b ≠ k:=fun i x hx=>by simpa using ha x (List.mem_of_getElem? hx)
 have hs:∀ (i:Nat) (x:NB),ns[i]?=some x→updS σ (some d) v x.s=σ x.s:=fun i x hx=>upd_other (((c.ns i x hx).1).resolve_left (hn' i x hx))
 refine ⟨fun j e x hj hL=>?_,fun i x hx hL=>?_,fun i x hx=>?_,fun i x hx hL=>?_,fun i p hp hL=>?_,fun i p x y hp hx hy hL hL'=>?_,pre_step J.pre c.pl,Nat.le_trans J.sz q.size,J.low,J.bb.trans (q.mono J.bb.size)⟩
 ·by_cases e1:j=k
  ·subst e1
   rw [h1] at hj
   cases hj
   exact upd_same
  ·rw [upd_other (c.tb j e x hj e1)]
   exact J.vals j e x hj (hL.resolve_right e1)
 ·have:=J.news i x hx (hL.resolve_right (hn' i x hx))
  refine this.mono (fun p hp=>⟨fun h=>h.resolve_right ((c.ns i x hx).2 p hp),.inl⟩) (fun cs h=>(h.below q).cong (hs i x hx))
 ·exact (J.elds i x hx).mono (fun p hp=>⟨fun h=>h.resolve_right (c.eb i x hx p hp),.inl⟩) (fun cs h=>h.below q)
 ·obtain ⟨a1,a2⟩:=J.als i x hx (hL.resolve_right (ha' i x hx).1)
  rw [upd_other (((c.al i x hx).1).resolve_left (ha' i x hx).1),upd_other (((c.al i x hx).2).resolve_left (ha' i x hx).2)]
  exact ⟨a1,.inl a2⟩
 ·by_cases e1:p.1=k
  ·exact .inl (hod'.at_ i p hp e1)
  ·exact .inl (J.ord i p hp (hL.resolve_right e1))
 ·rw [hs _ x hx,hs _ y hy]
  exact J.dis i p x y hp hx hy (hL.resolve_right (hn' _ x hx)) (hL'.resolve_right (hn' _ y hy))

theorem RJ.made (J:RJ w B tb ns eb al od dl pl L σ U) (k i:Nat) {d g:Nat} {mk:Nat→Value} {cs:Array Value} {T:TypeId} {st:Option (Nat × Array Value)} {v:Value} (hx:ns[i]?=some ⟨k,d,mk,cs,T,st⟩) (h1:tb[k]?=some (.n d)) (h2:chk pl tb ns eb al od k d=true)
  (h3:((List.range ns.length).all fun j=>j == i || (ns[j]?.map NB.k) != some k)=true) (h4:(al.all fun x=>x.k != k)=true) (h5:(st.all fun p=>od.contains (p.1,k))=true) (hal:(al.all fun x=>x.b != k || x.s == d)=true)
  (hd:(dl.all fun p=>p.1 != p.2)=true) (hv:v=mk g) (hb:blkOf (mk g)=g) (hg:U.heap.size≤g) (hB:Blk U' g cs T) (q:Below U.heap.size U U') (hnot:¬ L k):RJ w B tb ns eb al od dl pl (fun j=>L j ∨ j=k) (updS σ (some d) v) U':=by
 have c:=Chk.of h2
 simp only [List.all_eq_true] at h3 h4
 have hne:∀ (j:Nat) (x:NB),ns[j]?=some x→j ≠ i→x.k ≠ k:=fun j x hj hji=>by
  have:=h3 j (List.mem_range.2 (List.getElem?_eq_some_iff.1 hj).1)
  rw [hj] at this
  simpa [hji] using this
 have hal':∀ (i:Nat) (x:AL),al[i]?=some x→x.k ≠ k:=fun i x hx=>by simpa using h4 x (List.mem_of_getElem? hx)
 have hs:∀ (j:Nat) (x:NB),ns[j]?=some x→j ≠ i→updS σ (some d) v x.s=σ x.s:=fun j x hj hji=>upd_other (((c.ns j x hj).1).resolve_left (hne j x hj hji))
 have hold:∀ (j:Nat) (x:NB),ns[j]?=some x→L x.k→blkOf (σ x.s) < U.heap.size:=fun j x hj hL=>(J.news j x hj hL).any fun _ h=>h.blk.lt
 have hvg:blkOf v=g:=by rw [hv,hb]
 refine ⟨fun j e x hj hL=>?_,fun j x hj hL=>?_,fun j x hj=>?_,fun j x hj hL=>?_,fun j p hp hL=>?_,fun j p x y hp hxx hyy hL hL'=>?_,pre_step J.pre c.pl,Nat.le_trans J.sz q.size,J.low,J.bb.trans (q.mono J.bb.size)⟩
 ·have e1:j ≠ k:=fun e=>by rw [e,h1] at hj; cases hj
  rw [upd_other (c.tb j e x hj e1)]
  exact J.vals j e x hj (hL.resolve_right e1)
 ·by_cases e:j=i
  ·subst e
   rw [hx] at hj
   cases hj
   have new:NewB (updS σ (some d) v d) B U' mk cs T:=by
    rw [upd_same]
    exact NewB.of hv hb (Nat.le_trans J.sz hg) hB
   cases st with
   | none=>exact new
   | some p =>
    refine ⟨fun _=>new,fun h=>?_⟩
    exfalso
    have hp1:p.1 ≠ k:=(c.ns j _ hx).2 p rfl
    have hm:(p.1,k) ∈ od:=by simpa using h5
    obtain ⟨u,hu1,hu2⟩:=List.mem_iff_getElem.1 hm
    exact hnot (J.ord u (p.1,k) (by rw [List.getElem?_eq_getElem hu1,hu2]) (h.resolve_right hp1))
  ·have hk:=hne j x hj e
   exact (J.news j x hj (hL.resolve_right hk)).mono (fun p hp=>⟨fun h=>h.resolve_right ((c.ns j x hj).2 p hp),.inl⟩) (fun cs h=>(h.below q).cong (hs j x hj e))
 ·exact (J.elds j x hj).mono (fun p hp=>⟨fun h=>h.resolve_right (c.eb j x hj p hp),.inl⟩) (fun cs h=>h.below q)
 ·have hk:=hal' j x hj
  obtain ⟨a1,a2⟩:=J.als j x hj (hL.resolve_right hk)
  have hb':x.b ≠ k:=fun e=>hnot (e ▸ a2)
  rw [upd_other (((c.al j x hj).1).resolve_left hk),upd_other (((c.al j x hj).2).resolve_left hb')]
  exact ⟨a1,.inl a2⟩
 ·exact .inl (J.ord j p hp (hL.resolve_right (c.od j p hp)))
 ·by_cases e1:p.1=i
  ·by_cases e2:p.2=i
   ·exfalso
    have:=List.all_eq_true.1 hd p (List.mem_of_getElem? hp)
    rw [e1,e2] at this
    simp at this
   ·rw [e1,hx] at hxx
    cases hxx
    show blkOf (updS σ (some d) v d) ≠ _
    rw [upd_same,hs _ y hyy e2,hvg]
    have:=hold _ y hyy (hL'.resolve_right (hne _ y hyy e2))
    omega
  ·by_cases e2:p.2=i
   ·rw [e2,hx] at hyy
    cases hyy
    show _ ≠ blkOf (updS σ (some d) v d)
    rw [upd_same,hs _ x hxx e1,hvg]
    have:=hold _ x hxx (hL.resolve_right (hne _ x hxx e1))
    omega
   ·rw [hs _ x hxx e1,hs _ y hyy e2]
    exact J.dis j p x y hp hxx hyy (hL.resolve_right (hne _ x hxx e1)) (hL'.resolve_right (hne _ y hyy e2))

def okV (pl:List (Nat × Nat × Value)) (tb:List Row) (ns:List NB) (eb:List EB) (al:List AL) (od:List (Nat × Nat)) (k d:Nat):Bool:=chk pl tb ns eb al od k d && ((ns.all fun x=>x.k != k) && (al.all fun x=>x.k != k && x.b != k))
theorem RJ.sq (J:RJ w B tb ns eb al od dl pl L σ U) (k:Nat) {d:Nat} {v:Value} (h1:tb[k]?=some (.v d v)) (h2:okV pl tb ns eb al od k d=true) (q:Below U.heap.size U U'):RJ w B tb ns eb al od dl pl (fun j=>L j ∨ j=k) (updS σ (some d) v) U':=by
 unfold okV at h2
 simp only [Bool.and_eq_true] at h2
 exact J.step k h1 h2.1 h2.2.1 (by simpa using h2.2.2) q
theorem RJ.sto (J:RJ w B tb ns eb al od dl pl L σ U) (k:Nat) {d:Nat} {v:Value} (h1:tb[k]?=some (.v d v)) (h2:okV pl tb ns eb al [] k d=true) (hod:OdAll k L od) (q:Below U.heap.size U U'):RJ w B tb ns eb al od dl pl (fun j=>L j ∨ j=k) (updS σ (some d) v) U':=by
 unfold okV at h2
 simp only [Bool.and_eq_true] at h2
 exact J.stepO k h1 h2.1 hod h2.2.1 (by simpa using h2.2.2) q
theorem RJ.st (J:RJ w B tb ns eb al od dl pl L σ U) (k:Nat) {d:Nat} {v:Value} (h1:tb[k]?=some (.v d v)) (h2:okV pl tb ns eb al od k d=true):RJ w B tb ns eb al od dl pl (fun j=>L j ∨ j=k) (updS σ (some d) v) U:=J.sq k h1 h2 (Below.refl _ _)
def okN (pl:List (Nat × Nat × Value)) (tb:List Row) (ns:List NB) (eb:List EB) (al:List AL) (od dl:List (Nat × Nat)) (k i d:Nat) (st:Option (Nat × Array Value)):Bool :=
 chk pl tb ns eb al od k d && (((List.range ns.length).all fun j=>j == i || (ns[j]?.map NB.k) != some k) && ((al.all fun x=>x.k != k) && ((st.all fun p=>od.contains (p.1,k)) && ((al.all fun x=>x.b != k || x.s == d) && (dl.all fun p=>p.1 != p.2)))))
theorem RJ.mq (J:RJ w B tb ns eb al od dl pl L σ U) (k i:Nat) {d g:Nat} {mk:Nat→Value} {cs:Array Value} {T:TypeId} {st:Option (Nat × Array Value)} {v:Value} (hx:ns[i]?=some ⟨k,d,mk,cs,T,st⟩) (h1:tb[k]?=some (.n d)) (h2:okN pl tb ns eb al od dl k i d st=true)
  (hv:v=mk g) (hb:blkOf (mk g)=g) (hg:U.heap.size≤g) (hB:Blk U' g cs T) (q:Below U.heap.size U U') (hnot:¬ L k):RJ w B tb ns eb al od dl pl (fun j=>L j ∨ j=k) (updS σ (some d) v) U':=by
 unfold okN at h2
 simp only [Bool.and_eq_true] at h2
 exact J.made k i hx h1 h2.1 h2.2.1 h2.2.2.1 h2.2.2.2.1 h2.2.2.2.2.1 h2.2.2.2.2.2 hv hb hg hB q hnot
theorem RJ.mf (J:RJ w B tb ns eb al od dl pl L σ U) (k i:Nat) {d:Nat} {mk:Nat→Value} {cs:Array Value} {T:TypeId} {st:Option (Nat × Array Value)} {v:Value} (hx:ns[i]?=some ⟨k,d,mk,cs,T,st⟩) (h1:tb[k]?=some (.n d)) (h2:okN pl tb ns eb al od dl k i d st=true)
  (hv:v=mk U.heap.size) (hb:blkOf (mk U.heap.size)=U.heap.size) (hnot:¬ L k):RJ w B tb ns eb al od dl pl (fun j=>L j ∨ j=k) (updS σ (some d) v) (U.alloc (.cells cs T)) :=
 J.mq k i hx h1 h2 hv hb (Nat.le_refl _) (Blk.fresh U cs T) (below_new U _) hnot

def chkS (ns:List NB) (al:List AL) (tb:List Row) (k:Nat):Bool:=(ns.all fun x=>x.k != k) && (al.all fun x=>x.k != k) && ((tb[k]?.bind Row.dst) == none)
structure ChkS (ns:List NB) (al:List AL) (tb:List Row) (k:Nat):Prop where
 ns:∀ (i:Nat) (x:NB),ns[i]?=some x→x.k ≠ k
 al:∀ (i:Nat) (x:AL),al[i]?=some x→x.k ≠ k
 tb:∀ (d:Nat) (x:Value),tb[k]? ≠ some (.v d x)
theorem ChkS.of {k:Nat} (h:chkS ns al tb k=true):ChkS ns al tb k:=by
 unfold chkS at h
 simp only [Bool.and_eq_true,List.all_eq_true] at h
 refine ⟨fun i x hx=>by simpa using h.1.1 x (List.mem_of_getElem? hx),fun i x hx=>by simpa using h.1.2 x (List.mem_of_getElem? hx),fun d x hx=>?_⟩
 have:=h.2
 rw [hx] at this
 simp [Row.dst] at this

def apart (ns:List NB) (dl:List (Nat × Nat)) (i:Nat):Bool:=(List.range ns.length).all fun j=>j == i || dl.contains (i,j) || dl.contains (j,i)

theorem RJ.storedN (J:RJ w B tb ns eb al od dl pl L σ U) (k i:Nat) {k0 s:Nat} {mk:Nat→Value} {cs cs':Array Value} {T:TypeId} {v:Value} (hx:ns[i]?=some ⟨k0,s,mk,cs,T,some (k,cs')⟩) (h1:chkS ns al tb k=true)
  (h2:((List.range ns.length).all fun j=>j == i || (ns[j]?.bind fun x=>x.st.map Prod.fst) != some k)=true) (h3:(eb.all fun x=>(x.st.map Prod.fst) != some k)=true) (h4:apart ns dl i=true)
  (o:Nat) (vs:List Value) (hcs:putCells cs o vs=cs') (helds':LtAll B eb) (hk0:L k0) (hnot:¬ L k) (hod':OdAll k L od) :
  RJ w B tb ns eb al od dl pl (fun j=>L j ∨ j=k) (updS σ none v) (setAll U (blkOf (σ s)) o vs):=by
 have c:=ChkS.of h1
 have hod:=hod'.at_
 have helds:=helds'.at_
 simp only [List.all_eq_true] at h2 h3
 have hσ:updS σ none v=σ:=rfl
 rw [hσ]
 have me:NewB (σ s) B U mk cs T:=(J.news i _ hx hk0).1 hnot
 have hst3:∀ (j:Nat) (x:EB),eb[j]?=some x→∀ p,x.st=some p→p.1 ≠ k:=fun j x hj p hp e=>by
  have:=h3 x (List.mem_of_getElem? hj)
  rw [hp] at this
  simp [e] at this
 have hst2:∀ (j:Nat) (x:NB),ns[j]?=some x→j ≠ i→∀ p,x.st=some p→p.1 ≠ k:=fun j x hj hji p hp e=>by
  have:=h2 j (List.mem_range.2 (List.getElem?_eq_some_iff.1 hj).1)
  rw [hj] at this
  simp [hji,hp,e] at this
 refine ⟨fun j d x hj hL=>?_,fun j x hj hL=>?_,fun j x hj=>?_,fun j x hj hL=>?_,fun j p hp hL=>?_,fun j p x y hp hxx hyy hL hL'=>?_,fun j p hp hn'=>J.pre j p hp (fun x=>hn' (.inl x)),by rw [size_setA]; exact J.sz,J.low,J.bb.trans (below_setA U w.heap.size _ (Nat.le_trans J.low me.low) o vs)⟩
 ·exact J.vals j d x hj (hL.resolve_right (fun e=>c.tb d x (e ▸ hj)))
 ·have hL':=hL.resolve_right (c.ns j x hj)
  by_cases hji:j=i
  ·subst hji
   rw [hx] at hj
   cases hj
   exact ⟨fun h=>absurd (.inr rfl) h,fun _=>hcs ▸ me.setA o vs⟩
  ·have hne:blkOf (σ x.s) ≠ blkOf (σ s):=by
    have:=List.all_eq_true.1 h4 j (List.mem_range.2 (List.getElem?_eq_some_iff.1 hj).1)
    simp [hji] at this
    rcases this with h | h
    ·obtain ⟨u,hu1,hu2⟩:=List.mem_iff_getElem.1 h
     exact Ne.symm (J.dis u (i,j) _ x (by rw [List.getElem?_eq_getElem hu1,hu2]) hx hj hk0 hL')
    ·obtain ⟨u,hu1,hu2⟩:=List.mem_iff_getElem.1 h
     exact J.dis u (j,i) x _ (by rw [List.getElem?_eq_getElem hu1,hu2]) hj hx hL' hk0
   exact (J.news j x hj hL').mono (fun p hp=>⟨fun h=>h.resolve_right (hst2 j x hj hji p hp),.inl⟩) (fun cs h=>h.elseA hne o vs)
 ·exact (J.elds j x hj).mono (fun p hp=>⟨fun h=>h.resolve_right (hst3 j x hj p hp),.inl⟩) (fun cs h=>h.elseA (fun e=>by have:=helds j x hj; have:=me.low; omega) o vs)
 ·obtain ⟨a1,a2⟩:=J.als j x hj (hL.resolve_right (c.al j x hj))
  exact ⟨a1,.inl a2⟩
 ·by_cases e1:p.1=k
  ·exact .inl (hod j p hp e1)
  ·exact .inl (J.ord j p hp (hL.resolve_right e1))
 ·exact J.dis j p x y hp hxx hyy (hL.resolve_right (c.ns _ x hxx)) (hL'.resolve_right (c.ns _ y hyy))

def slotsOf:List Row→List Nat
 | []=>[]
 | .v d _ :: r=>d :: slotsOf r
 | .n d :: r=>d :: slotsOf r
 | .z :: r=>slotsOf r
theorem RJ.drew (J:RJ w B tb ns eb al od dl pl L σ U):RJ w B tb ns eb al od dl pl L σ U.drew:=by
 have q:Below U.heap.size U U.drew:=(Below.refl _ _).drew
 exact ⟨J.vals,fun i x hx hL=>(J.news i x hx hL).mono (fun _ _=>Iff.rfl) (fun cs h=>h.below q),fun i x hx=>(J.elds i x hx).mono (fun _ _=>Iff.rfl) (fun cs h=>h.below q),J.als,J.ord,J.dis,J.pre,Nat.le_trans J.sz q.size,J.low,J.bb.drew⟩
end

section
variable {P:Program} {ops:Array Oper} {Q:Exit→Act→World→Prop}
theorem wp_region_par2 {id:Nat} {a:Act} {w:World} (hm:P.follows .mixedOrders=true) (slots:List Nat) (J:(Nat→Prop)→(Nat→Value)→World→Prop) (hb:backward ops=true) (hp:plainOps ops slots=true)
  (hin:(slots.all fun s=>decide (s < a.tmps.size))=true) (h0:J (fun _=>False) (slotOf a) w.drew)
  (hstep:AllOps (fun i o=>∀ L a' w',OnlyAt slots a a'→J L (slotOf a') w'→¬ L i→Waited L o.after.toList →
   ∀ K':Act→World→Prop,Hid (∀ v w'',J (fun k=>L k ∨ k=i) (updS (slotOf a') o.dst v) w''→K' (a'.put o.dst v) w'')→Wants ops (slotOf a') o (Oper.wp P o a' w' K' Q) (J (fun k=>L k ∨ k=i) (updS (slotOf a') o.dst undef) w')) 0 ops.toList)
  (hend:∀ L σ w',J L σ w'→(∀ i,i < ops.size→L i)→Q .normal (putAll a slots (slots.map σ)) w'):(Code.region id ops true).wp P Q a w:=by
 refine wp_region_any hm ?_
 have hin':∀ s ∈ slots,s < a.tmps.size:=fun s hs=>by simpa using List.all_eq_true.1 hin s hs
 exact wpAny_par (P:=P) (Q:=Q) (a0:=a) (slots:=slots) (J:=J) hb hp hin' (fun L a' w' hoa hJ i o ho hn hd K' hK=>by
  have:=AllOps.at_ ops.toList 0 i o hstep (by simpa using ho)
  rw [Nat.zero_add] at this
  exact this L a' w' hoa hJ hn (Waited.of _ (by simpa using hd)) K' hK)
  (fun L a' w' hoa hJ hL=>by rw [hoa.eq hin']; exact hend L _ w' hJ hL) ops.size (Array.replicate ops.size false) a w.drew ⟨rfl,rfl,fun _ _=>rfl⟩ (by simp) (by simp) (by
   have e:upL (Array.replicate ops.size false)=fun _=>False:=by
    funext k
    unfold upL
    apply propext
    by_cases h:k < ops.size <;> simp [h]
   rw [e]
   exact h0)
theorem wp_region_seq2 {id:Nat} {a:Act} {w:World} (slots:List Nat) (J:(Nat→Prop)→(Nat→Value)→World→Prop) (hp:plainOps ops slots=true)
  (hin:(slots.all fun s=>decide (s < a.tmps.size))=true) (h0:J (fun _=>False) (slotOf a) w)
  (hstep:AllOps (fun i o=>∀ L a' w',OnlyAt slots a a'→J L (slotOf a') w'→¬ L i→(∀ j,Nat.blt j i=true→L j) →
   ∀ K':Act→World→Prop,Hid (∀ v w'',J (fun k=>L k ∨ k=i) (updS (slotOf a') o.dst v) w''→K' (a'.put o.dst v) w'')→Wants ops (slotOf a') o (Oper.wp P o a' w' K' Q) (J (fun k=>L k ∨ k=i) (updS (slotOf a') o.dst undef) w')) 0 ops.toList)
  (hend:∀ L σ w',J L σ w'→(∀ i,i < ops.size→L i)→Q .normal (putAll a slots (slots.map σ)) w'):(Code.region id ops false).wp P Q a w:=by
 refine wp_region_list ?_
 have hin':∀ s ∈ slots,s < a.tmps.size:=fun s hs=>by simpa using List.all_eq_true.1 hin s hs
 refine wpList_par (P:=P) (Q:=Q) (a0:=a) (slots:=slots) (J:=J) hp hin' (fun L a' w' hoa hJ i o ho hn hd K' hK=>by
  have:=AllOps.at_ ops.toList 0 i o hstep (by simpa using ho)
  rw [Nat.zero_add] at this
  exact this L a' w' hoa hJ hn (fun j hj=>hd j (Nat.le_of_ble_eq_true hj)) K' hK)
  (fun L a' w' hoa hJ hL=>by rw [hoa.eq hin']; exact hend L _ w' hJ hL) ops.toList 0 a w rfl ⟨rfl,rfl,fun _ _=>rfl⟩ ?_
 have e:(fun i=>i < 0)=fun _:Nat=>False:=by
  funext k
  exact propext ⟨fun h=>absurd h (Nat.not_lt_zero k),False.elim⟩
 rw [e]
 exact h0
end

end Go.Proofs.YthhkmihjnnfpgaaGreatDoor

/- Operations of a region worked out on the region's tables by the kernel: no walk for each of them. No program in sight. -/
namespace Go.Proofs.YthhkmihjnnfpgaaGreatDoor
set_option linter.all false
open Go.RowKit

def evL {α:Type} (P:Program):Sem α→List Value→Option (α × List (Addr × Value))
 | .pure a,[]=>some (a,[])
 | .load _ a k,v :: vs=>(evL P (k v) vs).map fun r=>(r.1,(a,v) :: r.2)
 | .program k,vs=>evL P (k P) vs
 | .mark _ k,vs=>evL P k vs
 | _,_=>none
theorem evL_run {α:Type} {P:Program} {w:World} (s:Sem α):∀ (vs:List Value) (x:α) (r:List (Addr × Value)),evL P s vs=some (x,r)→(∀ p ∈ r,w.cell? p.1=some p.2)→s.run P w=.ok x w:=by
 induction s with
 | pure a =>
  intro vs x r h hr
  cases vs with
  | nil=>simp [evL] at h; rw [Sem.run,h.1]
  | cons v vs=>simp [evL] at h
 | load m a k ih =>
  intro vs x r h hr
  cases vs with
  | nil=>simp [evL] at h
  | cons v vs =>
   simp only [evL] at h
   cases hk:evL P (k v) vs with
   | none=>rw [hk] at h; cases h
   | some q =>
    rw [hk] at h
    simp only [Option.map_some,Option.some.injEq,Prod.mk.injEq] at h
    obtain ⟨h1,h2⟩:=h
    have hc:w.cell? a=some v:=hr (a,v) (by rw [← h2]; exact List.mem_cons_self)
    rw [Sem.run,hc]
    exact ih v vs x q.2 (by rw [hk,← h1]) (fun p hp=>hr p (by rw [← h2]; exact List.mem_cons_of_mem _ hp))
 | program k ih =>
  intro vs x r h hr
  rw [Sem.run]
  exact ih P vs x r (by simpa [evL] using h) hr
 | mark m k ih =>
  intro vs x r h hr
  rw [Sem.run]
  exact ih vs x r (by simpa [evL] using h) hr
 | _=>intro vs x r h; cases vs <;> simp [evL] at h

def opnds:Op→Option (List Operand)
 | .move x | .assign x=>some [x]
 | .pick c a b=>some [c,a,b]
 | .alloc _=>some []
 | .box _ x=>some [x]
 | .build _ ps=>some (ps.toList.map Prod.snd)
 | .buildSlice _ _ ps=>some (ps.toList.map Prod.snd)
 | .load _ x=>some [x]
 | .binOp _ _ x y _=>some [x,y]
 | .unOp _ _ x=>some [x]
 | .convert _ _ x=>some [x]
 | .fieldAddr _ x _=>some [x]
 | .field _ x _=>some [x]
 | .extract x _=>some [x]
 | .indexAddr _ x i=>some [x,i]
 | .index _ x i=>some [x,i]
 | .call ⟨.builtin _,args,_⟩=>some args.toList
 | .call ⟨.value f,args,_⟩=>some (f :: args.toList)
 | _=>none
theorem parts_congr {ρ ρ':Operand→Value} (ps:Array (Nat × Operand)) (h:∀ x ∈ ps.toList.map Prod.snd,ρ x=ρ' x):(ps.map fun p=>(p.1,ρ p.2))=ps.map fun p=>(p.1,ρ' p.2):=by
 apply Array.map_congr_left
 intro p hp
 rw [h p.2 (List.mem_map.2 ⟨p,by simpa using hp,rfl⟩)]
theorem args_congr {ρ ρ':Operand→Value} (ps:Array Operand) (h:∀ x ∈ ps.toList,ρ x=ρ' x):ps.map ρ=ps.map ρ':=by
 apply Array.map_congr_left
 intro p hp
 exact h p (by simpa using hp)
theorem exec_congr {ρ ρ':Operand→Value} (o:Oper) (l:List Operand) (ho:opnds o.op=some l) (h:∀ x ∈ l,ρ x=ρ' x):execOp ρ o=execOp ρ' o:=by
 obtain ⟨dst,op,type,pos,after,guard⟩:=o
 have one:∀ {x:Operand},[x]=l→ρ x=ρ' x:=fun e=>h _ (by rw [← e]; simp)
 cases op with
 | move x=>simp only [opnds,Option.some.injEq] at ho; simp only [execOp,one ho]
 | assign x=>simp only [opnds,Option.some.injEq] at ho; simp only [execOp,one ho]
 | pick c a b =>
  simp only [opnds,Option.some.injEq] at ho
  subst ho
  simp only [execOp,h c (by simp),h a (by simp),h b (by simp)]
 | alloc e=>rfl
 | box e x=>simp only [opnds,Option.some.injEq] at ho; simp only [execOp,one ho]
 | build t ps=>simp only [opnds,Option.some.injEq] at ho; subst ho; simp only [execOp]; rw [parts_congr ps h]
 | buildSlice t n ps=>simp only [opnds,Option.some.injEq] at ho; subst ho; simp only [execOp]; rw [parts_congr ps h]
 | load t x=>simp only [opnds,Option.some.injEq] at ho; simp only [execOp,one ho]
 | binOp b t x y u =>
  simp only [opnds,Option.some.injEq] at ho
  subst ho
  simp only [execOp,h x (by simp),h y (by simp)]
 | unOp b t x=>simp only [opnds,Option.some.injEq] at ho; simp only [execOp,one ho]
 | convert s t x=>simp only [opnds,Option.some.injEq] at ho; simp only [execOp,one ho]
 | fieldAddr t x i=>simp only [opnds,Option.some.injEq] at ho; simp only [execOp,one ho]
 | field t x i=>simp only [opnds,Option.some.injEq] at ho; simp only [execOp,one ho]
 | extract x i=>simp only [opnds,Option.some.injEq] at ho; simp only [execOp,one ho]
 | indexAddr t x y =>
  simp only [opnds,Option.some.injEq] at ho
  subst ho
  simp only [execOp,h x (by simp),h y (by simp)]
 | index t x y =>
  simp only [opnds,Option.some.injEq] at ho
  subst ho
  simp only [execOp,h x (by simp),h y (by simp)]
 | call c =>
  obtain ⟨callee,args,ts⟩:=c
  cases callee with
  | builtin b =>
   simp only [opnds,Option.some.injEq] at ho
   subst ho
   simp only [execOp,resolve]
   rw [args_congr args h]
  | value f =>
   simp only [opnds,Option.some.injEq] at ho
   subst ho
   simp only [execOp,resolve,h f (by simp)]
   rw [args_congr args fun x hx=>h x (by simp [hx])]
  | invoke r n=>simp [opnds] at ho
 | _=>simp [opnds] at ho

def lookR:List Row→Nat→Nat→Option (Nat × Row)
 | [],_,_=>none
 | .v d x :: tb,k,s=>bif Nat.beq d s then some (k,.v d x) else lookR tb (k + 1) s
 | .n d :: tb,k,s=>bif Nat.beq d s then some (k,.n d) else lookR tb (k + 1) s
 | .z :: tb,k,s=>lookR tb (k + 1) s
theorem look_at:∀ (tb:List Row) (k s j:Nat) (r:Row),lookR tb k s=some (j,r)→k≤j∧tb[j - k]?=some r∧r.dst=some s
 | [],k,s,j,r,h=>by simp [lookR] at h
 | .v d x :: tb,k,s,j,r,h=>by
  unfold lookR at h
  cases hb:Nat.beq d s with
  | true =>
   rw [hb] at h
   simp only [cond_true,Option.some.injEq,Prod.mk.injEq] at h
   obtain ⟨rfl,rfl⟩:=h
   refine ⟨Nat.le_refl _,by simp,?_⟩
   show some d=some s
   rw [Nat.eq_of_beq_eq_true hb]
  | false =>
   rw [hb] at h
   obtain ⟨h1,h2,h3⟩:=look_at tb (k + 1) s j r (by simpa using h)
   exact ⟨by omega,by rw [show j - k=(j - (k + 1)) + 1 by omega]; simpa using h2,h3⟩
 | .n d :: tb,k,s,j,r,h=>by
  unfold lookR at h
  cases hb:Nat.beq d s with
  | true =>
   rw [hb] at h
   simp only [cond_true,Option.some.injEq,Prod.mk.injEq] at h
   obtain ⟨rfl,rfl⟩:=h
   refine ⟨Nat.le_refl _,by simp,?_⟩
   show some d=some s
   rw [Nat.eq_of_beq_eq_true hb]
  | false =>
   rw [hb] at h
   obtain ⟨h1,h2,h3⟩:=look_at tb (k + 1) s j r (by simpa using h)
   exact ⟨by omega,by rw [show j - k=(j - (k + 1)) + 1 by omega]; simpa using h2,h3⟩
 | .z :: tb,k,s,j,r,h=>by
  unfold lookR at h
  obtain ⟨h1,h2,h3⟩:=look_at tb (k + 1) s j r h
  exact ⟨by omega,by rw [show j - k=(j - (k + 1)) + 1 by omega]; simpa using h2,h3⟩
def nvalN:List NB→(Nat→Value)→Nat→Option (Nat × Value)
 | [],_,_=>none
 | x :: r,σ,d=>bif x.s == d then some (x.k,x.m (blkOf (σ x.s))) else nvalN r σ d
def nvalA:List AL→(Nat→Value)→Nat→Option (Nat × Value)
 | [],_,_=>none
 | x :: r,σ,d=>bif x.d == d then some (x.k,x.m (blkOf (σ x.s))) else nvalA r σ d
def nval (ns:List NB) (al:List AL) (σ:Nat→Value) (d:Nat):Option (Nat × Value):=match nvalN ns σ d with
 | some p=>some p
 | none=>nvalA al σ d
def rho (tb:List Row) (ns:List NB) (al:List AL) (σ:Nat→Value) (a0:Act):Operand→Value
 | .tmp s=>match lookR tb 0 s with
  | some (_,.v _ x)=>x
  | some (_,.n d)=>match nval ns al σ d with
   | some p=>p.2
   | none=>undef
  | _=>a0.tmps[s]?.getD undef
 | .const v=>v
 | .global g=>.pointer (some ⟨g,0,none⟩)
 | .func f=>.func (.func f) #[] #[]
def okRd (tb:List Row) (ns:List NB) (al:List AL) (slots:List Nat) (rdy:Nat→Bool):Operand→Bool
 | .tmp s=>match lookR tb 0 s with
  | some (k,.v _ _)=>rdy k
  | some (k,.n d)=>(match nval ns al (fun _=>undef) d with
   | some p=>Nat.beq p.1 k && rdy k
   | none=>false)
  | some (_,.z)=>false
  | none=>slots.all fun t=>!Nat.beq t s
 | _=>true
theorem nvalN_at:∀ (ns:List NB) (σ:Nat→Value) (d:Nat) (p:Nat × Value),nvalN ns σ d=some p→∃ (i:Nat) (x:NB),ns[i]?=some x∧x.s=d∧x.k=p.1∧p.2=x.m (blkOf (σ x.s))
 | [],σ,d,p,h=>by simp [nvalN] at h
 | x :: r,σ,d,p,h=>by
  unfold nvalN at h
  cases hb:(x.s == d) with
  | true =>
   rw [hb] at h
   simp only [cond_true,Option.some.injEq] at h
   exact ⟨0,x,rfl,by simpa using hb,by rw [← h],by rw [← h]⟩
  | false =>
   rw [hb] at h
   obtain ⟨i,y,h1,h2⟩:=nvalN_at r σ d p (by simpa using h)
   exact ⟨i + 1,y,by simpa using h1,h2⟩
theorem nvalA_at:∀ (al:List AL) (σ:Nat→Value) (d:Nat) (p:Nat × Value),nvalA al σ d=some p→∃ (i:Nat) (x:AL),al[i]?=some x∧x.d=d∧x.k=p.1∧p.2=x.m (blkOf (σ x.s))
 | [],σ,d,p,h=>by simp [nvalA] at h
 | x :: r,σ,d,p,h=>by
  unfold nvalA at h
  cases hb:(x.d == d) with
  | true =>
   rw [hb] at h
   simp only [cond_true,Option.some.injEq] at h
   exact ⟨0,x,rfl,by simpa using hb,by rw [← h],by rw [← h]⟩
  | false =>
   rw [hb] at h
   obtain ⟨i,y,h1,h2⟩:=nvalA_at r σ d p (by simpa using h)
   exact ⟨i + 1,y,by simpa using h1,h2⟩
theorem nvalN_fst:∀ (ns:List NB) (σ τ:Nat→Value) (d:Nat),(nvalN ns σ d).map Prod.fst=(nvalN ns τ d).map Prod.fst
 | [],σ,τ,d=>rfl
 | x :: r,σ,τ,d=>by
  unfold nvalN
  cases (x.s == d) with
  | true=>rfl
  | false=>exact nvalN_fst r σ τ d
theorem nvalA_fst:∀ (ns:List AL) (σ τ:Nat→Value) (d:Nat),(nvalA ns σ d).map Prod.fst=(nvalA ns τ d).map Prod.fst
 | [],σ,τ,d=>rfl
 | x :: r,σ,τ,d=>by
  unfold nvalA
  cases (x.d == d) with
  | true=>rfl
  | false=>exact nvalA_fst r σ τ d
theorem nval_fst (ns:List NB) (al:List AL) (σ τ:Nat→Value) (d:Nat):(nval ns al σ d).map Prod.fst=(nval ns al τ d).map Prod.fst:=by
 unfold nval
 have h:=nvalN_fst ns σ τ d
 cases h1:nvalN ns σ d with
 | none =>
  cases h2:nvalN ns τ d with
  | none=>exact nvalA_fst al σ τ d
  | some q=>rw [h1,h2] at h; cases h
 | some p =>
  cases h2:nvalN ns τ d with
  | none=>rw [h1,h2] at h; cases h
  | some q=>rw [h1,h2] at h; exact h

section
variable {w:World} {B:Nat} {tb:List Row} {ns:List NB} {eb:List EB} {al:List AL} {od dl:List (Nat × Nat)} {pl:List (Nat × Nat × Value)} {L:Nat→Prop} {U:World} {slots:List Nat} {a0 a:Act} {rdy:Nat→Bool}
theorem RJ.nv (J:RJ w B tb ns eb al od dl pl L (slotOf a) U) (d k:Nat) (v:Value) (h:nval ns al (slotOf a) d=some (k,v)) (hL:L k):slotOf a d=v:=by
 unfold nval at h
 cases h1:nvalN ns (slotOf a) d with
 | some p =>
  rw [h1] at h
  simp only [Option.some.injEq] at h
  subst h
  obtain ⟨i,x,hx,e1,e2,e3⟩:=nvalN_at ns _ d _ h1
  have:=J.news i x hx (by rw [e2]; exact hL)
  have e:=this.any fun _ h=>h.eq
  rw [← e1]
  exact e.trans e3.symm
 | none =>
  rw [h1] at h
  obtain ⟨i,x,hx,e1,e2,e3⟩:=nvalA_at al _ d _ h
  have:=(J.als i x hx (by rw [e2]; exact hL)).1
  rw [← e1]
  exact this.trans e3.symm
theorem rho_ok (J:RJ w B tb ns eb al od dl pl L (slotOf a) U) (ho:OnlyAt slots a0 a) (hr:∀ k,rdy k=true→L k) (x:Operand) (h:okRd tb ns al slots rdy x=true):a.eval x=rho tb ns al (slotOf a) a0 x:=by
 cases x with
 | const v=>rfl
 | global g=>rfl
 | func f=>rfl
 | tmp s =>
  have es:a.eval (.tmp s)=slotOf a s:=by
   show a.tmps.getD s undef=a.tmps[s]?.getD undef
   rw [Array.getD_eq_getD_getElem?]
  rw [es]
  simp only [okRd] at h
  simp only [rho]
  cases hl:lookR tb 0 s with
  | none =>
   rw [hl] at h
   have hs:s ∉ slots:=fun hm=>by
    have:=List.all_eq_true.1 h s hm
    simp at this
   unfold slotOf
   rw [ho.far s hs]
  | some p =>
   obtain ⟨k,r⟩:=p
   obtain ⟨_,h2,h3⟩:=look_at tb 0 s k r hl
   rw [Nat.sub_zero] at h2
   rw [hl] at h
   cases r with
   | v d x =>
    simp only [Row.dst,Option.some.injEq] at h3
    subst h3
    exact J.vals k d x h2 (hr k h)
   | n d =>
    simp only [Row.dst,Option.some.injEq] at h3
    subst h3
    simp only at h ⊢
    have hf:=nval_fst ns al (fun _=>undef) (slotOf a) d
    cases hq:nval ns al (fun _=>undef) d with
    | none=>rw [hq] at h; cases h
    | some q =>
     rw [hq] at h hf
     cases hq':nval ns al (slotOf a) d with
     | none=>rw [hq'] at hf; cases hf
     | some q' =>
      rw [hq'] at hf
      simp only [Option.map_some,Option.some.injEq] at hf
      simp only [Bool.and_eq_true] at h
      have e1:q'.1=k:=by rw [← hf]; exact Nat.eq_of_beq_eq_true h.1
      exact J.nv d k q'.2 (by rw [hq',← e1]) (hr k h.2)
   | z=>cases h
end

def Up (dr:Bool) (i:Nat) (o:Oper) (L:Nat→Prop):Prop:=match dr with
 | true=>Waited L o.after.toList
 | false=>∀ j,Nat.blt j i=true→L j
def rdyB (dr:Bool) (i:Nat) (o:Oper) (k:Nat):Bool:=match dr with
 | true=>o.after.toList.any fun e=>Region.binds .any e && Nat.beq e.on k
 | false=>Nat.blt k i
theorem Up.get {dr:Bool} {i:Nat} {o:Oper} {L:Nat→Prop} (h:Up dr i o L) (k:Nat) (hk:rdyB dr i o k=true):L k:=by
 cases dr with
 | true=>exact Waited.get h k (by simpa [rdyB,Nat.beq_eq_true_eq] using hk)
 | false=>exact h k hk
def isU (u:Value):Bool:=match u with
 | .tuple xs=>Nat.beq xs.size 0
 | _=>false
theorem isU_eq {u:Value} (h:isU u=true):u=undef:=by
 cases u with
 | tuple xs =>
  have h1:xs.size=0:=Nat.eq_of_beq_eq_true h
  rw [Array.eq_empty_of_size_eq_zero h1]
  rfl
 | _=>cases h
def okG (tb:List Row) (ops:Array Oper) (rdy:Nat→Bool) (o:Oper) (go:Bool):Bool:=match o.guard with
 | none=>go
 | some (j,b)=>rdy j && (match tb[j]?,ops[j]?.bind fun x=>x.dst with
  | some (.v s (.bool c)),some t=>Nat.beq s t && ((c == b) == go)
  | some (.v s u),some t=>Nat.beq s t && (!go && isU u)
  | _,_=>false)

def Ob (P:Program) (ops:Array Oper) (Q:Exit→Act→World→Prop) (a0:Act) (slots:List Nat) (w:World) (B:Nat) (tb:List Row) (ns:List NB) (eb:List EB) (al:List AL) (od dl:List (Nat × Nat)) (pl:List (Nat × Nat × Value)) (dr:Bool) (i:Nat) (o:Oper):Prop :=
 ∀ L a' w',OnlyAt slots a0 a'→RJ w B tb ns eb al od dl pl L (slotOf a') w'→¬ L i→Up dr i o L →
  ∀ K':Act→World→Prop,Hid (∀ v w'',RJ w B tb ns eb al od dl pl (fun k=>L k ∨ k=i) (updS (slotOf a') o.dst v) w''→K' (a'.put o.dst v) w'')→Wants ops (slotOf a') o (Oper.wp P o a' w' K' Q) (RJ w B tb ns eb al od dl pl (fun k=>L k ∨ k=i) (updS (slotOf a') o.dst undef) w')

section
variable {P:Program} {ops:Array Oper} {Q:Exit→Act→World→Prop} {a0:Act} {slots:List Nat} {w:World} {B:Nat} {tb:List Row} {ns:List NB} {eb:List EB} {al:List AL} {od dl:List (Nat × Nat)} {pl:List (Nat × Nat × Value)} {dr:Bool} {i:Nat} {o:Oper}
theorem wants_go {L:Nat→Prop} {a:Act} {U:World} {p q:Prop} (J:RJ w B tb ns eb al od dl pl L (slotOf a) U) (hu:Up dr i o L) (h:okG tb ops (rdyB dr i o) o true=true) (hp:p):Wants ops (slotOf a) o p q:=by
 unfold okG at h
 cases hg:o.guard with
 | none=>exact .free hg hp
 | some g =>
  obtain ⟨j,b⟩:=g
  rw [hg] at h
  simp only [Bool.and_eq_true] at h
  obtain ⟨h1,h2⟩:=h
  split at h2
  ·rename_i s c t e1 e2
   simp only [Bool.and_eq_true] at h2
   have est:=Nat.eq_of_beq_eq_true h2.1
   have ecb:c=b:=by
    have:=h2.2
    cases c <;> cases b <;> simp_all
   subst est ecb
   exact .pos hg e2 (J.vals j s _ e1 (hu.get j h1)) hp
  ·simp at h2
  ·cases h2
theorem wants_skip {L:Nat→Prop} {a:Act} {U:World} {p q:Prop} (J:RJ w B tb ns eb al od dl pl L (slotOf a) U) (hu:Up dr i o L) (h:okG tb ops (rdyB dr i o) o false=true) (hq:q):Wants ops (slotOf a) o p q:=by
 unfold okG at h
 cases hg:o.guard with
 | none=>rw [hg] at h; cases h
 | some g =>
  obtain ⟨j,b⟩:=g
  rw [hg] at h
  simp only [Bool.and_eq_true] at h
  obtain ⟨h1,h2⟩:=h
  split at h2
  ·rename_i s c t e1 e2
   simp only [Bool.and_eq_true] at h2
   have est:=Nat.eq_of_beq_eq_true h2.1
   have ecb:b=!c:=by
    have:=h2.2
    cases c <;> cases b <;> simp_all
   subst est
   exact .neg (b:=c) (by rw [hg,ecb]) e2 (J.vals j s _ e1 (hu.get j h1)) hq
  ·rename_i s u t _ e1 e2
   simp only [Bool.and_eq_true] at h2
   have est:=Nat.eq_of_beq_eq_true h2.1
   subst est
   exact .out hg e2 ((J.vals j s _ e1 (hu.get j h1)).trans (isU_eq h2.2.2)) hq
  ·cases h2

def rowD (tb:List Row) (i:Nat):Nat:=match tb[i]? with
 | some (.v d _)=>d
 | some (.n d)=>d
 | _=>0
def rowX (tb:List Row) (i:Nat):Value:=match tb[i]? with
 | some (.v _ x)=>x
 | _=>undef
def isV (tb:List Row) (i:Nat):Bool:=match tb[i]? with
 | some (.v _ _)=>true
 | _=>false
theorem isV_at (h:isV tb i=true):tb[i]?=some (.v (rowD tb i) (rowX tb i)):=by
 unfold isV at h
 split at h
 ·rename_i d x e
  unfold rowD rowX
  rw [e]
 ·cases h
def isD (o:Oper) (d:Nat):Bool:=match o.dst with
 | some s=>Nat.beq s d
 | none=>false
theorem isD_at {d:Nat} (h:isD o d=true):o.dst=some d:=by
 unfold isD at h
 split at h
 ·rename_i s e
  rw [e,Nat.eq_of_beq_eq_true h]
 ·cases h
def okOp (tb:List Row) (ns:List NB) (al:List AL) (slots:List Nat) (rdy:Nat→Bool) (o:Oper):Bool:=match opnds o.op with
 | some l=>l.all (okRd tb ns al slots rdy)
 | none=>false
def ckV (ops:Array Oper) (slots:List Nat) (tb:List Row) (ns:List NB) (eb:List EB) (al:List AL) (od:List (Nat × Nat)) (pl:List (Nat × Nat × Value)) (dr:Bool) (i:Nat) (o:Oper):Bool :=
 okG tb ops (rdyB dr i o) o true && (isV tb i && (isD o (rowD tb i) && (okOp tb ns al slots (rdyB dr i o) o && okV pl tb ns eb al od i (rowD tb i))))
theorem okOp_at {L:Nat→Prop} {a:Act} {U:World} (J:RJ w B tb ns eb al od dl pl L (slotOf a) U) (ho:OnlyAt slots a0 a) (hu:Up dr i o L) (h:okOp tb ns al slots (rdyB dr i o) o=true):execOp a.eval o=execOp (rho tb ns al (slotOf a) a0) o:=by
 unfold okOp at h
 cases hl:opnds o.op with
 | none=>rw [hl] at h; cases h
 | some l =>
  rw [hl] at h
  exact exec_congr o l hl fun x hx=>rho_ok J ho (fun k hk=>hu.get k hk) x (List.all_eq_true.1 h x hx)
theorem pu (hc:ckV ops slots tb ns eb al od pl dr i o=true:=by kernel_rfl) (he:∀ σ,evL P (execOp (rho tb ns al σ a0) o) []=some (.value (rowX tb i),[]):=by (intro σ; kernel_rfl)):Ob P ops Q a0 slots w B tb ns eb al od dl pl dr i o:=by
 intro L a U ho J hn hu K hK
 unfold ckV at hc
 simp only [Bool.and_eq_true] at hc
 obtain ⟨c1,c2,c3,c4,c5⟩:=hc
 refine wants_go J hu c1 ?_
 have hd:=isD_at c3
 unfold Oper.wp
 rw [okOp_at J ho hu c4,evL_run _ _ _ _ (he (slotOf a)) (fun p hp=>by cases hp)]
 refine hK.out _ _ ?_
 rw [hd]
 exact J.st i (isV_at c2) c5
def rowReq (b:Nat):Nat→List Value→List (Addr × Value)
 | _,[]=>[]
 | o,v :: vs=>(⟨b,o,none⟩,v) :: rowReq b (o + 1) vs
theorem rowReq_at {W:World} {b:Nat} {cs:Array Value} {T:TypeId} (h:Blk W b cs T):∀ (vs:List Value) (o:Nat),(∀ j,j < vs.length→cs[o + j]?=vs[j]?)→∀ p ∈ rowReq b o vs,W.cell? p.1=some p.2
 | [],o,_,p,hp=>by simp [rowReq] at hp
 | v :: vs,o,hc,p,hp=>by
  unfold rowReq at hp
  rcases List.mem_cons.1 hp with rfl | hp
  ·exact h.at_ o v (by have:=hc 0 (by simp); simpa using this)
  ·exact rowReq_at h vs (o + 1) (fun j hj=>by have:=hc (j + 1) (by simpa using hj); simpa [Nat.add_assoc,Nat.add_comm 1 j] using this) p hp
def cellsV:Value→List Value
 | .agg cs=>cs.toList
 | v=>[v]
def ebE (eb:List EB) (j:Nat):Nat:=match eb[j]? with
 | some x=>x.e
 | none=>0
def ebC (eb:List EB) (j:Nat):Array Value:=match eb[j]? with
 | some x=>x.cs
 | none=>#[]
def eldOk (eb:List EB) (od:List (Nat × Nat)) (j i:Nat):Bool:=match eb[j]? with
 | some ⟨_,_,_,none⟩=>true
 | some ⟨_,_,_,some (s,_)⟩=>od.any fun p=>Nat.beq p.1 s && Nat.beq p.2 i
 | none=>false
theorem eld_at {L:Nat→Prop} {σ:Nat→Value} {U:World} {j:Nat} (J:RJ w B tb ns eb al od dl pl L σ U) (hn:¬ L i) (h:eldOk eb od j i=true):∃ T,Blk U (ebE eb j) (ebC eb j) T:=by
 unfold eldOk at h
 split at h
 ·rename_i e cs T he
  refine ⟨T,?_⟩
  unfold ebE ebC
  rw [he]
  exact J.eld j he
 ·rename_i e cs T s cs' he
  refine ⟨T,?_⟩
  unfold ebE ebC
  rw [he]
  refine J.eldB j he (fun hs=>hn ?_)
  obtain ⟨p,hp,hq⟩:=List.any_eq_true.1 h
  simp only [Bool.and_eq_true] at hq
  obtain ⟨u,hu1,hu2⟩:=List.mem_iff_getElem.1 hp
  have e1:=Nat.eq_of_beq_eq_true hq.1
  have e2:=Nat.eq_of_beq_eq_true hq.2
  rw [← e2]
  exact J.ord u p (by rw [List.getElem?_eq_getElem hu1,hu2]) (by rw [e1]; exact hs)
 ·cases h
theorem take_at {cs:Array Value} {off:Nat} {vs:List Value} (h:(cs.toList.drop off).take vs.length=vs):∀ j,j < vs.length→cs[off + j]?=vs[j]?:=by
 intro j hj
 conv=>rhs; rw [← h]
 rw [List.getElem?_take,if_pos hj,List.getElem?_drop,Array.getElem?_toList]
theorem ld (j off:Nat) (hc:(ckV ops slots tb ns eb al od pl dr i o && eldOk eb od j i)=true:=by kernel_rfl)
  (he:∀ σ,evL P (execOp (rho tb ns al σ a0) o) (cellsV (rowX tb i))=some (.value (rowX tb i),rowReq (ebE eb j) off (cellsV (rowX tb i))):=by (intro σ; kernel_rfl))
  (hcs:((ebC eb j).toList.drop off).take (cellsV (rowX tb i)).length=cellsV (rowX tb i):=by kernel_rfl):Ob P ops Q a0 slots w B tb ns eb al od dl pl dr i o:=by
 intro L a U ho J hn hu K hK
 simp only [Bool.and_eq_true] at hc
 obtain ⟨hc,h2⟩:=hc
 unfold ckV at hc
 simp only [Bool.and_eq_true] at hc
 obtain ⟨c1,c2,c3,c4,c5⟩:=hc
 refine wants_go J hu c1 ?_
 obtain ⟨T,hb⟩:=eld_at J hn h2
 have hd:=isD_at c3
 unfold Oper.wp
 rw [okOp_at J ho hu c4,evL_run _ _ _ _ (he (slotOf a)) (rowReq_at hb _ off (take_at hcs))]
 refine hK.out _ _ ?_
 rw [hd]
 exact J.st i (isV_at c2) c5
def nbS (ns:List NB) (j:Nat):Nat:=match ns[j]? with
 | some x=>x.s
 | none=>0
def nbC (ns:List NB) (j:Nat):Array Value:=match ns[j]? with
 | some x=>x.cs
 | none=>#[]
def nbT (ns:List NB) (j:Nat):TypeId:=match ns[j]? with
 | some x=>x.T
 | none=>0
def nbM (ns:List NB) (j:Nat):Nat→Value:=match ns[j]? with
 | some x=>x.m
 | none=>fun _=>undef
def newOk (ns:List NB) (al:List AL) (od:List (Nat × Nat)) (rdy:Nat→Bool) (j i:Nat):Bool:=match ns[j]? with
 | some ⟨k,_,_,_,_,st⟩=>(rdy k || al.any fun x=>rdy x.k && Nat.beq x.b k) && (match st with
  | none=>true
  | some (s,_)=>od.any fun p=>Nat.beq p.1 s && Nat.beq p.2 i)
 | none=>false
theorem new_at {L:Nat→Prop} {σ:Nat→Value} {U:World} {j:Nat} (J:RJ w B tb ns eb al od dl pl L σ U) (hu:Up dr i o L) (hn:¬ L i) (h:newOk ns al od (rdyB dr i o) j i=true):Blk U (blkOf (σ (nbS ns j))) (nbC ns j) (nbT ns j):=by
 unfold newOk at h
 unfold nbS nbC nbT
 cases hx:ns[j]? with
 | none=>rw [hx] at h; cases h
 | some x =>
  obtain ⟨k,s,m,cs,T,st⟩:=x
  rw [hx] at h
  simp only [Bool.and_eq_true,Bool.or_eq_true] at h
  obtain ⟨h1,h2⟩:=h
  have hL:L k:=by
   rcases h1 with h1 | h1
   ·exact hu.get k h1
   ·obtain ⟨x,hx,hq⟩:=List.any_eq_true.1 h1
    simp only [Bool.and_eq_true] at hq
    obtain ⟨u,hu1,hu2⟩:=List.mem_iff_getElem.1 hx
    have:=(J.als u x (by rw [List.getElem?_eq_getElem hu1,hu2]) (hu.get _ hq.1)).2
    rwa [Nat.eq_of_beq_eq_true hq.2] at this
  cases st with
  | none=>exact (J.nw j hx hL).blk
  | some p =>
   obtain ⟨t,cs'⟩:=p
   refine (J.nwB j hx hL fun hs=>hn ?_).blk
   obtain ⟨p,hp,hq⟩:=List.any_eq_true.1 h2
   simp only [Bool.and_eq_true] at hq
   obtain ⟨u,hu1,hu2⟩:=List.mem_iff_getElem.1 hp
   rw [← Nat.eq_of_beq_eq_true hq.2]
   exact J.ord u p (by rw [List.getElem?_eq_getElem hu1,hu2]) (by rw [Nat.eq_of_beq_eq_true hq.1]; exact hs)
def isN (tb:List Row) (i:Nat):Bool:=match tb[i]? with
 | some (.n _)=>true
 | _=>false
theorem isN_at (h:isN tb i=true):tb[i]?=some (.n (rowD tb i)):=by
 unfold isN at h
 split at h
 ·rename_i d e
  unfold rowD
  rw [e]
 ·cases h
def ckN (ops:Array Oper) (slots:List Nat) (tb:List Row) (ns:List NB) (eb:List EB) (al:List AL) (od dl:List (Nat × Nat)) (pl:List (Nat × Nat × Value)) (dr:Bool) (i:Nat) (o:Oper) (j:Nat):Bool :=
 okG tb ops (rdyB dr i o) o true && (isN tb i && (isD o (rowD tb i) && (okOp tb ns al slots (rdyB dr i o) o && (match ns[j]? with
  | some x=>Nat.beq x.k i && (Nat.beq x.s (rowD tb i) && okN pl tb ns eb al od dl i j (rowD tb i) x.st)
  | none=>false))))
theorem ml (j:Nat) (hc:ckN ops slots tb ns eb al od dl pl dr i o j=true:=by kernel_rfl)
  (he:∀ σ w,(execOp (rho tb ns al σ a0) o).run P w=.ok (.value (nbM ns j w.heap.size)) (w.alloc (.cells (nbC ns j) (nbT ns j))):=by (intro σ w; kernel_rfl))
  (hb:∀ n,blkOf (nbM ns j n)=n:=by (intro n; kernel_rfl)):Ob P ops Q a0 slots w B tb ns eb al od dl pl dr i o:=by
 intro L a U ho J hn hu K hK
 unfold ckN at hc
 simp only [Bool.and_eq_true] at hc
 obtain ⟨c1,c2,c3,c4,c5⟩:=hc
 refine wants_go J hu c1 ?_
 have hd:=isD_at c3
 unfold Oper.wp
 rw [okOp_at J ho hu c4,he (slotOf a) U]
 refine hK.out _ _ ?_
 rw [hd]
 unfold nbM at hb ⊢
 unfold nbC nbT
 cases hx:ns[j]? with
 | none=>rw [hx] at c5; cases c5
 | some x =>
  obtain ⟨k,s,m,cs,T,st⟩:=x
  rw [hx] at c5 hb
  simp only [Bool.and_eq_true] at c5
  obtain ⟨d1,d2,d3⟩:=c5
  have e1:=Nat.eq_of_beq_eq_true d1
  have e2:=Nat.eq_of_beq_eq_true d2
  subst e1 e2
  exact J.mf _ j hx (isN_at c2) d3 rfl (hb _) hn
theorem sk (hc:(okG tb ops (rdyB dr i o) o false && (isV tb i && (isD o (rowD tb i) && okV pl tb ns eb al od i (rowD tb i))))=true:=by kernel_rfl) (hx:rowX tb i=undef:=by kernel_rfl):Ob P ops Q a0 slots w B tb ns eb al od dl pl dr i o:=by
 intro L a U ho J hn hu K hK
 simp only [Bool.and_eq_true] at hc
 obtain ⟨c1,c2,c3,c4⟩:=hc
 refine wants_skip J hu c1 ?_
 rw [isD_at c3]
 have:=isV_at c2
 rw [hx] at this
 exact J.st i this c4
theorem cl {f:Nat} {args:Array Value} {v:Value} (H:Ret P w f args v) (hc:ckV ops slots tb ns eb al od pl dr i o=true:=by kernel_rfl) (he:∀ σ,evL P (execOp (rho tb ns al σ a0) o) []=some (.enter f args,[]):=by (intro σ; kernel_rfl)) (hv:rowX tb i=v:=by kernel_rfl) :
  Ob P ops Q a0 slots w B tb ns eb al od dl pl dr i o:=by
 intro L a U ho J hn hu K hK
 unfold ckV at hc
 simp only [Bool.and_eq_true] at hc
 obtain ⟨c1,c2,c3,c4,c5⟩:=hc
 refine wants_go J hu c1 ?_
 have hd:=isD_at c3
 unfold Oper.wp
 rw [okOp_at J ho hu c4,evL_run _ _ _ _ (he (slotOf a)) (fun p hp=>by cases hp),Oper.upon_enter]
 refine (H U J.bb).mono ?_
 rintro e w' ⟨rfl,q⟩
 refine hK.out _ _ ?_
 have hs:=isV_at c2
 rw [hv] at hs
 rw [hd]
 exact J.sq i hs c5 q
theorem c1 (j:Nat) {f:Nat} {args:Nat→Array Value} {cs:Array Value} {T:TypeId} {v:Value} (H:∀ (W:World) (b:Nat),Blk W b cs T→Below w.heap.size w W→Calls P f (args b) W fun e w'=>e=.returned v∧Below W.heap.size W w')
  (hc:(ckV ops slots tb ns eb al od pl dr i o && newOk ns al od (rdyB dr i o) j i)=true:=by kernel_rfl) (hcs:nbC ns j=cs:=by kernel_rfl) (hT:nbT ns j=T:=by kernel_rfl)
  (he:∀ σ,evL P (execOp (rho tb ns al σ a0) o) []=some (.enter f (args (blkOf (σ (nbS ns j)))),[]):=by (intro σ; kernel_rfl)) (hv:rowX tb i=v:=by kernel_rfl) :
  Ob P ops Q a0 slots w B tb ns eb al od dl pl dr i o:=by
 intro L a U ho J hn hu K hK
 simp only [Bool.and_eq_true] at hc
 obtain ⟨hc,h2⟩:=hc
 unfold ckV at hc
 simp only [Bool.and_eq_true] at hc
 obtain ⟨c1,c2,c3,c4,c5⟩:=hc
 refine wants_go J hu c1 ?_
 have hb:=new_at J hu hn h2
 rw [hcs,hT] at hb
 have hd:=isD_at c3
 unfold Oper.wp
 rw [okOp_at J ho hu c4,evL_run _ _ _ _ (he (slotOf a)) (fun p hp=>by cases hp),Oper.upon_enter]
 refine (H U _ hb J.bb).mono ?_
 rintro e w' ⟨rfl,q⟩
 refine hK.out _ _ ?_
 have hs:=isV_at c2
 rw [hv] at hs
 rw [hd]
 exact J.sq i hs c5 q
theorem c2 (j u:Nat) {f:Nat} {args:Nat→Nat→Array Value} {cs cs':Array Value} {T T':TypeId} {v:Value} (H:∀ (W:World) (b b':Nat),Blk W b cs T→Blk W b' cs' T'→Below w.heap.size w W→Calls P f (args b b') W fun e w'=>e=.returned v∧Below W.heap.size W w')
  (hc:(ckV ops slots tb ns eb al od pl dr i o && (newOk ns al od (rdyB dr i o) j i && newOk ns al od (rdyB dr i o) u i))=true:=by kernel_rfl) (hcs:nbC ns j=cs:=by kernel_rfl) (hT:nbT ns j=T:=by kernel_rfl) (hcs':nbC ns u=cs':=by kernel_rfl) (hT':nbT ns u=T':=by kernel_rfl)
  (he:∀ σ,evL P (execOp (rho tb ns al σ a0) o) []=some (.enter f (args (blkOf (σ (nbS ns j))) (blkOf (σ (nbS ns u)))),[]):=by (intro σ; kernel_rfl)) (hv:rowX tb i=v:=by kernel_rfl) :
  Ob P ops Q a0 slots w B tb ns eb al od dl pl dr i o:=by
 intro L a U ho J hn hu K hK
 simp only [Bool.and_eq_true] at hc
 obtain ⟨hc,h2,h3⟩:=hc
 unfold ckV at hc
 simp only [Bool.and_eq_true] at hc
 obtain ⟨c1,c2,c3,c4,c5⟩:=hc
 refine wants_go J hu c1 ?_
 have hb:=new_at J hu hn h2
 have hb':=new_at J hu hn h3
 rw [hcs,hT] at hb
 rw [hcs',hT'] at hb'
 have hd:=isD_at c3
 unfold Oper.wp
 rw [okOp_at J ho hu c4,evL_run _ _ _ _ (he (slotOf a)) (fun p hp=>by cases hp),Oper.upon_enter]
 refine (H U _ _ hb hb' J.bb).mono ?_
 rintro e w' ⟨rfl,q⟩
 refine hK.out _ _ ?_
 have hs:=isV_at c2
 rw [hv] at hs
 rw [hd]
 exact J.sq i hs c5 q
end

theorem blt_lt {a b:Nat} (h:Nat.blt a b=true):a < b:=Nat.le_of_ble_eq_true h
def finX (ns:List NB) (al:List AL) (σ:Nat→Value):List Row→List Value
 | []=>[]
 | .v _ x :: r=>x :: finX ns al σ r
 | .n d :: r=>(match nval ns al σ d with
  | some p=>p.2
  | none=>undef) :: finX ns al σ r
 | .z :: r=>finX ns al σ r
def FinN (σ:Nat→Value) (w W:World):List NB→Prop
 | []=>True
 | ⟨_,s,_,cs,T,none⟩ :: r=>(Hid (w.heap.size≤blkOf (σ s))∧Hid (Blk W (blkOf (σ s)) cs T))∧FinN σ w W r
 | ⟨_,s,_,_,T,some (_,cs)⟩ :: r=>(Hid (w.heap.size≤blkOf (σ s))∧Hid (Blk W (blkOf (σ s)) cs T))∧FinN σ w W r
def FinE (W:World):List EB→Prop
 | []=>True
 | ⟨e,cs,T,none⟩ :: r=>Hid (Blk W e cs T)∧FinE W r
 | ⟨e,_,T,some (_,cs)⟩ :: r=>Hid (Blk W e cs T)∧FinE W r
def FinX (σ:Nat→Value) (ns:List NB) (eb:List EB):List (Nat × Nat)→Prop
 | []=>True
 | p :: r=>Hid (ebE eb p.1 ≠ blkOf (σ (nbS ns p.2)))∧FinX σ ns eb r
def FinD (σ:Nat→Value) (ns:List NB):List (Nat × Nat)→Prop
 | []=>True
 | p :: r=>Hid (blkOf (σ (nbS ns p.1)) ≠ blkOf (σ (nbS ns p.2)))∧FinD σ ns r
def okRow (ns:List NB) (al:List AL) (n:Nat):Row→Bool
 | .n d=>match nval ns al (fun _=>undef) d with
  | some p=>Nat.blt p.1 n
  | none=>false
 | _=>true
def ckT (P:Program) (ops:Array Oper) (n:Nat) (tb:List Row) (ns:List NB) (eb:List EB) (al:List AL) (dl xd:List (Nat × Nat)) (dr:Bool):Bool :=
 (!dr || (P.follows .mixedOrders && backward ops)) && (plainOps ops (slotsOf tb) && (((slotsOf tb).all fun s=>decide (s < n)) && (Nat.beq tb.length ops.size && ((ns.all fun x=>Nat.blt x.k ops.size && (x.st.all fun p=>Nat.blt p.1 ops.size)) && ((eb.all fun x=>x.st.all fun p=>Nat.blt p.1 ops.size) && ((xd.all fun p=>Nat.blt p.1 eb.length && Nat.blt p.2 ns.length) && ((dl.all fun p=>Nat.blt p.1 ns.length && Nat.blt p.2 ns.length) && (tb.all fun r=>okRow ns al ops.size r))))))))
section
variable {P:Program} {ops:Array Oper} {Q:Exit→Act→World→Prop} {w:World} {B:Nat} {tb:List Row} {ns:List NB} {eb:List EB} {al:List AL} {od dl:List (Nat × Nat)} {pl:List (Nat × Nat × Value)} {σ:Nat→Value} {W:World} {L:Nat→Prop}
theorem finX_eq (J:RJ w B tb ns eb al od dl pl L σ W):∀ (t:List Row) (k0:Nat),(∀ k,tb[k0 + k]?=t[k]?)→(∀ k,k < k0 + t.length→L k)→(∀ (k d:Nat) (p:Nat × Value),t[k]?=some (.n d)→nval ns al σ d=some p→L p.1)→(∀ (k d:Nat),t[k]?=some (.n d)→nval ns al σ d ≠ none)→(slotsOf t).map σ=finX ns al σ t
 | [],_,_,_,_,_=>rfl
 | .v d x :: r,k0,h,hL,hn,hs=>by
  show σ d :: (slotsOf r).map σ=x :: finX ns al σ r
  rw [J.vals k0 d x (by have:=h 0; simpa using this) (hL k0 (by simp only [List.length_cons]; omega)),finX_eq J r (k0 + 1) (fun k=>by have:=h (k + 1); rw [show k0 + (k + 1)=k0 + 1 + k by omega] at this; simpa using this) (fun k hk=>hL k (by simp at hk ⊢; omega)) (fun k d p hk=>hn (k + 1) d p (by simpa using hk)) (fun k d hk=>hs (k + 1) d (by simpa using hk))]
 | .n d :: r,k0,h,hL,hn,hs=>by
  show σ d :: (slotsOf r).map σ=(match nval ns al σ d with
   | some p=>p.2
   | none=>undef) :: finX ns al σ r
  rw [finX_eq J r (k0 + 1) (fun k=>by have:=h (k + 1); rw [show k0 + (k + 1)=k0 + 1 + k by omega] at this; simpa using this) (fun k hk=>hL k (by simp at hk ⊢; omega)) (fun k d p hk=>hn (k + 1) d p (by simpa using hk)) (fun k d hk=>hs (k + 1) d (by simpa using hk))]
  congr 1
  cases hv:nval ns al σ d with
  | none=>exact absurd hv (hs 0 d rfl)
  | some p =>
   unfold nval at hv
   cases h1:nvalN ns σ d with
   | some q =>
    rw [h1] at hv
    simp only [Option.some.injEq] at hv
    subst hv
    obtain ⟨i,x,hx,e1,e2,e3⟩:=nvalN_at ns _ d _ h1
    have hLp:=hn 0 d q rfl (by unfold nval; rw [h1])
    have e:=(J.news i x hx (by rw [e2]; exact hLp)).any fun _ h=>h.eq
    rw [← e1]
    exact e.trans e3.symm
   | none =>
    rw [h1] at hv
    obtain ⟨i,x,hx,e1,e2,e3⟩:=nvalA_at al _ d _ hv
    have hLp:=hn 0 d p rfl (by unfold nval; rw [h1]; exact hv)
    have:=(J.als i x hx (by rw [e2]; exact hLp)).1
    rw [← e1]
    exact this.trans e3.symm
 | .z :: r,k0,h,hL,hn,hs=>by
  show (slotsOf r).map σ=finX ns al σ r
  exact finX_eq J r (k0 + 1) (fun k=>by have:=h (k + 1); rw [show k0 + (k + 1)=k0 + 1 + k by omega] at this; simpa using this) (fun k hk=>hL k (by simp at hk ⊢; omega)) (fun k d p hk=>hn (k + 1) d p (by simpa using hk)) (fun k d hk=>hs (k + 1) d (by simpa using hk))

theorem finN_of (B:Nat) (hw:w.heap.size≤B):∀ (l:List NB),(∀ x ∈ l,match x.st with
  | none=>NewB (σ x.s) B W x.m x.cs x.T
  | some p=>NewB (σ x.s) B W x.m p.2 x.T)→FinN σ w W l
 | [],_=>trivial
 | ⟨k,s,m,cs,T,none⟩ :: r,h=>by
  have:=h _ List.mem_cons_self
  exact ⟨⟨Lib.hid (Nat.le_trans hw this.low),Lib.hid this.blk⟩,finN_of B hw r fun x hx=>h x (List.mem_cons_of_mem _ hx)⟩
 | ⟨k,s,m,cs,T,some (t,cs')⟩ :: r,h=>by
  have:=h _ List.mem_cons_self
  exact ⟨⟨Lib.hid (Nat.le_trans hw this.low),Lib.hid this.blk⟩,finN_of B hw r fun x hx=>h x (List.mem_cons_of_mem _ hx)⟩
theorem finE_of:∀ (l:List EB),(∀ x ∈ l,match x.st with
  | none=>Blk W x.e x.cs x.T
  | some p=>Blk W x.e p.2 x.T)→FinE W l
 | [],_=>trivial
 | ⟨e,cs,T,none⟩ :: r,h=>⟨Lib.hid (h _ List.mem_cons_self),finE_of r fun x hx=>h x (List.mem_cons_of_mem _ hx)⟩
 | ⟨e,cs,T,some (t,cs')⟩ :: r,h=>⟨Lib.hid (h _ List.mem_cons_self),finE_of r fun x hx=>h x (List.mem_cons_of_mem _ hx)⟩
theorem finX_of {xs:List (Nat × Nat)} (h:∀ p ∈ xs,ebE eb p.1 ≠ blkOf (σ (nbS ns p.2))):FinX σ ns eb xs:=by
 induction xs with
 | nil=>trivial
 | cons p r ih=>exact ⟨Lib.hid (h p List.mem_cons_self),ih fun q hq=>h q (List.mem_cons_of_mem _ hq)⟩
theorem finD_of {xs:List (Nat × Nat)} (h:∀ p ∈ xs,blkOf (σ (nbS ns p.1)) ≠ blkOf (σ (nbS ns p.2))):FinD σ ns xs:=by
 induction xs with
 | nil=>trivial
 | cons p r ih=>exact ⟨Lib.hid (h p List.mem_cons_self),ih fun q hq=>h q (List.mem_cons_of_mem _ hq)⟩
theorem wp_tab {id:Nat} {a:Act} {V:World} {dr:Bool} (tb:List Row) (ns:List NB) (eb:List EB) (al:List AL) (od dl xd:List (Nat × Nat)) (pl:List (Nat × Nat × Value)) (hc:ckT P ops a.tmps.size tb ns eb al dl xd dr=true)
  (hb:Below w.heap.size w V) (he:EldAll V eb) (hp:PreAll (slotOf a) pl) (hops:AllOps (Ob P ops Q a (slotsOf tb) w V.heap.size tb ns eb al od dl pl dr) 0 ops.toList)
  (hend:∀ σ W,FinN σ w W ns→FinE W eb→FinX σ ns eb xd→FinD σ ns dl→Hid (Below w.heap.size w W)→Q .normal (putAll a (slotsOf tb) (finX ns al σ tb)) W):(Code.region id ops dr).wp P Q a V:=by
 unfold ckT at hc
 simp only [Bool.and_eq_true] at hc
 obtain ⟨q1,q2,q3,q4,q5,q6,q7,q8,q9⟩:=hc
 have hlen:=Nat.eq_of_beq_eq_true q4
 have fin:∀ L σ W,RJ w V.heap.size tb ns eb al od dl pl L σ W→(∀ i,i < ops.size→L i)→Q .normal (putAll a (slotsOf tb) ((slotsOf tb).map σ)) W:=by
  intro L σ W J hL
  have hst:∀ x ∈ ns,L x.k∧∀ p,x.st=some p→L p.1:=fun x hx=>by
   have:=List.all_eq_true.1 q5 x hx
   simp only [Bool.and_eq_true] at this
   refine ⟨hL _ (blt_lt this.1),fun p hp=>hL _ ?_⟩
   have h2:=this.2
   rw [hp] at h2
   exact blt_lt h2
  have hnew:∀ x ∈ ns,match x.st with
   | none=>NewB (σ x.s) V.heap.size W x.m x.cs x.T
   | some p=>NewB (σ x.s) V.heap.size W x.m p.2 x.T:=fun x hx=>by
   obtain ⟨i,hi1,hi2⟩:=List.mem_iff_getElem.1 hx
   have hi:ns[i]?=some x:=by rw [List.getElem?_eq_getElem hi1,hi2]
   have:=J.news i x hi (hst x hx).1
   obtain ⟨k,s,m,cs,T,st⟩:=x
   cases st with
   | none=>exact this
   | some p=>exact this.2 ((hst _ hx).2 p rfl)
  have hnew':∀ j,j < ns.length→V.heap.size≤blkOf (σ (nbS ns j)):=fun j hj=>by
   have hx:=List.getElem_mem hj
   have:=hnew _ hx
   unfold nbS
   rw [List.getElem?_eq_getElem hj]
   generalize ns[j]=x at *
   obtain ⟨k,s,m,cs,T,st⟩:=x
   cases st with
   | none=>exact this.low
   | some p=>exact this.low
  rw [finX_eq J tb 0 (fun k => by rw [Nat.zero_add]) (fun k hk => hL k (by omega)) (fun k d p hk hv => by
    have h1:=List.all_eq_true.1 q9 _ (List.mem_of_getElem? hk)
    simp only [okRow] at h1
    have hf:=nval_fst ns al (fun _=>undef) σ d
    rw [hv] at hf
    cases h2:nval ns al (fun _=>undef) d with
    | none=>rw [h2] at hf; cases hf
    | some p' =>
     rw [h2] at h1 hf
     simp only [Option.map_some,Option.some.injEq] at hf
     rw [← hf]
     exact hL _ (blt_lt h1))
   (fun k d hk hv=>by
    have h1:=List.all_eq_true.1 q9 _ (List.mem_of_getElem? hk)
    simp only [okRow] at h1
    have hf:=nval_fst ns al (fun _=>undef) σ d
    rw [hv] at hf
    cases h2:nval ns al (fun _=>undef) d with
    | none=>rw [h2] at h1; cases h1
    | some p'=>rw [h2] at hf; cases hf)]
  refine hend σ W (finN_of V.heap.size J.low ns hnew) (finE_of eb fun x hx=>?_) (finX_of fun p hp=>?_) (finD_of fun p hp=>?_) (Lib.hid J.bb)
  ·obtain ⟨i,hi1,hi2⟩:=List.mem_iff_getElem.1 hx
   have hi:eb[i]?=some x:=by rw [List.getElem?_eq_getElem hi1,hi2]
   have:=J.elds i x hi
   have h6:=List.all_eq_true.1 q6 x hx
   obtain ⟨e,cs,T,st⟩:=x
   cases st with
   | none=>exact this
   | some p=>exact this.2 (hL _ (blt_lt h6))
  ·have h7:=List.all_eq_true.1 q7 p hp
   simp only [Bool.and_eq_true] at h7
   have l1:=blt_lt h7.1
   have l2:=hnew' p.2 (blt_lt h7.2)
   have hx:eb[p.1]?=some eb[p.1]:=List.getElem?_eq_getElem l1
   have:=(he.at_ p.1 _ hx).lt
   unfold ebE
   rw [hx]
   show (eb[p.1]).e ≠ _
   omega
  ·have h8:=List.all_eq_true.1 q8 p hp
   simp only [Bool.and_eq_true] at h8
   have l1:=blt_lt h8.1
   have l2:=blt_lt h8.2
   have hx:ns[p.1]?=some ns[p.1]:=List.getElem?_eq_getElem l1
   have hy:ns[p.2]?=some ns[p.2]:=List.getElem?_eq_getElem l2
   obtain ⟨u,hu1,hu2⟩:=List.mem_iff_getElem.1 hp
   have:=J.dis u p _ _ (by rw [List.getElem?_eq_getElem hu1,hu2]) hx hy (hst _ (List.getElem_mem l1)).1 (hst _ (List.getElem_mem l2)).1
   unfold nbS
   rw [hx,hy]
   exact this
 cases dr with
 | true =>
  simp only [Bool.not_true,Bool.false_or,Bool.and_eq_true] at q1
  exact wp_region_par2 q1.1 (slotsOf tb) (RJ w V.heap.size tb ns eb al od dl pl) q1.2 q2 q3 (RJ.drew (RJ.start rfl hb he hp)) hops fin
 | false=>exact wp_region_seq2 (slotsOf tb) (RJ w V.heap.size tb ns eb al od dl pl) q2 q3 (RJ.start rfl hb he hp) hops fin
end

end Go.Proofs.YthhkmihjnnfpgaaGreatDoor
