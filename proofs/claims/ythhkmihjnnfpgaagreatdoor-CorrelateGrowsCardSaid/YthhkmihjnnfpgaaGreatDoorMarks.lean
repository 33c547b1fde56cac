/- Loops over iterators that stand in loops: the marks among the deferred calls. -/
import Derived.RangeFuncNested
import Derived.RangeFuncBound
import Derived.RangeFuncCalls
import Derived.RangeFuncLeaves
import Derived.Shelf.Abstract
import Derived.Shelf.RegionOpen
import Derived.WalkKit
import Derived.OwnWalkIn
import Derived.TacticsInMore
import Derived.LoopNIn
import Derived.LoopIn
import Derived.Test.YthhkmihjnnfpgaaGreatDoorProg
namespace Go.Proofs.YthhkmihjnnfpgaaGreatDoor
set_option linter.all false
open Go.RowKit

structure MarkW (base:Nat) (w w':World):Prop where
 below:Below base w w'
 size:w'.heap.size=w.heap.size
 cells:∀ (k:Nat) (cs:Array Value) (t:TypeId) (fz:Nat × Nat),w.heap[k]?=some (.cells cs t fz)→w'.heap[k]?=some (.cells cs t fz)
theorem MarkW.refl (base:Nat) (w:World):MarkW base w w:=⟨Below.refl _ _,rfl,fun _ _ _ _ h=>h⟩
theorem MarkW.trans {base:Nat} {a b c:World} (h:MarkW base a b) (k:MarkW base b c):MarkW base a c :=
 ⟨h.below.trans k.below,k.size.trans h.size,fun i cs t fz e=>k.cells i cs t fz (h.cells i cs t fz e)⟩
theorem MarkW.put {base:Nat} {w:World} {D:Nat} {ds:Option (List Deferred)} (hb:base≤D) (h:w.heap[D]?=some (.deferred ds)) (ds':Option (List Deferred)):MarkW base w (w.putObj D (.deferred ds')):=by
 refine ⟨⟨rfl,rfl,rfl,by simp,fun k hk=>World.putObj_heap_other (fun e=>by omega)⟩,by simp,fun k cs t fz e=>?_⟩
 refine (World.putObj_heap_other (fun e2=>?_)).trans e
 subst e2
 rw [h] at e
 cases e
def Marks (base:Nat) (w:World):List Deferred→Prop
 | []=>True
 | d :: ds=>(∃ D,d.target=.collected D∧base≤D∧w.heap[D]?=some (.deferred (some []))∧∀ x ∈ ds,x.target ≠ .collected D)∧Marks base w ds
theorem Marks.kept {base:Nat} {w w':World} (k:KeepsFrom base w w'):∀ {ds:List Deferred},Marks base w ds→Marks base w' ds
 | [],_=>trivial
 | _ :: _,⟨⟨D,h1,h2,h3,h4⟩,h⟩=>⟨⟨D,h1,h2,k.same D _ h2 h3 rfl,h4⟩,Marks.kept k h⟩
theorem Marks.lt {base:Nat} {w:World}:∀ {ds:List Deferred},Marks base w ds→∀ x ∈ ds,∀ D,x.target=.collected D→D < w.heap.size
 | _ :: _,⟨⟨D,h1,_,h3,_⟩,h⟩,x,hx,D',e=>by
  rcases List.mem_cons.1 hx with rfl | hx
  ·rw [h1] at e
   injection e with e
   subst e
   exact (Array.getElem?_eq_some_iff.1 h3).1
  ·exact Marks.lt h x hx D' e
theorem Marks.put {base:Nat} {w:World} {ds:List Deferred} {D:Nat} (hd:∀ x ∈ ds,x.target ≠ .collected D) (o:Obj):Marks base w ds→Marks base (w.putObj D o) ds:=by
 induction ds with
 | nil=>exact fun _=>trivial
 | cons d ds ih =>
  rintro ⟨⟨D',h1,h2,h3,h4⟩,h⟩
  refine ⟨⟨D',h1,h2,(World.putObj_heap_other (fun e=>?_)).trans h3,h4⟩,ih (fun x hx=>hd x (List.mem_cons_of_mem _ hx)) h⟩
  subst e
  exact hd d List.mem_cons_self h1
theorem leaves_marks {F:Fence} {n:Nat} {P:Program} {fn:Func} {tmps:Array Value} {R:Ending→World→Prop} {base:Nat}:∀ (ds:List Deferred) (w:World),Marks base w ds →
  (∀ w',MarkW base w w'→∃ v,(results fn tmps).run P w'=.ok v w'∧R (.returned v) w')→LeavesInM F n P fn tmps R ds .returning w
 | [],w,_,h=>h w (MarkW.refl _ _)
 | d :: ds,w,⟨⟨D,h1,h2,h3,h4⟩,hm⟩,h =>
  ⟨by simp,.inl ⟨D,_,h1,run_takeDeferred h3,leaves_marks ds _ (hm.put h4 _) (fun w' hw=>h w' ((MarkW.put h2 h3 none).trans hw))⟩⟩
theorem KeepsFrom.mono {B B':Nat} {w w':World} (h:KeepsFrom B w w') (hb:B≤B'):KeepsFrom B' w w':=⟨h.size,fun k o hk=>h.same k o (by omega)⟩
theorem keepsFrom_below {B:Nat} {w w':World} (h:Below w.heap.size w w'):KeepsFrom B w w' :=
 ⟨h.size,fun k o _ hk _=>(h.block k (Array.getElem?_eq_some_iff.1 hk).1).trans hk⟩
theorem YieldAt.any {m:Nat} (m':Nat) {P:Program} {l:Nat} {args:Array Value} {W:World} {R:Ending→World→Prop} (l2:Nat) (h:YieldAt Fence.wide m P l args W R):YieldAt (Fence.wide.inRound l2) m' P l args W R:=by
 obtain ⟨fn,tmps,assign,body,h1,h2⟩:=h
 refine ⟨fn,tmps,assign,body,h1,h2.1,fun c cs hroom=>?_⟩
 have:=h2.2 c cs (room_wide _)
 exact this

end Go.Proofs.YthhkmihjnnfpgaaGreatDoor
