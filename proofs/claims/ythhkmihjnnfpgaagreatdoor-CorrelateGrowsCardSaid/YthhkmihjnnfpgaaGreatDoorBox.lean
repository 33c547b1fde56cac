/- Blocks of cells that stay as they are: structs by value and literal slices, and what is read of them behind calls. No program in sight. -/
import Derived.Test.YthhkmihjnnfpgaaGreatDoorGPlain
namespace Go.Proofs.YthhkmihjnnfpgaaGreatDoor
set_option linter.all false
open Go.RowKit

def Box (w:World) (b:Nat) (xs:List Value):Prop:=b < w.heap.size∧∀ (j:Nat) v,xs[j]?=some v→w.cell? ⟨b,j,none⟩=some v

theorem Box.lt {w:World} {b:Nat} {xs:List Value} (h:Box w b xs):b < w.heap.size:=h.1
theorem Box.at_ {w:World} {b:Nat} {xs:List Value} (h:Box w b xs) (j:Nat) (v:Value) (hv:xs[j]?=some v):w.cell? ⟨b,j,none⟩=some v:=h.2 j v hv

theorem Box.below {w w':World} {b:Nat} {xs:List Value} (h:Box w b xs) (q:Below w.heap.size w w'):Box w' b xs :=
 ⟨Nat.lt_of_lt_of_le h.1 q.size,fun j v hv=>(q.cell (p:=⟨b,j,none⟩) h.1).trans (h.2 j v hv)⟩

theorem Box.kept {w w':World} {b B:Nat} {xs:List Value} (h:Box w b xs) (hb:b < B) (q:Below B w w'):Box w' b xs :=
 ⟨Nat.lt_of_lt_of_le h.1 q.size,fun j v hv=>(q.cell (p:=⟨b,j,none⟩) hb).trans (h.2 j v hv)⟩

theorem Box.fresh (w:World) (cs:Array Value) (T:TypeId):Box (w.alloc (.cells cs T)) w.heap.size cs.toList:=by
 refine ⟨by rw [World.size_alloc]; omega,fun j v hv=>?_⟩
 rw [Lib.cell_of_heap (heap_alloc_new w (Obj.cells cs T))]
 simpa using hv

theorem below_new (W:World) (o:Obj):Below W.heap.size W (W.alloc o):=(Below.refl _ _).alloc (Nat.le_refl _) _

theorem Box.alloc {w:World} {b:Nat} {xs:List Value} (h:Box w b xs) (o:Obj):Box (w.alloc o) b xs:=h.below (below_new w o)

def Near (w w1:World):Prop:=w1=w ∨ w1=w.drew
theorem Near.same (w:World):Near w w:=.inl rfl
theorem Near.one (w:World):Near w w.drew:=.inr rfl
theorem Box.drew {w w':World} {b:Nat} {xs:List Value} (h:Box w b xs) (q:Drew w w'):Box w' b xs:=h.below (q.below _)

def Blk (w:World) (b:Nat) (cs:Array Value) (T:TypeId):Prop:=w.heap[b]?=some (.cells cs T (0,0))

theorem Blk.lt {w:World} {b:Nat} {cs:Array Value} {T:TypeId} (h:Blk w b cs T):b < w.heap.size:=(Array.getElem?_eq_some_iff.1 h).1
theorem Blk.at_ {w:World} {b:Nat} {cs:Array Value} {T:TypeId} (h:Blk w b cs T) (j:Nat) (v:Value) (hv:cs[j]?=some v):w.cell? ⟨b,j,none⟩=some v:=by
 rw [Lib.cell_of_heap h]; exact hv
theorem Blk.free {w:World} {b:Nat} {cs:Array Value} {T:TypeId} (h:Blk w b cs T) (j:Nat):w.frozen? ⟨b,j,none⟩=false:=by
 unfold World.frozen?
 rw [show w.heap[(⟨b,j,none⟩:Addr).block]?=_ from h]
 simp
theorem Blk.fresh (w:World) (cs:Array Value) (T:TypeId):Blk (w.alloc (.cells cs T)) w.heap.size cs T:=heap_alloc_new w (Obj.cells cs T)
theorem Blk.below {w w':World} {b:Nat} {cs:Array Value} {T:TypeId} (h:Blk w b cs T) (q:Below w.heap.size w w'):Blk w' b cs T:=(q.block b h.lt).trans h
theorem Blk.alloc {w:World} {b:Nat} {cs:Array Value} {T:TypeId} (h:Blk w b cs T) (o:Obj):Blk (w.alloc o) b cs T:=h.below (below_new w o)
theorem Blk.kept {w w':World} {b B:Nat} {cs:Array Value} {T:TypeId} (h:Blk w b cs T) (hb:b < B) (q:Below B w w'):Blk w' b cs T:=(q.block b hb).trans h
theorem Blk.set {w:World} {b:Nat} {cs:Array Value} {T:TypeId} (h:Blk w b cs T) (j:Nat) (v:Value):Blk (w.setCell ⟨b,j,none⟩ v) b (cs.setIfInBounds j v) T:=by
 unfold Blk World.setCell at *
 simp only [Array.getElem?_modify,if_true,h]
 rfl

end Go.Proofs.YthhkmihjnnfpgaaGreatDoor
