/- Rows of values of whatever form; zeros over a row with room; the plain law of Dilation. -/
import Derived.Test.YthhkmihjnnfpgaaGreatDoorGSlipA
import Derived.Test.YthhkmihjnnfpgaaGreatDoorGSlipR
import Derived.Test.YthhkmihjnnfpgaaGreatDoorApp
namespace Go.Proofs.YthhkmihjnnfpgaaGreatDoor
set_option linter.all false
open Go.RowKit

section
variable {α:Type} {f:α→List Value} {sz:Nat}
theorem flat_len (hf:∀ u,(f u).length=sz):∀ us:List α,(us.flatMap f).length=us.length * sz
 | []=>by simp
 | u :: us=>by rw [List.flatMap_cons,List.length_append,hf,flat_len hf us,List.length_cons,Nat.succ_mul]; omega
theorem flat_get (hf:∀ u,(f u).length=sz):∀ (us:List α) (i j:Nat) (u:α) (v:Value),us[i]?=some u→(f u)[j]?=some v→(us.flatMap f)[i * sz + j]?=some v
 | [],i,j,u,v,h,_=>by simp at h
 | x :: us,0,j,u,v,h,hv=>by
  simp at h
  subst h
  rw [List.flatMap_cons,Nat.zero_mul,Nat.zero_add,List.getElem?_append_left (List.getElem?_eq_some_iff.1 hv).1]
  exact hv
 | x :: us,i + 1,j,u,v,h,hv=>by
  have ih:=flat_get hf us i j u v (by simpa using h) hv
  rw [List.flatMap_cons,List.getElem?_append_right (by rw [hf,Nat.succ_mul]; omega),hf,show (i + 1) * sz + j - sz=i * sz + j by rw [Nat.succ_mul]; omega]
  exact ih
def SRow (f:α→List Value) (sz:Nat) (T:TypeId) (W:World) (base:Nat) (v:Value) (us:List α):Prop :=
 (us=[]∧v=.slice none 0 0) ∨ ∃ d c r,v=.slice (some ⟨d,0,none⟩) us.length c∧base≤d∧us ≠ []∧Blk W d (us.flatMap f ++ r).toArray T∧Room us.length c sz (us.flatMap f) r
def SAt (f:α→List Value) (sz:Nat) (W:World) (v:Value) (us:List α):Prop :=
 ∃ a c,v=.slice a us.length c∧∀ i t,us[i]?=some t→∃ d o,a=some ⟨d,o,none⟩∧d < W.heap.size∧∀ j u,(f t)[j]?=some u→W.cell? ⟨d,o + i * sz + j,none⟩=some u
variable {T:TypeId} {W W':World} {base:Nat} {v:Value} {us:List α}
theorem SRow.nil (W:World) (base:Nat):SRow f sz T W base (.slice none 0 0) []:=.inl ⟨rfl,rfl⟩
theorem SRow.below (h:SRow f sz T W base v us) (q:Below W.heap.size W W'):SRow f sz T W' base v us:=by
 rcases h with h | ⟨d,c,r,h1,h2,h3,h4,h5⟩
 ·exact .inl h
 ·exact .inr ⟨d,c,r,h1,h2,h3,h4.below q,h5⟩
theorem SRow.len_eval (h:SRow f sz T W base v us):∃ a c,v=.slice a us.length c:=by
 rcases h with ⟨rfl,rfl⟩ | ⟨d,c,r,h1,_⟩
 ·exact ⟨none,0,rfl⟩
 ·exact ⟨_,_,h1⟩
theorem SRow.set (h:SRow f sz T W base v us) (p:Addr) (hp:p.block < base) (u:Value):SRow f sz T (W.setCell p u) base v us:=by
 rcases h with h | ⟨d,c,r,h1,h2,h3,h4,h5⟩
 ·exact .inl h
 ·refine .inr ⟨d,c,r,h1,h2,h3,?_,h5⟩
  unfold Blk World.setCell at *
  simp only [Array.getElem?_modify,if_neg (show ¬ p.block=d by omega)]
  exact h4
theorem SAt.below (h:SAt f sz W v us) (q:Below W.heap.size W W'):SAt f sz W' v us:=by
 obtain ⟨a,c,h1,h2⟩:=h
 refine ⟨a,c,h1,fun i t ht=>?_⟩
 obtain ⟨d,o,e1,e2,e3⟩:=h2 i t ht
 exact ⟨d,o,e1,Nat.lt_of_lt_of_le e2 q.size,fun j u hu=>(q.cell (p:=⟨d,_,none⟩) e2).trans (e3 j u hu)⟩
theorem SAt.cell (h:SAt f sz W v us) (i:Nat) (hi:i < us.length):∃ d o c,v=.slice (some ⟨d,o,none⟩) us.length c∧d < W.heap.size∧∀ j u,(f us[i])[j]?=some u→W.cell? ⟨d,o + i * sz + j,none⟩=some u:=by
 obtain ⟨a,c,rfl,h2⟩:=h
 obtain ⟨d,o,rfl,hd,hc⟩:=h2 i us[i] (List.getElem?_eq_getElem hi)
 exact ⟨d,o,c,rfl,hd,hc⟩
theorem app_row {P:Program} {t:TypeId} {bytes:Nat} (E:StrElem P t T sz bytes) (hf:∀ u,(f u).length=sz) (hone:∀ u,∀ x ∈ f u,x.oneCell'=true) {ops:Array Oper} {rest:List Oper} {o:Oper} {a:Act} {Q:Exit→Act→World→Prop} (hgd:o.guard=none) (s x:Operand) (ho:o.op=.call { callee:=.builtin .append,args:=#[s,x],argTypes:=#[t,t] })
  (W:World) (base:Nat) (hbase:base≤W.heap.size) (v:Value) (us:List α) (row:SRow f sz T W base v us) (hs:a.eval s=v) (hlen:us.length≤5000) (u:α) (hx:a.eval x=.slice (some ⟨W.heap.size,0,none⟩) 1 1)
  (h:∀ v' w',SRow f sz T w' base v' (us ++ [u])→(∀ b cs T,b < base→Blk W b cs T→Blk w' b cs T)→Below base W w'→wpList P ops Q rest (a.put o.dst v') w') :
  wpList P ops Q (o :: rest) a (W.alloc (.cells (f u).toArray T)):=by
 have snoc:∀ us:List α,(us ++ [u]).flatMap f=us.flatMap f ++ f u:=fun us=>by simp
 rcases row with ⟨rfl,rfl⟩ | ⟨d,c,r,rfl,h2,h3,h4,h5⟩
 ·refine wpList_app0 E hgd s x ho W hs (f u) (hf u) hx (hone u) ?_
  intro g c r w' kk lg mm qq
  have e:(([]:List α) ++ [u]).flatMap f=f u:=by rw [snoc]; rfl
  refine h _ w' (.inr ⟨g,c,r,rfl,by omega,by simp,?_,?_⟩) (fun b cs T hb k=>k.grown qq (fun h=>by cases h)) (below_app0 (Below.refl _ _) qq hbase)
  ·rw [e]; exact kk
  ·rw [e]; exact mm
 ·refine wpList_appN E hgd s x ho W d us.length c hs (us.flatMap f) r h4 h5 (by omega) (f u) (hf u) hx (hone u) ?_
  intro g c' r' w' kk lg mm qq
  have hd:=h4.lt
  refine h _ w' (.inr ⟨g,c',r',by rw [List.length_append]; rfl,by omega,by simp,?_,?_⟩) (fun b cs T hb k=>k.grown qq (ne_row (by omega))) (below_appN (Below.refl _ _) qq hbase h2)
  ·rw [snoc]; exact kk
  ·rw [snoc,List.length_append]; exact mm
end

structure DI where
 m:Bool
 a:Int
 b:Int
noncomputable def oT (x:Int):ByteArray:=canonR (mkRat x 2)
def nX (m:Bool):ByteArray:=if m=true then ⟨#[50]⟩ else ⟨#[49]⟩
def nZ (m:Bool):ByteArray:=if m=true then ⟨#[52]⟩ else ⟨#[50]⟩
noncomputable def DI.cells (d:DI):List Value:=[.string (nX d.m),.string ⟨#[48]⟩,.string (nZ d.m),.string (oT d.a),.string (oT d.b),.string ⟨#[]⟩]
theorem DI.len (d:DI):d.cells.length=6:=rfl

end Go.Proofs.YthhkmihjnnfpgaaGreatDoor
