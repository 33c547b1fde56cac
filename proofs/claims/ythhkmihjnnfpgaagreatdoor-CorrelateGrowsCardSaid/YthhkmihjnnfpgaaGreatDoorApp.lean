/- One element more at the end of a slice of the call's own, by blocks. No program in sight. -/
import Derived.Test.YthhkmihjnnfpgaaGreatDoorGPar
import Derived.Maps.AppendAt
namespace Go.Proofs.YthhkmihjnnfpgaaGreatDoor
set_option linter.all false
open Go.RowKit

structure StrElem (P:Program) (t e:TypeId) (sz bytes:Nat):Prop where
 ht:P.underlying t=some (.slice e)
 info:(P.info? e).map (fun i=>(i.zero.map (fun z=>z.cells.size),i.size,i.bytes))=some (some sz,sz,bytes)
 pos:0 < sz
 small:bytes≤1000

structure Room (n c sz:Nat) (l r:List Value):Prop where
 len:l.length=n * sz
 all:(l ++ r).length=c * sz
 le:n≤c
 max:c≤maxLen

theorem Blk.atL {w:World} {b:Nat} {l:List Value} {T:TypeId} (h:Blk w b l.toArray T) (j:Nat) (v:Value) (hv:l[j]?=some v):w.cell? ⟨b,j,none⟩=some v:=h.at_ j v (by simpa using hv)
theorem Blk.grown {w w':World} {b:Nat} {cs:Array Value} {T:TypeId} {row:Option Nat} (h:Blk w b cs T) (q:w.grownBy w' row) (hne:row ≠ some b):Blk w' b cs T:=(q.block b h.lt (Ne.symm hne)).trans h
theorem StrElem.parts {P:Program} {t e:TypeId} {sz bytes:Nat} (E:StrElem P t e sz bytes):∃ i z,P.info? e=some i∧i.zero=some z∧z.cells.size=sz∧i.size=sz∧i.bytes=bytes:=by
 have h:=E.info
 cases hi:P.info? e with
 | none=>rw [hi] at h; cases h
 | some i =>
  rw [hi] at h
  simp only [Option.map_some,Option.some.injEq,Prod.mk.injEq] at h
  cases hz:i.zero with
  | none=>rw [hz] at h; simp at h
  | some z =>
   rw [hz] at h
   simp at h
   exact ⟨i,z,rfl,hz,h.1,h.2.1,h.2.2⟩
theorem cells_new (W:World) (l:List Value) (e:TypeId):∀ j u,l[j]?=some u→(W.alloc (.cells l.toArray e)).cell? ((⟨W.heap.size,0,none⟩:Addr).add j)=some u:=by
 intro j u hj
 have ha:(⟨W.heap.size,0,none⟩:Addr).add j=⟨W.heap.size,j,none⟩:=by
  unfold Addr.add
  split <;> simp_all
 rw [ha,Lib.cell_of_heap (heap_alloc_new W (Obj.cells l.toArray e))]
 simpa using hj
theorem grown_base {W w':World} {o:Obj} {row:Option Nat} (q:(W.alloc o).grownBy w' row) (hrow:∀ k,row=some k→W.heap.size≤k ∨ k < W.heap.size):W.grownBy w' row:=by
 refine ⟨q.os,q.tape,q.output,Nat.le_trans (by simp) q.size,fun g hg hne=>?_⟩
 exact (q.block g (by simp; omega) hne).trans (Below.heap_alloc W _ g hg)

section
variable {P:Program} {t e:TypeId} {sz bytes:Nat} {ops:Array Oper} {rest:List Oper} {o:Oper} {a:Act} {Q:Exit→Act→World→Prop}
theorem wpList_app0 (E:StrElem P t e sz bytes) (hgd:o.guard=none) (s x:Operand) (ho:o.op=.call { callee:=.builtin .append,args:=#[s,x],argTypes:=#[t,t] })
  (W:World) (hs:a.eval s=.slice none 0 0) (news:List Value) (hn:news.length=sz) (hx:a.eval x=.slice (some ⟨W.heap.size,0,none⟩) 1 1) (h1:∀ u ∈ news,u.oneCell'=true)
  (h:∀ g c r w',Blk w' g (news ++ r).toArray e→W.heap.size≤g→Room 1 c sz news r→W.grownBy w' none→wpList P ops Q rest (a.put o.dst (.slice (some ⟨g,0,none⟩) 1 c)) w') :
  wpList P ops Q (o :: rest) a (W.alloc (.cells news.toArray e)):=by
 obtain ⟨i,z,hi,hz,hzs,hsz,hby⟩:=E.parts
 have hsm:=E.small
 refine wpList_append_own_at _ hgd s x t ho W.heap.size e i z sz bytes E.ht hi hz hsz hby hzs E.pos (.slice none 0 0) 0 [] hs (World.ownsRow_nil _ _ _ _) ⟨W.heap.size,0,none⟩ 1 1 news hx (by omega) (cells_new W news e) h1
  (by simp only [maxLen]; omega) (by omega) (by simp) ?_
 intro v' w' h2 h3 _ _
 rcases h2.2 with ⟨_,hn0⟩ | ⟨g,cap,cur,rfl,hg,hh,hle,hc,hcs,ht⟩
 ·omega
 ·have hcur:cur=(news ++ cur.toList.drop (1 * sz)).toArray:=by
   have e1:cur.toList=news ++ cur.toList.drop (1 * sz):=by
    conv=>lhs; rw [← List.take_append_drop (1 * sz) cur.toList]
    rw [Nat.zero_add] at ht
    rw [ht]
    rfl
   rw [← e1]
  refine h g cap (cur.toList.drop (1 * sz)) w' ?_ hg ⟨by omega,?_,by omega,hc⟩ (grown_base h3 (fun k hk=>by cases hk))
  ·rw [← hcur]
   exact hh
  ·have:=congrArg Array.size hcur
   simp only [List.size_toArray] at this
   rw [← this,hcs]
theorem wpList_appN (E:StrElem P t e sz bytes) (hgd:o.guard=none) (s x:Operand) (ho:o.op=.call { callee:=.builtin .append,args:=#[s,x],argTypes:=#[t,t] })
  (W:World) (b n c:Nat) (hs:a.eval s=.slice (some ⟨b,0,none⟩) n c) (l r:List Value) (hl:Blk W b (l ++ r).toArray e) (hr:Room n c sz l r) (hn1:n≤1000000) (news:List Value) (hn:news.length=sz)
  (hx:a.eval x=.slice (some ⟨W.heap.size,0,none⟩) 1 1) (h1:∀ u ∈ news,u.oneCell'=true)
  (h:∀ g c' r' w',Blk w' g (l ++ news ++ r').toArray e→(g=b ∨ W.heap.size≤g)→Room (n + 1) c' sz (l ++ news) r'→W.grownBy w' (some b)→wpList P ops Q rest (a.put o.dst (.slice (some ⟨g,0,none⟩) (n + 1) c')) w') :
  wpList P ops Q (o :: rest) a (W.alloc (.cells news.toArray e)):=by
 obtain ⟨i,z,hi,hz,hzs,hsz,hby⟩:=E.parts
 have hsm:=E.small
 have hb:=hl.lt
 have hown:(W.alloc (.cells news.toArray e)).ownsRow 0 e sz (.slice (some ⟨b,0,none⟩) n c) n l:=by
  refine ⟨hr.len,.inr ⟨b,c,(l ++ r).toArray,rfl,Nat.zero_le _,hl.alloc _,hr.le,hr.max,by simpa using hr.all,?_⟩⟩
  rw [← hr.len]
  simp
 have hbytes:(n + 1) * bytes≤140737488355328:=by
  have:(n + 1) * bytes≤1000001 * 1000:=Nat.mul_le_mul (by omega) hsm
  omega
 refine wpList_append_own_at _ hgd s x t ho 0 e i z sz bytes E.ht hi hz hsz hby hzs E.pos _ n l hs hown ⟨W.heap.size,0,none⟩ 1 1 news hx (by omega) (cells_new W news e) h1
  (by simp only [maxLen]; omega) hbytes (Nat.zero_le _) ?_
 intro v' w' h2 h3 _ h5
 rcases h2.2 with ⟨_,hn0⟩ | ⟨g,cap,cur,rfl,hg,hh,hle,hc,hcs,ht⟩
 ·omega
 ·have hcur:cur=(l ++ news ++ cur.toList.drop ((n + 1) * sz)).toArray:=by
   have e1:cur.toList=l ++ news ++ cur.toList.drop ((n + 1) * sz):=by
    conv=>lhs; rw [← List.take_append_drop ((n + 1) * sz) cur.toList]
    rw [ht]
   rw [← e1]
  refine h g cap (cur.toList.drop ((n + 1) * sz)) w' ?_ ?_ ⟨?_,?_,by omega,hc⟩ (grown_base h3 (fun k hk=>by simp only [Value.ownBlock,Option.some.injEq] at hk; omega))
  ·rw [← hcur]
   exact hh
  ·simp only [Value.ownBlock,Option.some.injEq] at h5
   rcases h5 with h5 | h5
   ·exact .inl h5
   ·simp at h5
    exact .inr (by omega)
  ·rw [List.length_append,hr.len,hn,Nat.add_mul]
   omega
  ·have:=congrArg Array.size hcur
   simp only [List.size_toArray] at this
   rw [← this,hcs]
end

theorem below_app0 {W w0 w':World} {B:Nat} (h:Below B w0 W) (q:W.grownBy w' none) (hB:B≤W.heap.size):Below B w0 w':=h.grown q hB (fun k hk=>by cases hk)
theorem below_appN {W w0 w':World} {B b:Nat} (h:Below B w0 W) (q:W.grownBy w' (some b)) (hB:B≤W.heap.size) (hb:B≤b):Below B w0 w':=h.grown q hB (fun k hk=>by injection hk with hk; omega)

theorem ne_row {k b:Nat} (h:k ≠ b):some b ≠ some k:=fun e=>h (Option.some.inj e).symm

end Go.Proofs.YthhkmihjnnfpgaaGreatDoor
