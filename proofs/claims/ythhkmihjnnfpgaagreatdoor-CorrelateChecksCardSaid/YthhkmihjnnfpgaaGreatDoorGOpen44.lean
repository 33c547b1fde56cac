/- What comes in, opened: plans, bits, steps. -/
import Derived.Test.YthhkmihjnnfpgaaGreatDoorGCorY
import Derived.Test.YthhkmihjnnfpgaaGreatDoorShaped
import Derived.Test.YthhkmihjnnfpgaaGreatDoorGCorC
import Derived.OpenShut
import Derived.ChangeSame
import Derived.Deep.Slices
import Derived.Deep.Strs
import Derived.Lib.SmallJoins
/- A described question, as it comes in: opened. -/
namespace Go.Proofs.YthhkmihjnnfpgaaGreatDoor
set_option linter.all false
open Go.ChangeShapes Go.WideShapes Go.ChangeAt Go.RowKit

theorem array6x {α:Type} {cs:Array α} (h:cs.size=6):∃ c0 c1 c2 c3 c4 c5,cs=#[c0,c1,c2,c3,c4,c5]:=by
 obtain ⟨l⟩:=cs
 match l,h with
 | [c0,c1,c2,c3,c4,c5],_=>exact ⟨c0,c1,c2,c3,c4,c5,rfl⟩
theorem cell_blk44 {W:World} {a:Addr} {u:Value} (h:W.cell? a=some u):a.block < W.heap.size:=World.cells?_block (base:=0) (cells?_one (Nat.zero_le _) h) (by omega)
section
variable {H:Type} {enc:TypeId × Value→H} {W:World} {m:Nat} {r:DataW H × List MemPlace}
end

section
variable {H:Type} {enc:TypeId × Value→H} {W:World} {base:Nat} {v:Value} {d:DataW H} {p:List MemPlace}
end

end Go.Proofs.YthhkmihjnnfpgaaGreatDoor

/- A question as it comes in: opened. -/
namespace Go.Proofs.YthhkmihjnnfpgaaGreatDoor
set_option linter.all false
open Go.ChangeShapes Go.WideShapes Go.ChangeAt Go.RowKit

theorem cellsIv44:Tryz.prog.cellsOf 86=3:=by kernel_rfl
theorem cellsSg44:Tryz.prog.cellsOf 9=1:=by kernel_rfl
theorem cellsRt44:Tryz.prog.cellsOf 28=1:=by kernel_rfl
theorem cellsIs44:Tryz.prog.cellsOf 27=1:=by kernel_rfl
theorem cellsQu44:Tryz.prog.cellsOf 32=6:=by kernel_rfl
theorem cellsCo44:Tryz.prog.cellsOf 30=4:=by kernel_rfl
section
variable {H:Type} {enc:TypeId × Value→H} {W:World} {m:Nat} {r:DataW H × List MemPlace}
set_option maxRecDepth 100000 in
theorem iv_cells44 {cs:List Value} (hl:cs.length=3) (h:DataW.trod enc Tryz.prog W 0 (fun _=>true) true m 86 cs=some r):∃ x:TX,cs=x.cells:=by
 match cs,hl with
 | [c0,c1,c2],_ =>
  obtain ⟨y0,y1,y2,n,_,_,h0,h1,h2⟩:=Deep.trod_struct3 Tryz.underlying86 h
  simp [cellsSg44,cellsRt44] at h0 h1 h2
  obtain ⟨u,e0,_⟩:=DataW.trod_string Tryz.underlying9 h0
  obtain ⟨f,e1,_⟩:=DataW.trod_string Tryz.underlying28 h1
  obtain ⟨t,e2,_⟩:=DataW.trod_string Tryz.underlying28 h2
  simp at e0 e1 e2
  subst e0 e1 e2
  exact ⟨⟨u,f,t⟩,rfl⟩
set_option maxRecDepth 100000 in
theorem ivs_cell44 {c0:Value} (hf:DataW.trod enc Tryz.prog W 0 (fun _=>true) true m 27 [c0]=some r):∃ l:List TX,l.length≤9223372036854775807∧SAt TX.cells 3 W c0 l:=by
 rcases Go.Deep.open_slice Tryz.underlying27 hf with ⟨hcs,_⟩ | ⟨a,len0,cap0,m,n',D,Pl,hcs,_,hl,hm,hmm,_,hel⟩
 ·simp at hcs
  subst hcs
  exact ⟨[],by simp,none,0,rfl,(fun i t h=>by simp at h)⟩
 ·simp at hcs
  subst hcs
  have hml:len0≤m:=by rw [hmm]; split <;> omega
  have hmx:maxLen=9223372036854775807:=by unfold maxLen; rfl
  have each:∀ i,∃ g:TX,(i < len0→∀ j u,g.cells[j]?=some u→W.cell? ((a.add (i * 3)).add j)=some u):=by
   intro i
   by_cases hi:i < len0
   ·obtain ⟨cs,hc,ht⟩:=hel i (by omega)
    rw [cellsIv44] at hc
    obtain ⟨q1,q2,q3⟩:=World.cells?_some hc
    obtain ⟨g,rfl⟩:=iv_cells44 q2 ht
    exact ⟨g,fun _ j u hu=>by
     have hj:j < 3:=(List.getElem?_eq_some_iff.1 hu).1
     rw [← hu]
     exact q3 j hj⟩
   ·exact ⟨⟨⟨#[]⟩,⟨#[]⟩,⟨#[]⟩⟩,fun h=>absurd h hi⟩
  obtain ⟨g,hg⟩:=Classical.axiomOfChoice each
  obtain ⟨b,off,spot⟩:=a
  have hln:((List.range len0).map g).length=len0:=by simp
  refine ⟨(List.range len0).map g,by rw [hln]; omega,some ⟨b,off,spot⟩,cap0,by rw [hln],fun i t hit=>?_⟩
  have hi:i < len0:=by
   have:=(List.getElem?_eq_some_iff.1 hit).1
   simpa using this
  have ht:g i=t:=by
   rw [List.getElem?_map,List.getElem?_range hi] at hit
   simpa using hit
  have hspot:spot=none:=by simpa [Addr.add] using World.cell?_spot (hg 0 (by omega) 0 _ rfl)
  subst hspot
  refine ⟨b,off,rfl,?_,fun j u hu=>?_⟩
  ·have:=cell_blk44 (hg i hi 0 _ rfl)
   simpa [Addr.add,apply_ite] using this
  ·rw [← ht] at hu
   have h2:=hg i hi j u hu
   rw [show ((⟨b,off,none⟩:Addr).add (i * 3)).add j=⟨b,off + i * 3 + j,none⟩ by unfold Addr.add; split <;> split <;> simp_all] at h2
   exact h2
set_option maxRecDepth 100000 in
theorem co_cells44 {c0 c1 c2 c3:Value} (h:DataW.trod enc Tryz.prog W 0 (fun _=>true) true m 30 [c0,c1,c2,c3]=some r):∃ x0 x1 x2 x3:ByteArray,c0=.string x0∧c1=.string x1∧c2=.string x2∧c3=.string x3:=by
 obtain ⟨y0,y1,y2,y3,n,_,_,h0,h1,h2,h3⟩:=Go.Joins.trod_struct4 Tryz.underlying30 h
 simp [cellsRt44] at h0 h1 h2 h3
 obtain ⟨x0,e0,_⟩:=DataW.trod_string Tryz.underlying28 h0
 obtain ⟨x1,e1,_⟩:=DataW.trod_string Tryz.underlying28 h1
 obtain ⟨x2,e2,_⟩:=DataW.trod_string Tryz.underlying28 h2
 obtain ⟨x3,e3,_⟩:=DataW.trod_string Tryz.underlying28 h3
 simp at e0 e1 e2 e3
 exact ⟨x0,x1,x2,x3,e0,e1,e2,e3⟩
end
section
variable {H:Type} {enc:TypeId × Value→H} {W:World} {base:Nat} {v:Value} {d:DataW H} {p:List MemPlace}
set_option maxRecDepth 100000 in
theorem open_question44 (hv:Value.okWide Tryz.prog W .any base 32 v) (h:DataW.Trod enc Tryz.prog W 0 (fun _=>true) true 32 v d p) :
  ∃ (q:XQ) (sl sr:Value),v=q.pt sl sr∧q.L.length≤9223372036854775807∧q.R.length≤9223372036854775807∧XAt W sl sr q:=by
 have hu:=Tryz.underlying32
 simp only [Value.okWide,hu] at hv
 obtain ⟨cs,rfl,hs,_⟩:=hv
 obtain ⟨c0,c1,c2,c3,c4,c5,rfl⟩:=array6x (hs.trans cellsQu44)
 obtain ⟨fuel,hf⟩:=h
 simp [Value.cells] at hf
 obtain ⟨y0,y1,y2,n,_,_,h0,h1,h2⟩:=Deep.trod_struct3 hu hf
 simp [cellsIs44,cellsCo44] at h0 h1 h2
 obtain ⟨l,hl,al⟩:=ivs_cell44 h0
 obtain ⟨r,hr,ar⟩:=ivs_cell44 h1
 obtain ⟨x0,x1,x2,x3,rfl,rfl,rfl,rfl⟩:=co_cells44 h2
 exact ⟨⟨l,r,x0,x1,x2,x3⟩,c0,c1,rfl,hl,hr,al,ar⟩
end

end Go.Proofs.YthhkmihjnnfpgaaGreatDoor
