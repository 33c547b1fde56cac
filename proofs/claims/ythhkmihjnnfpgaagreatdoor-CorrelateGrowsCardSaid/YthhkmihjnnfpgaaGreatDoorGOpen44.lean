/- What comes in, opened: plans, bits, steps. -/
import Derived.Test.YthhkmihjnnfpgaaGreatDoorGCorY
import Derived.Test.YthhkmihjnnfpgaaGreatDoorShaped
import Derived.OpenShut
import Derived.ChangeSame
import Derived.Deep.Slices
import Derived.Deep.Strs
import Derived.Lib.SmallJoins
/- A described question, as it comes in: opened. -/
namespace Go.Proofs.YthhkmihjnnfpgaaGreatDoor
set_option linter.all false
open Go.ChangeShapes Go.WideShapes Go.ChangeAt Go.RowKit

theorem cellsPl44:Tryz.prog.cellsOf 25 = 6:=by kernel_rfl
theorem cellsBs44:Tryz.prog.cellsOf 22 = 1:=by kernel_rfl
theorem cellsBt44:Tryz.prog.cellsOf 136 = 3:=by kernel_rfl
theorem cellsU44:Tryz.prog.cellsOf 5 = 1:=by kernel_rfl
theorem cellsU444:Tryz.prog.cellsOf 23 = 4:=by kernel_rfl
theorem array6x {α:Type} {cs:Array α} (h:cs.size=6):∃ c0 c1 c2 c3 c4 c5,cs=#[c0,c1,c2,c3,c4,c5]:=by
 obtain ⟨l⟩:=cs
 match l,h with
 | [c0,c1,c2,c3,c4,c5],_=>exact ⟨c0,c1,c2,c3,c4,c5,rfl⟩
theorem cell_blk44 {W:World} {a:Addr} {u:Value} (h:W.cell? a=some u):a.block < W.heap.size:=World.cells?_block (base:=0) (cells?_one (Nat.zero_le _) h) (by omega)
section
variable {H:Type} {enc:TypeId × Value→H} {W:World} {m:Nat} {r:DataW H × List MemPlace}
set_option maxRecDepth 100000 in
theorem u8_cell44 {c:Value} (h:DataW.trod enc Tryz.prog W 0 (fun _=>true) true m 5 [c]=some r):∃ x:Nat,c=.int .u8 (x:Int)∧x < 256:=by
 obtain ⟨n,e,_,hw⟩:=DataW.trod_int Tryz.underlying5 h
 simp at e
 have hb:=bounds_u8 hw
 exact ⟨n.toNat,by rw [e,Int.toNat_of_nonneg hb.1],by omega⟩
set_option maxRecDepth 100000 in
theorem u4_cells44 {c0 c1 c2 c3:Value} (h:DataW.trod enc Tryz.prog W 0 (fun _=>true) true m 23 [c0,c1,c2,c3]=some r):∃ x0 x1 x2 x3:Nat,c0=.int .u8 (x0:Int)∧c1=.int .u8 (x1:Int)∧c2=.int .u8 (x2:Int)∧c3=.int .u8 (x3:Int)∧(x0 < 256∧x1 < 256∧x2 < 256∧x3 < 256):=by
 obtain ⟨xs,n,_,_,_,hxl,hx⟩:=DataW.trod_array Tryz.underlying23 h
 have h0:=hx 0 (by omega)
 have h1:=hx 1 (by omega)
 have h2:=hx 2 (by omega)
 have h3:=hx 3 (by omega)
 match xs,hxl with
 | [u0,u1,u2,u3],_ =>
  rw [cellsU44] at h0 h1 h2 h3
  obtain ⟨x0,rfl,b0⟩:=u8_cell44 (r:=u0) (by simpa using h0)
  obtain ⟨x1,rfl,b1⟩:=u8_cell44 (r:=u1) (by simpa using h1)
  obtain ⟨x2,rfl,b2⟩:=u8_cell44 (r:=u2) (by simpa using h2)
  obtain ⟨x3,rfl,b3⟩:=u8_cell44 (r:=u3) (by simpa using h3)
  exact ⟨x0,x1,x2,x3,rfl,rfl,rfl,rfl,b0,b1,b2,b3⟩
set_option maxRecDepth 100000 in
theorem bit_cells44 {cs:List Value} (hl:cs.length=3) (h:DataW.trod enc Tryz.prog W 0 (fun _=>true) true m 136 cs=some r):∃ b:Bt,cs=b.cells∧b.ok:=by
 match cs,hl with
 | [c0,c1,c2],_ =>
  obtain ⟨y0,y1,y2,n,_,_,h0,h1,h2⟩:=Deep.trod_struct3 Tryz.underlying136 h
  simp [cellsU44] at h0 h1 h2
  obtain ⟨x0,rfl,b0⟩:=u8_cell44 h0
  obtain ⟨x1,rfl,b1⟩:=u8_cell44 h1
  obtain ⟨x2,rfl,b2⟩:=u8_cell44 h2
  exact ⟨⟨x0,x1,x2⟩,rfl,b0,b1,b2⟩
set_option maxRecDepth 100000 in
theorem bits_cell44 {c:Value} (h:DataW.trod enc Tryz.prog W 0 (fun _=>true) true m 22 [c]=some r):∃ l:List Bt,(∀ b ∈ l,b.ok)∧BAt W c l:=by
 rcases Go.Deep.open_slice Tryz.underlying22 h with ⟨hcs,_⟩ | ⟨a,len,cap,m,n',D,Pl,hcs,_,hl,hm,hmm,_,hel⟩
 ·simp at hcs
  subst hcs
  exact ⟨[],(fun q hq=>by cases hq),⟨none,0,rfl,(fun i t h=>by simp at h)⟩,none,0,rfl,Nat.le_refl _⟩
 ·simp at hcs
  subst hcs
  have hml:len≤m:=by rw [hmm]; split <;> omega
  have each:∀ i,∃ g:Bt,g.ok∧(i < len→∀ j u,g.cells[j]?=some u→W.cell? ((a.add (i * 3)).add j)=some u):=by
   intro i
   by_cases hi:i < len
   ·obtain ⟨cs,hc,ht⟩:=hel i (by omega)
    rw [cellsBt44] at hc
    obtain ⟨q1,q2,q3⟩:=World.cells?_some hc
    obtain ⟨g,rfl,hb⟩:=bit_cells44 q2 ht
    exact ⟨g,hb,fun _ j u hu=>by
     have hj:j < 3:=(List.getElem?_eq_some_iff.1 hu).1
     rw [← hu]
     exact q3 j hj⟩
   ·exact ⟨⟨0,0,0⟩,⟨by decide,by decide,by decide⟩,fun h=>absurd h hi⟩
  obtain ⟨g,hg⟩:=Classical.axiomOfChoice each
  obtain ⟨b,off,spot⟩:=a
  have hln:((List.range len).map g).length=len:=by simp
  refine ⟨(List.range len).map g,?_,⟨some ⟨b,off,spot⟩,cap,by rw [hln],fun i t hit=>?_⟩,some ⟨b,off,spot⟩,cap,by rw [hln],by rw [hln]; exact hl⟩
  ·intro q hq
   obtain ⟨i,_,rfl⟩:=List.mem_map.1 hq
   exact (hg i).1
  have hi:i < len:=by
   have:=(List.getElem?_eq_some_iff.1 hit).1
   simpa using this
  have ht:g i=t:=by
   rw [List.getElem?_map,List.getElem?_range hi] at hit
   simpa using hit
  have hspot:spot=none:=by simpa [Addr.add] using World.cell?_spot ((hg 0).2 (by omega) 0 _ rfl)
  subst hspot
  refine ⟨b,off,rfl,?_,fun j u hu=>?_⟩
  ·have:=cell_blk44 ((hg i).2 hi 0 _ rfl)
   simpa [Addr.add,apply_ite] using this
  ·rw [← ht] at hu
   have h2:=(hg i).2 hi j u hu
   rw [show ((⟨b,off,none⟩:Addr).add (i * 3)).add j=⟨b,off + i * 3 + j,none⟩ by unfold Addr.add; split <;> split <;> simp_all] at h2
   exact h2
end

section
variable {H:Type} {enc:TypeId × Value→H} {W:World} {base:Nat} {v:Value} {d:DataW H} {p:List MemPlace}
set_option maxRecDepth 100000 in
theorem open_plan44 (hv:Value.okWide Tryz.prog W .any base 25 v) (h:DataW.Trod enc Tryz.prog W 0 (fun _=>true) true 25 v d p) :
  ∃ (P:PL) (vl vr:Value),v=.agg #[vl,vr,.int .u8 P.c0,.int .u8 P.c1,.int .u8 P.c2,.int .u8 P.c3]∧P.ok∧BAt W vl P.l∧BAt W vr P.r:=by
 have hu:=Tryz.underlying25
 simp only [Value.okWide,hu] at hv
 obtain ⟨cs,rfl,hs,_⟩:=hv
 obtain ⟨c0,c1,c2,c3,c4,c5,rfl⟩:=array6x (hs.trans cellsPl44)
 obtain ⟨fuel,hf⟩:=h
 simp [Value.cells] at hf
 obtain ⟨y0,y1,y2,n,_,_,h0,h1,h2⟩:=Deep.trod_struct3 hu hf
 simp [cellsBs44,cellsU444] at h0 h1 h2
 obtain ⟨l,hl,bl⟩:=bits_cell44 h0
 obtain ⟨r,hr,br⟩:=bits_cell44 h1
 obtain ⟨x0,x1,x2,x3,rfl,rfl,rfl,rfl,hx⟩:=u4_cells44 h2
 exact ⟨⟨l,r,x0,x1,x2,x3⟩,c0,c1,rfl,⟨hl,hr,hx⟩,bl,br⟩
end

end Go.Proofs.YthhkmihjnnfpgaaGreatDoor
