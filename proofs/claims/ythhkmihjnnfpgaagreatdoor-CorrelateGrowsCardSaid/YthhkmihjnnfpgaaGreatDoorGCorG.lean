/- Correlate: Graph; AppendSeq; All. -/
import Derived.Test.YthhkmihjnnfpgaaGreatDoorGCorS
import Derived.Test.YthhkmihjnnfpgaaGreatDoorGCorN
import Derived.Test.YthhkmihjnnfpgaaGreatDoorGCorU
import Derived.Test.YthhkmihjnnfpgaaGreatDoorGCorE
import Derived.Test.YthhkmihjnnfpgaaGreatDoorGCorV
import Derived.Test.YthhkmihjnnfpgaaGreatDoorGCorRa
import Derived.Test.YthhkmihjnnfpgaaGreatDoorGCorY
import Derived.ArgAppend
/- slices.AppendSeq over the good steps from a position. -/
namespace Go.Proofs.YthhkmihjnnfpgaaGreatDoor
set_option linter.all false
open Go.RowKit

attribute [local go_sem] Oper.semAt_some

structure AsQ (w:World) (base bS:Nat) (us:List (Nat × Nat × Nat)) (v:Value) (V:World):Prop where
 kb:Blk V bS #[v] 34
 row:SRow stC 3 56 V base v us
 sz:base≤V.heap.size
 bb:Below base w V
section
variable {w V V':World} {base bS:Nat} {us:List (Nat × Nat × Nat)} {v:Value}
theorem AsQ.below (h:AsQ w base bS us v V) (k:Below V.heap.size V V'):AsQ w base bS us v V':=⟨h.kb.below k,h.row.below k,Nat.le_trans h.sz k.size,h.bb.trans (k.mono h.sz)⟩
theorem AsQ.own {β:Type} {B:Nat} (hB:base≤B):OwnFrom B (fun (_:β) V=>AsQ w base bS us v V):=fun s V V' row h hg hr=>by
 have hc:=ownFrom_cells (I:=fun (_:Unit) X=>Blk X bS #[v] 34 ∧ SRow stC 3 56 X base v us) (fun _ X X' h k _=>⟨h.1.keptC k trivial,h.2.keptC k (fun _ _=>trivial)⟩) B () V V' row ⟨h.kb,h.row⟩ hg hr
 exact ⟨hc.1,hc.2,Nat.le_trans h.sz hg.size,h.bb.grown hg h.sz (fun k hk=>Nat.le_trans hB (hr k hk).1)⟩
theorem AsQ.ne (h:AsQ w base bS us v V):v.ownBlock ≠ some bS:=fun e=>by
 obtain ⟨_,_,cs,h2⟩:=h.row.own _ e
 exact absurd (h2.type_eq h.kb) (by decide)
theorem AsQ.step {x:Nat × Nat × Nat} {X1:World} {v':Value} (h:AsQ w base bS us v V) (hb:base≤bS) (r1:SRow stC 3 56 X1 base v' (us ++ [x])) (r2:Below base V X1) (r3:KeptC (fun g _=>v.ownBlock ≠ some g) V X1) (r4:KeepsFrom 0 V X1) :
  AsQ w base bS (us ++ [x]) v' (X1.setCell ⟨bS,0,none⟩ v')∧KeepsFrom 0 V (X1.setCell ⟨bS,0,none⟩ v')∧KeptC (fun g t=>¬ (g=bS ∨ (base≤g∧t = 56))) V (X1.setCell ⟨bS,0,none⟩ v') ∧
   X1.cell? ⟨bS,0,none⟩=some v∧X1.frozen? ⟨bS,0,none⟩=false:=by
 have k1:Blk X1 bS #[v] 34 := h.kb.keptC r3 h.ne
 have w1:=Wrote.set k1 0 v'
 refine ⟨⟨k1.set 0 v',r1.set_ty k1 (by decide) 0 v',Nat.le_trans h.sz (Nat.le_trans r2.size w1.below.size),h.bb.trans (r2.trans (w1.below.mono hb))⟩,r4.trans w1.keeps,?_,k1.at_ 0 _ rfl,k1.free 0⟩
 refine KeptC.trans (fun g cs t fz hm e=>r3 g cs t fz (fun ho=>hm (.inr ?_)) e) (w1.kept.mono (fun g t hm e=>hm (.inl e)))
 obtain ⟨h1,_,cs',h2⟩:=h.row.own g ho
 have e2:=(show V.heap[g]?=_ from h2).symm.trans e
 injection e2 with e2
 injection e2 with _ e3 _
 exact ⟨h1,e3.symm⟩
end

end Go.Proofs.YthhkmihjnnfpgaaGreatDoor

/- Graph: the steps of best alignments. -/
namespace Go.Proofs.YthhkmihjnnfpgaaGreatDoor
set_option linter.all false
open Go.RowKit

attribute [local go_sem] Oper.semAt_some

theorem SRow.mono {α:Type} {f:α→List Value} {sz:Nat} {T:TypeId} {W:World} {base base':Nat} {v:Value} {us:List α} (h:SRow f sz T W base v us) (hb:base'≤base):SRow f sz T W base' v us:=by
 rcases h with h | ⟨d,c,r,a1,a2,a3⟩
 ·exact .inl h
 ·exact .inr ⟨d,c,r,a1,by omega,a3⟩

end Go.Proofs.YthhkmihjnnfpgaaGreatDoor

/- All: what lies in memory, what stays. -/
namespace Go.Proofs.YthhkmihjnnfpgaaGreatDoor
set_option linter.all false
open Go.RowKit

attribute [local go_sem] Oper.semAt_some

section
variable {α:Type} {f:α→List Value} {sz:Nat} {T:TypeId}
theorem app_grow {P:Program} {t:TypeId} {bytes:Nat} (E:StrElem P t T sz bytes) (hf:∀ u,(f u).length=sz) (hone:∀ u,∀ x ∈ f u,x.oneCell'=true) {o:Oper} {a:Act} {Q:Exit→Act→World→Prop} {K:Act→World→Prop} (s x:Operand) (ho:o.op=.call { callee:=.builtin .append,args:=#[s,x],argTypes:=#[t,t] })
  (W:World) (base:Nat) (vA:Option Addr) (n vc:Nat) (us:List α) (row:SRow f sz T W base (.slice vA n vc) us) (hs:a.eval s=.slice vA n n) (hlen:us.length≤5000) (u:α) (h':Nat) (hx:a.eval x=.slice (some ⟨h',0,none⟩) 1 1) (hcell:∀ j y,(f u)[j]?=some y→W.cell? ⟨h',j,none⟩=some y)
  (h:∀ v' w',SRow f sz T w' W.heap.size v' (us ++ [u])→Below W.heap.size W w'→K (a.put o.dst v') w') :
  Oper.wp P o a W K Q:=by
 obtain ⟨i0,z0,hi,hz0,hz1,hz2,hz3⟩:=StrElem.parts E
 have hsm:=E.small
 have snoc:(us ++ [u]).flatMap f=us.flatMap f ++ f u:=by simp
 rcases row with ⟨rfl,e1⟩ | ⟨d,c,r,e1,h2,h3,h4,h5⟩
 ·injection e1 with e1 e2 e3
  subst e1 e2
  exact app_op E hf hone s x ho W W.heap.size (Nat.le_refl _) (.slice none 0 0) [] (SRow.nil _ _) hs (by simp) u h' hx hcell (fun v' w' r1 r2 _ _=>h v' w' r1 r2)
 ·injection e1 with e1 e2 e3
  subst e1 e2
  have hbytes:(us.length + 1) * bytes≤140737488355328:=by
   have:(us.length + 1) * bytes≤5001 * 1000:=Nat.mul_le_mul (by omega) hsm
   omega
  obtain ⟨v',w',hr,q2,q3⟩:=run_append_arg_grows (P:=P) W t o.type T i0 z0 sz bytes E.ht hi hz0 hz2 hz3 hz1 E.pos ⟨d,0,none⟩ us.length us.length (us.flatMap f) h5.len (fun j y hj=>by
   rw [Addr.add_lit,Nat.zero_add]
   exact h4.atL j y (by rw [List.getElem?_append_left (List.getElem?_eq_some_iff.1 hj).1]; exact hj)) ⟨h',0,none⟩ 1 1 (f u) (by rw [hf,Nat.one_mul]) (fun j y hj=>by rw [Addr.add_lit,Nat.zero_add]; exact hcell j y hj) (by omega) (by simp only [maxLen]; omega) hbytes
  unfold Oper.wp execOp
  simp only [ho,resolve,invoke,builtin,Sem.run_bind,Sem.run_pure,Result.andThen_ok,List.map_toArray,List.map_cons,List.map_nil,hs,hx,hr]
  exact h v' w' (SRow.of_own (by rw [snoc,List.length_append]; exact q2) (by simp)) (below_app0 (Below.refl _ _) q3 (Nat.le_refl _))
end
def alC (T:ByteArray) (x:Option Addr × Nat × Nat):List Value:=[.slice x.1 x.2.1 x.2.2,.string T]
theorem alC_len (T:ByteArray) (x:Option Addr × Nat × Nat):(alC T x).length=2:=rfl
theorem alC_one (T:ByteArray) (x:Option Addr × Nat × Nat):∀ u ∈ alC T x,u.oneCell'=true:=by
 intro u hu
 unfold alC at hu
 simp only [List.mem_cons,List.not_mem_nil,or_false] at hu
 rcases hu with rfl | rfl <;> rfl
theorem ElA:StrElem Tryz.prog 68 36 2 40:=⟨Tryz.underlying68, by kernel_rfl,by omega,by omega⟩
structure AlsQ (base:Nat) (T:ByteArray) (ss:List (List (Nat × Nat × Nat))) (v:Value) (xs:List (Option Addr × Nat × Nat)) (W:World):Prop where
 row:SRow (alC T) 2 36 W base v xs
 len:xs.length=ss.length
 at_:∀ (i:Nat) x s,xs[i]?=some x→ss[i]?=some s→SRow stC 3 56 W 0 (.slice x.1 x.2.1 x.2.2) s
structure OutQ (base bo:Nat) (T:ByteArray) (ss:List (List (Nat × Nat × Nat))) (v:Value) (xs:List (Option Addr × Nat × Nat)) (W:World):Prop where
 kb:Blk W bo #[v] 68
 als:AlsQ base T ss v xs W
structure FrS (w0:World) (base bq bo bs bl bt bf ob:Nat) (rb:List Nat) (q:CQ) (sl sr:Value) (T:ByteArray) (lim:Nat) (W:World):Prop where
 bb:Below w0.heap.size w0 W
 kq:Blk W bq #[sl,sr,.string (qT (2 * q.ch)),.string (qT (2 * q.mi)),.string (qT (2 * q.ga)),.string (qT (2 * q.re))] 32
 ks:Blk W bs #[.string T] 28
 kl:Blk W bl #[.int .i64 lim] 3
 kt:Blk W bt #[.slice (some ⟨ob,0,none⟩) rb.length rb.length] 99
 kf:Blk W bf #[.func (.func 67) #[] #[.pointer (some ⟨bq,0,none⟩),.pointer (some ⟨bo,0,none⟩),.pointer (some ⟨bs,0,none⟩),.pointer (some ⟨bl,0,none⟩),.pointer (some ⟨bt,0,none⟩),.pointer (some ⟨bf,0,none⟩)]] 122
 tab:TabT W ob rb (q.R.length + 1) (rstT q) 71 28
 far:∀ g ∈ [bq,bs,bl,bt,bf,ob] ++ rb,g ≠ bo∧g < base
 s1:w0.heap.size≤bq∧w0.heap.size≤bo∧bo < base∧base≤W.heap.size
section
variable {w0 W W':World} {base bq bo bs bl bt bf ob:Nat} {rb:List Nat} {q:CQ} {sl sr:Value} {T:ByteArray} {lim:Nat}
theorem FrS.keep (h:FrS w0 base bq bo bs bl bt bf ob rb q sl sr T lim W) (k:KeptC (fun g t=>¬ (g=bo ∨ (base≤g∧t = 36))) W W') (kb:Below w0.heap.size W W'):FrS w0 base bq bo bs bl bt bf ob rb q sl sr T lim W':=by
 have hn:∀ g t,g ∈ [bq,bs,bl,bt,bf,ob] ++ rb→(fun g t=>¬ (g=bo ∨ (base≤g∧t = 36))) g t:=fun g t hg e=>by have:=h.far g hg; omega
 have hm:∀ g,g ∈ [bq,bs,bl,bt,bf,ob]→g ∈ [bq,bs,bl,bt,bf,ob] ++ rb:=fun g hg=>List.mem_append_left _ hg
 exact ⟨h.bb.trans kb,h.kq.keptC k (hn _ _ (hm _ (by simp))),h.ks.keptC k (hn _ _ (hm _ (by simp))),h.kl.keptC k (hn _ _ (hm _ (by simp))),h.kt.keptC k (hn _ _ (hm _ (by simp))),h.kf.keptC k (hn _ _ (hm _ (by simp))),h.tab.keptC k (hn _ _ (hm _ (by simp))) (fun g hg=>hn _ _ (List.mem_append_right _ hg)),h.far,h.s1.1,h.s1.2.1,h.s1.2.2.1,Nat.le_trans h.s1.2.2.2 kb.size⟩
theorem FrS.below (h:FrS w0 base bq bo bs bl bt bf ob rb q sl sr T lim W) (k:Below W.heap.size W W'):FrS w0 base bq bo bs bl bt bf ob rb q sl sr T lim W':=h.keep (KeptC.below k) (k.mono h.bb.size)
variable {ss:List (List (Nat × Nat × Nat))} {v:Value} {xs:List (Option Addr × Nat × Nat)}
theorem AlsQ.keptC {S:Nat→TypeId→Prop} (h:AlsQ base T ss v xs W) (k:KeptC S W W') (h1:∀ g,v.ownBlock=some g→S g 36) (h2:∀ g,S g 56):AlsQ base T ss v xs W' :=
 ⟨h.row.keptC k h1,h.len,fun i x s e1 e2=>(h.at_ i x s e1 e2).keptC k (fun g _=>h2 g)⟩
theorem AlsQ.below (h:AlsQ base T ss v xs W) (k:Below W.heap.size W W'):AlsQ base T ss v xs W':=⟨h.row.below k,h.len,fun i x s e1 e2=>(h.at_ i x s e1 e2).below k⟩
theorem OutQ.below (h:OutQ base bo T ss v xs W) (k:Below W.heap.size W W'):OutQ base bo T ss v xs W':=⟨h.kb.below k,h.als.below k⟩
theorem OutQ.keptT (h:OutQ base bo T ss v xs W) (k:KeptC (fun _ _=>True) W W'):OutQ base bo T ss v xs W':=⟨h.kb.keptC k trivial,h.als.keptC k (fun _ _=>trivial) (fun _=>trivial)⟩
theorem OutQ.ne (h:OutQ base bo T ss v xs W):v.ownBlock ≠ some bo:=fun e=>by
 obtain ⟨_,_,cs,h2⟩:=h.als.row.own _ e
 exact absurd (h2.type_eq h.kb) (by decide)
theorem OutQ.step {X1:World} {v':Value} {x:Option Addr × Nat × Nat} {s:List (Nat × Nat × Nat)} (h:OutQ base bo T ss v xs W) (hw:base≤W.heap.size) (hlo:w0.heap.size≤bo) (hbo:bo < base) (hx:SRow stC 3 56 W 0 (.slice x.1 x.2.1 x.2.2) s)
  (r1:SRow (alC T) 2 36 X1 base v' (xs ++ [x])) (r2:Below base W X1) (r3:KeptC (fun g _=>v.ownBlock ≠ some g) W X1) (r4:KeepsFrom 0 W X1) :
  OutQ base bo T (ss ++ [s]) v' (xs ++ [x]) (X1.setCell ⟨bo,0,none⟩ v')∧KeepsFrom 0 W (X1.setCell ⟨bo,0,none⟩ v')∧KeptC (fun g t=>¬ (g=bo ∨ (base≤g∧t = 36))) W (X1.setCell ⟨bo,0,none⟩ v')∧Below w0.heap.size W (X1.setCell ⟨bo,0,none⟩ v') ∧
   X1.cell? ⟨bo,0,none⟩=some v∧X1.frozen? ⟨bo,0,none⟩=false:=by
 have k1:Blk X1 bo #[v] 68 := h.kb.keptC r3 h.ne
 have w1:=Wrote.set k1 0 v'
 have hk:KeptC (fun g t=>¬ (g=bo ∨ (base≤g∧t = 36))) W X1:=fun g cs t fz hm e=>r3 g cs t fz (fun ho=>hm (.inr (by
  obtain ⟨h1,_,cs',h2⟩:=h.als.row.own g ho
  have e2:=(show W.heap[g]?=_ from h2).symm.trans e
  injection e2 with e2
  injection e2 with _ e3 _
  exact ⟨h1,e3.symm⟩))) e
 have hk2:KeptC (fun g t=>¬ (g=bo ∨ (base≤g∧t = 36))) X1 (X1.setCell ⟨bo,0,none⟩ v'):=w1.kept.mono (fun g t hm e=>hm (.inl e))
 have own_st:∀ {z:Value} {l:List (Nat × Nat × Nat)},SRow stC 3 56 W 0 z l→SRow stC 3 56 (X1.setCell ⟨bo,0,none⟩ v') 0 z l:=fun {z l} hz=>by
  have hz1:SRow stC 3 56 X1 0 z l:=hz.keptC r3 (fun g hg e=>by
   obtain ⟨_,_,cs,b1⟩:=hz.own g hg
   obtain ⟨_,_,cs',b2⟩:=h.als.row.own g e
   exact absurd (b1.type_eq b2) (by decide))
  exact hz1.set_ty k1 (by decide) 0 v'
 refine ⟨⟨k1.set 0 v',r1.set_ty k1 (by decide) 0 v',by simp [h.als.len],fun i y t e1 e2=>?_⟩,r4.trans w1.keeps,hk.trans hk2,(r2.mono (by omega)).trans (w1.below.mono hlo),k1.at_ 0 _ rfl,k1.free 0⟩
 by_cases hi:i < xs.length
 ·rw [List.getElem?_append_left hi] at e1
  rw [List.getElem?_append_left (by rw [← h.als.len]; exact hi)] at e2
  exact own_st (h.als.at_ i y t e1 e2)
 ·have hi2:i=xs.length:=by
   have:=(List.getElem?_eq_some_iff.1 e1).1
   simp at this
   omega
  subst hi2
  rw [List.getElem?_append_right (Nat.le_refl _)] at e1
  rw [h.als.len,List.getElem?_append_right (Nat.le_refl _)] at e2
  simp at e1 e2
  subst e1 e2
  exact own_st hx
end
def subW (q:CQ) (i j:Nat) (pre:List (Nat × Nat × Nat)) (k:Nat):List (List (Nat × Nat × Nat)):=(allW q (nxI k i) (nxJ k j)).map (fun s=>pre ++ [(k,i,j)] ++ s)
theorem allW_sub (q:CQ) (i j:Nat) (hi:i≤q.L.length) (hj:j≤q.R.length) (hne:¬ (i=q.L.length∧j=q.R.length)) (pre:List (Nat × Nat × Nat)) :
  (allW q i j).map (fun s=>pre ++ s)=(gdS q i j).flatMap (fun x=>subW q i j pre x.k):=by
 rw [allW_eq q i j hi hj hne,← gdS_k,List.map_flatMap,List.flatMap_map]
 congr 1
 funext x
 unfold subW
 rw [List.map_map]
 congr 1
 funext s
 simp
theorem sub_pre {q:CQ} {i j:Nat} {pre:List (Nat × Nat × Nat)} {l m:List (SK q i j)} (h:l <+: m):(l.flatMap (fun x=>subW q i j pre x.k)).length≤(m.flatMap (fun x=>subW q i j pre x.k)).length:=by
 obtain ⟨r,rfl⟩:=h
 rw [List.flatMap_append,List.length_append]
 omega
structure G2 (W:World) (T:ByteArray) (us:List (Nat × Nat × Nat)) (L:Nat→Prop) (σ:Nat→Value) (U:World):Prop where
 bb:Below W.heap.size W U
 c:L 2→∃ a c,σ 30=.slice a us.length c∧SRow stC 3 56 U 0 (σ 30) us
 d:L 4→L 2∧σ 32=.agg #[σ 30,.string T]
 f:L 5→L 2∧∃ h,σ 33=.slice (some ⟨h,0,none⟩) 1 1∧Blk U h #[σ 30,.string T] 36
section
variable {W U U':World} {T:ByteArray} {us:List (Nat × Nat × Nat)} {L:Nat→Prop} {σ:Nat→Value}
theorem G2.start (h:Below W.heap.size W U):G2 W T us (fun _=>False) σ U:=⟨h,fun h=>h.elim,fun h=>h.elim,fun h=>h.elim⟩
theorem G2.pure (h:G2 W T us L σ U) (k s:Nat) (v:Value) (hk:k ≠ 2∧k ≠ 4∧k ≠ 5) (hs:s ≠ 30∧s ≠ 32∧s ≠ 33):G2 W T us (fun j=>L j ∨ j=k) (updS σ (some s) v) U:=by
 have e30:=upd_ne σ s 30 v (Ne.symm hs.1)
 have e32:=upd_ne σ s 32 v (Ne.symm hs.2.1)
 have e33:=upd_ne σ s 33 v (Ne.symm hs.2.2)
 have l:∀ m,m ≠ k→((L m ∨ m=k)→L m):=fun m hm x=>x.resolve_right hm
 refine ⟨h.bb,?_,?_,?_⟩
 ·rw [e30]; exact fun x=>h.c (l 2 (Ne.symm hk.1) x)
 ·rw [e30,e32]; exact fun x=>⟨.inl (h.d (l 4 (Ne.symm hk.2.1) x)).1,(h.d (l 4 (Ne.symm hk.2.1) x)).2⟩
 ·rw [e30,e33]; exact fun x=>⟨.inl (h.f (l 5 (Ne.symm hk.2.2) x)).1,(h.f (l 5 (Ne.symm hk.2.2) x)).2⟩
theorem G2.mkC (h:G2 W T us L σ U) (hn:¬ L 2) {a:Option Addr} {c:Nat} (b:Below U.heap.size U U') (hr:SRow stC 3 56 U' 0 (.slice a us.length c) us):G2 W T us (fun j=>L j ∨ j=2) (updS σ (some 30) (.slice a us.length c)) U':=by
 have e30:=upd_at σ 30 (.slice a us.length c)
 refine ⟨h.bb.trans (b.mono h.bb.size),fun _=>?_,fun x=>absurd (h.d (x.resolve_right (by decide))).1 hn,fun x=>absurd (h.f (x.resolve_right (by decide))).1 hn⟩
 rw [e30]
 exact ⟨_,_,rfl,hr⟩
theorem G2.mkD (h:G2 W T us L σ U) (h2:L 2):G2 W T us (fun j=>L j ∨ j=4) (updS σ (some 32) (.agg #[σ 30,.string T])) U:=by
 have e30:=upd_ne σ 32 30 (.agg #[σ 30,.string T]) (by decide)
 have e32:=upd_at σ 32 (.agg #[σ 30,.string T])
 have e33:=upd_ne σ 32 33 (.agg #[σ 30,.string T]) (by decide)
 refine ⟨h.bb,?_,?_,?_⟩
 ·rw [e30]; exact fun x=>h.c (x.resolve_right (by decide))
 ·rw [e30,e32]; exact fun _=>⟨.inl h2,rfl⟩
 ·rw [e30,e33]; exact fun x=>⟨.inl h2,(h.f (x.resolve_right (by decide))).2⟩
theorem G2.mkF (h:G2 W T us L σ U) (h2:L 2):G2 W T us (fun j=>L j ∨ j=5) (updS σ (some 33) (.slice (some ⟨U.heap.size,0,none⟩) 1 1)) (U.alloc (.cells #[σ 30,.string T] 36)):=by
 have b:=below_new U (.cells #[σ 30,.string T] 36)
 have e30:=upd_ne σ 33 30 (.slice (some ⟨U.heap.size,0,none⟩) 1 1) (by decide)
 have e32:=upd_ne σ 33 32 (.slice (some ⟨U.heap.size,0,none⟩) 1 1) (by decide)
 have e33:=upd_at σ 33 (.slice (some ⟨U.heap.size,0,none⟩) 1 1)
 refine ⟨h.bb.trans (b.mono h.bb.size),?_,?_,?_⟩
 ·rw [e30]
  intro x
  obtain ⟨a,c,a1,a2⟩:=h.c (x.resolve_right (by decide))
  exact ⟨a,c,a1,a2.below b⟩
 ·rw [e30,e32]; exact fun x=>⟨.inl h2,(h.d (x.resolve_right (by decide))).2⟩
 ·rw [e30,e33]; exact fun _=>⟨.inl h2,_,rfl,Blk.fresh U _ _⟩
end
structure G7 (W:World) (x:Nat × Nat × Nat) (us:List (Nat × Nat × Nat)) (L:Nat→Prop) (σ:Nat→Value) (U:World):Prop where
 bb:Below W.heap.size W U
 e:L 8→∃ h,σ 58=.slice (some ⟨h,0,none⟩) 1 1∧Blk U h (stC x).toArray 56
 f:L 9→SRow stC 3 56 U 0 (σ 59) (us ++ [x])
section
variable {W U U':World} {x:Nat × Nat × Nat} {us:List (Nat × Nat × Nat)} {L:Nat→Prop} {σ:Nat→Value}
theorem G7.start (h:Below W.heap.size W U):G7 W x us (fun _=>False) σ U:=⟨h,fun h=>h.elim,fun h=>h.elim⟩
theorem G7.pure (h:G7 W x us L σ U) (k s:Nat) (v:Value) (hk:k ≠ 8∧k ≠ 9) (hs:s ≠ 58∧s ≠ 59):G7 W x us (fun j=>L j ∨ j=k) (updS σ (some s) v) U:=by
 have e58:=upd_ne σ s 58 v (Ne.symm hs.1)
 have e59:=upd_ne σ s 59 v (Ne.symm hs.2)
 refine ⟨h.bb,?_,?_⟩
 ·rw [e58]; exact fun y=>h.e (y.resolve_right (Ne.symm hk.1))
 ·rw [e59]; exact fun y=>h.f (y.resolve_right (Ne.symm hk.2))
theorem G7.mkE (h:G7 W x us L σ U):G7 W x us (fun j=>L j ∨ j=8) (updS σ (some 58) (.slice (some ⟨U.heap.size,0,none⟩) 1 1)) (U.alloc (.cells (stC x).toArray 56)):=by
 have b:=below_new U (.cells (stC x).toArray 56)
 have e58:=upd_at σ 58 (.slice (some ⟨U.heap.size,0,none⟩) 1 1)
 have e59:=upd_ne σ 58 59 (.slice (some ⟨U.heap.size,0,none⟩) 1 1) (by decide)
 refine ⟨h.bb.trans (b.mono h.bb.size),?_,?_⟩
 ·rw [e58]; exact fun _=>⟨_,rfl,Blk.fresh U _ _⟩
 ·rw [e59]; exact fun y=>(h.f (y.resolve_right (by decide))).below b
theorem G7.mkF (h:G7 W x us L σ U) {v:Value} (b:Below U.heap.size U U') (hr:SRow stC 3 56 U' 0 v (us ++ [x])):G7 W x us (fun j=>L j ∨ j=9) (updS σ (some 59) v) U':=by
 have e58:=upd_ne σ 59 58 v (by decide)
 have e59:=upd_at σ 59 v
 refine ⟨h.bb.trans (b.mono h.bb.size),?_,?_⟩
 ·rw [e58]
  intro y
  obtain ⟨g,a1,a2⟩:=h.e (y.resolve_right (by decide))
  exact ⟨g,a1,a2.below b⟩
 ·rw [e59]; exact fun _=>hr
end

end Go.Proofs.YthhkmihjnnfpgaaGreatDoor

/- All's closure. -/
namespace Go.Proofs.YthhkmihjnnfpgaaGreatDoor
set_option linter.all false
open Go.RowKit

attribute [local go_sem] Oper.semAt_some

structure RX (w0 W:World) (base bo b12 B:Nat) (V:World):Prop where
 k12:Blk V b12 #[.bool false] 4
 kc:KeptC (fun g t=>¬ (g=bo ∨ (base≤g∧t = 36))) W V
 kl:KeepsLow B W V
 bb:Below w0.heap.size W V
 sz:W.heap.size≤V.heap.size∧w0.heap.size≤W.heap.size
theorem keptC_setT {W:World} {b:Nat} {cs:Array Value} {T:TypeId} (h:Blk W b cs T) (j:Nat) (u:Value):KeptC (fun g t=>¬ (g=b∧t=T)) W (W.setCell ⟨b,j,none⟩ u):=fun g cs' t fz hg e=>by
 by_cases hb:g=b
 ·subst hb
  have e2:=(show W.heap[g]?=_ from h).symm.trans e
  injection e2 with e2
  injection e2 with _ e3 _
  exact absurd ⟨rfl,e3.symm⟩ hg
 ·unfold World.setCell
  simp only [Array.getElem?_modify]
  rw [if_neg (fun e2=>hb e2.symm)]
  exact e
section
variable {w0 W V V' w':World} {base bo b12 B:Nat}
theorem RX.below (h:RX w0 W base bo b12 B V) (k:Below V.heap.size V V'):RX w0 W base bo b12 B V' :=
 ⟨h.k12.below k,h.kc.trans (KeptC.below k),h.kl.trans (KeepsLow.of (keepsFrom_below k)),h.bb.trans (k.mono (Nat.le_trans h.sz.2 h.sz.1)),Nat.le_trans h.sz.1 k.size,h.sz.2⟩
theorem RX.keep (h:RX w0 W base bo b12 B V) (hb:bo ≠ b12) (k:KeptC (fun g t=>¬ (g=bo ∨ (base≤g∧t = 36))) V V') (kf:KeepsFrom 0 V V') (kb:Below w0.heap.size V V'):RX w0 W base bo b12 B V' :=
 ⟨h.k12.keptC k (fun e=>by rcases e with e | ⟨_,e⟩; exact hb e.symm; exact absurd e (by decide)),h.kc.trans k,h.kl.trans (KeepsLow.of kf),h.bb.trans kb,Nat.le_trans h.sz.1 kf.size,h.sz.2⟩
theorem RX.own {β:Type} (hwB:W.heap.size≤B):OwnFrom B (fun (_:β) V=>RX w0 W base bo b12 B V):=fun s V V' row h hg hr=>by
 have hc:=ownFrom_cells (I:=fun (_:Unit) X=>Blk X b12 #[.bool false] 4 ∧ KeptC (fun g t=>¬ (g=bo ∨ (base≤g∧t = 36))) W X) (fun _ X X' h k _=>⟨h.1.keptC k trivial,h.2.trans (k.mono (fun _ _ _=>trivial))⟩) B () V V' row ⟨h.k12,h.kc⟩ hg hr
 exact ⟨hc.1,hc.2,KeepsLow.own (β:=β) B W s V V' row h.kl hg hr,h.bb.grown hg (Nat.le_trans h.sz.2 h.sz.1) (fun k hk=>Nat.le_trans h.sz.2 (Nat.le_trans hwB (hr k hk).1)),Nat.le_trans h.sz.1 hg.size,h.sz.2⟩
theorem RX.set (h:RX w0 W base bo b12 B V) (hw:W.heap.size≤b12) (b:Bool):Blk (V.setCell ⟨b12,0,none⟩ (.bool b)) b12 #[.bool b] 4 ∧ KeptC (fun g t=>¬ (g=bo ∨ (base≤g∧t = 36))) W (V.setCell ⟨b12,0,none⟩ (.bool b))∧KeepsLow B W (V.setCell ⟨b12,0,none⟩ (.bool b))∧Below w0.heap.size W (V.setCell ⟨b12,0,none⟩ (.bool b))∧W.heap.size≤(V.setCell ⟨b12,0,none⟩ (.bool b)).heap.size:=by
 have w1:=Wrote.set h.k12 0 (.bool b)
 refine ⟨h.k12.set 0 (.bool b),fun g cs t fz hm e=>w1.kept g cs t fz (fun e2=>?_) (h.kc g cs t fz hm e),h.kl.trans (KeepsLow.of w1.keeps),h.bb.trans (w1.below.mono (Nat.le_trans h.sz.2 hw)),Nat.le_trans h.sz.1 w1.keeps.size⟩
 have:=(Array.getElem?_eq_some_iff.1 e).1
 omega
theorem RX.setF (h:RX w0 W base bo b12 B V) (hw:W.heap.size≤b12):RX w0 W base bo b12 B (V.setCell ⟨b12,0,none⟩ (.bool false)):=by
 obtain ⟨a1,a2,a3,a4,a5⟩:=h.set hw false
 exact ⟨a1,a2,a3,a4,a5,h.sz.2⟩
theorem rx_leave {b:Bool} (h:Blk V b12 #[.bool b] 4 ∧ KeptC (fun g t=>¬ (g=bo ∨ (base≤g∧t = 36))) W V∧KeepsLow B W V∧Below w0.heap.size W V∧W.heap.size≤V.heap.size) (hw0:w0.heap.size≤W.heap.size) (hWB:W.heap.size≤B) (hm:MarkW W.heap.size V w') :
  Blk w' b12 #[.bool b] 4 ∧ KeptC (fun g t=>¬ (g=bo ∨ (base≤g∧t = 36))) W w'∧KeepsFrom 0 W w'∧Below w0.heap.size W w':=by
 obtain ⟨h1,h2,h3,h4,h5⟩:=h
 have kc:KeptC (fun _ _=>True) V w':=fun g cs t fz _ e=>hm.cells g cs t fz e
 refine ⟨h1.keptC kc trivial,h2.trans (kc.mono (fun _ _ _=>trivial)),⟨Nat.le_trans h5 (Nat.le_of_eq hm.size.symm),fun k o _ hk ho=>?_⟩,h4.trans (hm.below.mono hw0)⟩
 have hlt:=(Array.getElem?_eq_some_iff.1 hk).1
 exact (hm.below.block k hlt).trans (h3 k o (Nat.lt_of_lt_of_le hlt hWB) ho hk)
theorem OutQ.set12 {T:ByteArray} {ss:List (List (Nat × Nat × Nat))} {v:Value} {xs:List (Option Addr × Nat × Nat)} {cs:Array Value} (h:OutQ base bo T ss v xs V) (k:Blk V b12 cs 4) (u:Value):OutQ base bo T ss v xs (V.setCell ⟨b12,0,none⟩ u):=by
 have kc:=keptC_setT k 0 u
 exact ⟨h.kb.keptC kc (fun e=>absurd e.2 (by decide)),h.als.keptC kc (fun g _ e=>absurd e.2 (by decide)) (fun g e=>absurd e.2 (by decide))⟩
end
structure RdS (w0 W:World) (base bq bo bs bl bt bf b9 b12 B ob:Nat) (rb:List Nat) (q:CQ) (sl sr:Value) (T:ByteArray) (lim:Nat) (v:Value) (pre:List (Nat × Nat × Nat)) (V:World):Prop where
 rx:RX w0 W base bo b12 B V
 fr:FrS w0 base bq bo bs bl bt bf ob rb q sl sr T lim V
 k9:Blk V b9 #[v] 34
 row:SRow stC 3 56 V 0 v pre
section
variable {w0 W V V':World} {base bq bo bs bl bt bf b9 b12 B ob:Nat} {rb:List Nat} {q:CQ} {sl sr:Value} {T:ByteArray} {lim:Nat} {v:Value} {pre:List (Nat × Nat × Nat)}
theorem RdS.below (h:RdS w0 W base bq bo bs bl bt bf b9 b12 B ob rb q sl sr T lim v pre V) (k:Below V.heap.size V V'):RdS w0 W base bq bo bs bl bt bf b9 b12 B ob rb q sl sr T lim v pre V':=⟨h.rx.below k,h.fr.below k,h.k9.below k,h.row.below k⟩
theorem RdS.keep {cs:Array Value} (h:RdS w0 W base bq bo bs bl bt bf b9 b12 B ob rb q sl sr T lim v pre V) (hb:bo ≠ b12∧bo ≠ b9) (ho:Blk V bo cs 68) (k:KeptC (fun g t=>¬ (g=bo ∨ (base≤g∧t = 36))) V V') (kf:KeepsFrom 0 V V') (kb:Below w0.heap.size V V'):RdS w0 W base bq bo bs bl bt bf b9 b12 B ob rb q sl sr T lim v pre V' :=
 ⟨h.rx.keep hb.1 k kf kb,h.fr.keep k kb,h.k9.keptC k (fun e=>by rcases e with e | ⟨_,e⟩; exact hb.2 e.symm; exact absurd e (by decide)),h.row.keptC k (fun g hg e=>by
  rcases e with e | ⟨_,e⟩
  ·obtain ⟨_,_,cs',b1⟩:=h.row.own g hg
   subst e
   exact absurd (b1.type_eq ho) (by decide)
  ·exact absurd e (by decide))⟩
theorem RdS.own {β:Type} (hwB:W.heap.size≤B) (hbB:base≤B):OwnFrom B (fun (_:β) V=>RdS w0 W base bq bo bs bl bt bf b9 b12 B ob rb q sl sr T lim v pre V):=fun s V V' row h hg hr=>by
 have hx:=RX.own (β:=β) hwB s V V' row h.rx hg hr
 have hs1:=h.fr.s1
 have hc:=ownFrom_cells (I:=fun (_:Unit) X=>KeptC (fun _ _=>True) V X) (fun _ X X' h k _=>h.trans k) B () V V' row (KeptC.refl _ _) hg hr
 exact ⟨hx,h.fr.keep (hc.mono (fun _ _ _=>trivial)) ((Below.refl w0.heap.size V).grown hg (by omega) (fun k hk=>by have:=(hr k hk).1; omega)),h.k9.keptC hc trivial,h.row.keptC hc (fun _ _=>trivial)⟩
end
theorem wsub_snoc (q:CQ) (i j:Nat) (pre:List (Nat × Nat × Nat)) (ss:List (List (Nat × Nat × Nat))) (l:List (SK q i j)) (x:SK q i j):(ss ++ (l ++ [x]).flatMap (fun (x:SK q i j)=>subW q i j pre x.k))=(ss ++ l.flatMap (fun (x:SK q i j)=>subW q i j pre x.k)) ++ (allW q (nxI x.k i) (nxJ x.k j)).map (fun s=>pre ++ [(x.k,i,j)] ++ s):=by
 rw [List.flatMap_append,List.append_assoc]
 congr 2
 simp [subW]
def FrP (w0 W:World) (base bo:Nat) (T:ByteArray) (lim:Nat) (full:List (List (Nat × Nat × Nat))) (e:Ending) (W':World):Prop :=
 KeptC (fun g t=>¬ (g=bo ∨ (base≤g∧t = 36))) W W'∧KeepsFrom 0 W W'∧Below w0.heap.size W W'∧((e=.returned (.bool true)∧full.length≤lim∧∃ v3 xs',OutQ base bo T full v3 xs' W') ∨ (e=.returned (.bool false)∧lim < full.length))
theorem FrP.get {w0 W:World} {base bo:Nat} {T:ByteArray} {lim:Nat} {full:List (List (Nat × Nat × Nat))} {e:Ending} {W':World} (h:FrP w0 W base bo T lim full e W') :
  KeptC (fun g t=>¬ (g=bo ∨ (base≤g∧t = 36))) W W'∧KeepsFrom 0 W W'∧Below w0.heap.size W W'∧((e=.returned (.bool true)∧full.length≤lim∧∃ v3 xs',OutQ base bo T full v3 xs' W') ∨ (e=.returned (.bool false)∧lim < full.length)):=h
theorem OutQ.own {β:Type} {B base bo:Nat} {T:ByteArray} {ss:List (List (Nat × Nat × Nat))} {v:Value} {xs:List (Option Addr × Nat × Nat)}:OwnFrom B (fun (_:β) V=>OutQ base bo T ss v xs V):=fun s V V' row h hg hr =>
 ownFrom_cells (I:=fun (_:Unit) X=>OutQ base bo T ss v xs X) (fun _ X X' h k _=>h.keptT k) B () V V' row h hg hr
set_option maxRecDepth 100000 in
set_option maxHeartbeats 8000000 in
theorem from_any (q:CQ) (ok:OkQ q) (sl sr:Value) (w0:World) (he:Env w0) (hq:QAt w0 sl sr q) (base bq bo bs bl bt bf ob:Nat) (rb:List Nat) (hrb:rb.length=q.L.length + 1) (T:ByteArray) (lim:Nat) (hlim:lim≤1000) :
  ∀ (d i j:Nat),left q i j=d→i≤q.L.length→j≤q.R.length→∀ (W:World) (v:Value) (pre:List (Nat × Nat × Nat)) (ss:List (List (Nat × Nat × Nat))) (v2:Value) (xs:List (Option Addr × Nat × Nat)),
   FrS w0 base bq bo bs bl bt bf ob rb q sl sr T lim W→SRow stC 3 56 W 0 v pre→pre.length + d≤12→OutQ base bo T ss v2 xs W→ss.length≤lim →
   Calls Tryz.prog 67 #[v,.int .i64 i,.int .i64 j,.pointer (some ⟨bq,0,none⟩),.pointer (some ⟨bo,0,none⟩),.pointer (some ⟨bs,0,none⟩),.pointer (some ⟨bl,0,none⟩),.pointer (some ⟨bt,0,none⟩),.pointer (some ⟨bf,0,none⟩)] W (FrP w0 W base bo T lim (ss ++ (allW q i j).map (fun s=>pre ++ s))):=by
 obtain ⟨A1,n1,rfl,_⟩:=hq.l
 obtain ⟨A2,n2,rfl,_⟩:=hq.r
 have hll:=ok.hl
 have hrr:=ok.hr
 have HRB:=Lib.hid hrb
 clear hrb
 intro d
 induction d using Nat.strongRecOn with
 | ind d ih =>
 intro i j hd hi hj W v pre ss v2 xs hF hrow hpl hO hss
 obtain ⟨full,hfull⟩:∃ l,(ss ++ (allW q i j).map (fun s=>pre ++ s))=l:=⟨_,rfl⟩
 have HFULL:=Lib.hid hfull
 rw [hfull]
 clear hfull
 have IH:=Lib.hid ih
 have HE:=Lib.hid he
 have HQ:=Lib.hid hq
 have HD:=Lib.hid (And.intro hd hpl)
 clear ih hd
 have HPL:Hid (pre.length≤5000):=Lib.hid (by omega)
 have HVA0:∃ vA vc,v=.slice vA pre.length vc∧((vA=none∧pre.length=0∧vc=0) ∨ (∃ dd,vA=some ⟨dd,0,none⟩∧0 < pre.length∧pre.length≤vc)):=by
  rcases hrow with ⟨rfl,rfl⟩ | ⟨d,c,r,rfl,h2,h3,h4,h5⟩
  ·exact ⟨none,0,rfl,.inl ⟨rfl,rfl,rfl⟩⟩
  ·exact ⟨_,_,rfl,.inr ⟨d,rfl,List.length_pos_iff.2 h3,h5.le⟩⟩
 obtain ⟨vA,vc,hve,hva⟩:=HVA0
 obtain ⟨oA,oc,hoe⟩:=hO.als.row.len_eval
 obtain ⟨n,hn⟩:∃ n,pre.length=n:=⟨_,rfl⟩
 obtain ⟨no,hno⟩:∃ n,xs.length=n:=⟨_,rfl⟩
 rw [hn] at hve hva
 rw [hno] at hoe
 subst hve hoe
 have HVA:=Lib.hid hva
 have HN:=Lib.hid hn
 have HNO:=Lib.hid hno
 have hs1:=hF.s1
 have hfar:=hF.far
 clear hva hn hno hpl
 refine callsIn_wide (n:=9) |>.1 ?_
 refine callsIn_of_wp_marks Tryz.func67 rfl trivial ?_ rfl
 simp only [Tryz.ntmps67, List.size_toArray,List.length_cons,List.length_nil,Nat.reduceAdd,Nat.reduceSub,Array.replicate_succ,Array.replicate_zero,List.push_toArray,List.append_toArray,List.nil_append,List.cons_append]
 refine wpIn_wide.2 ?_
 go_upto_region 1 with (fail)
 rename_i Kr hKr Kc hKc
 have q1:=below_new W (.cells #[.slice vA n vc] 34)
 have k1:=Blk.fresh W #[.slice vA n vc] 34
 have hz1:(W.alloc (.cells #[.slice vA n vc] 34)).heap.size=W.heap.size + 1:=by simp
 generalize (W.alloc (.cells #[.slice vA n vc] 34))=W1 at *
 have q2:=below_new W1 (.cells #[.bool false] 4)
 have k2:=Blk.fresh W1 #[.bool false] 4
 generalize (W1.alloc (.cells #[.bool false] 4))=W2 at *
 obtain ⟨b9,hb9⟩:∃ b,W.heap.size=b:=⟨_,rfl⟩
 obtain ⟨b12,hb12⟩:∃ b,W.heap.size + 1=b:=⟨_,rfl⟩
 rw [hz1,hb12] at k2
 rw [hb9] at k1
 rw [hb12,hb9]
 have q12:=q1.trans (q2.mono q1.size)
 have k9:=k1.below q2
 have F2:=Lib.hid (hF.below q12)
 have O2:=Lib.hid (hO.below q12)
 have R2:=Lib.hid (hrow.below q12)
 have K9:=Lib.hid k9
 have K12:=Lib.hid k2
 have Q12:=Lib.hid q12
 have HS:Hid ((W.heap.size=b9∧b12=b9 + 1)∧(w0.heap.size≤bq∧w0.heap.size≤bo∧bo < base∧base≤b9)∧b12 < W2.heap.size):=Lib.hid ⟨⟨hb9,by omega⟩,⟨hs1.1,hs1.2.1,hs1.2.2.1,by omega⟩,k2.lt⟩
 have HFAR:=Lib.hid hfar
 have HSS:=Lib.hid hss
 clear q1 q2 k1 k2 hz1 hb9 hb12 q12 k9 hF hO hrow hs1 hfar hss
 have RX2:Hid (∀ B,W.heap.size≤B→RX w0 W base bo b12 B W2):=Lib.hid (fun B hB=>by
  have h:=HS.out
  have q12:=Q12.out
  exact ⟨K12.out,KeptC.below q12,KeepsLow.of (keepsFrom_below q12),q12.mono (by omega),q12.size,by omega⟩)
 have y0:=F2.out.kq.at_ 0 _ rfl
 have y1:=F2.out.kq.at_ 1 _ rfl
 by_cases hend:i=q.L.length∧j=q.R.length
 ·obtain ⟨rfl,rfl⟩:=hend
  have HAW:Hid (full=ss ++ [pre]):=Lib.hid (by rw [← HFULL.out,allW_end]; simp)
  go_upto_region 2 with (fail)
  clear y0 y1
  have CBO:=Lib.hid (O2.out.kb.at_ 0 _ rfl)
  have LBO:=Lib.hid O2.out.kb.lt
  have CB9:=Lib.hid (K9.out.at_ 0 _ rfl)
  have LB9:=Lib.hid K9.out.lt
  have CBS:=Lib.hid (F2.out.ks.at_ 0 _ rfl)
  have LBS:=Lib.hid F2.out.ks.lt
  have CLN:Hid (∀ U,Below W2.heap.size W2 U→Calls Tryz.prog 68 #[.slice vA n vc] U fun e w'=>(∃ v',e=.returned v'∧SRow stC 3 56 w' U.heap.size v' pre)∧Below U.heap.size U w'):=Lib.hid (fun U hU=>cloneS_any _ pre U 0 (R2.out.below hU) HPL.out)
  refine wpIn_wide.1 (wpIn_phaseJ (n:=9) (.inl rfl) 8 6 [28,29,30,31,32,33] (fun L σ U=>Vals [some 28,some 29,none,some 31,none,none] [.slice oA no oc,.slice vA n vc,undef,.string T,undef,undef] L σ∧G2 W2 T pre L σ U) (by kernel_rfl) (by kernel_rfl) (by kernel_rfl) (by kernel_rfl) (by intro hL; obtain ⟨_,_,hL⟩:=hL; unfold FrP at hL; rcases hL.2.2.2 with h | h <;> exact absurd h.1 (by intro h; cases h)) ⟨Vals.start,G2.start (Below.refl _ _).drew⟩ ⟨?_,?_,?_,?_,?_,?_,trivial⟩ ?_)
  ·rintro L a U ho ⟨V,R⟩ hn hd K hK
   refine Wants.free rfl ?_
   have jr:a.tmps[(4:Nat)]?.getD undef=.pointer (some ⟨bo,0,none⟩):=onlyAt_slot ho 4 rfl
   have e0:=(R.bb.cell (p:=⟨bo,0,none⟩) LBO.out).trans CBO.out
   have RR:=Lib.hid R
   have VS:=Lib.hid V
   clear R V hd
   go_simp
   exact hK.out _ _ ⟨VS.out.set 0 _ _ rfl rfl rfl,RR.out.pure 0 28 _ (by decide) (by decide)⟩
  ·rintro L a U ho ⟨V,R⟩ hn hd K hK
   refine Wants.free rfl ?_
   have jr:a.tmps[(9:Nat)]?.getD undef=.pointer (some ⟨b9,0,none⟩):=onlyAt_slot ho 9 rfl
   have e0:=(R.bb.cell (p:=⟨b9,0,none⟩) LB9.out).trans CB9.out
   have RR:=Lib.hid R
   have VS:=Lib.hid V
   clear R V hd
   go_simp
   exact hK.out _ _ ⟨VS.out.set 1 _ _ rfl rfl rfl,RR.out.pure 1 29 _ (by decide) (by decide)⟩
  ·rintro L a U ho ⟨V,R⟩ hn hd K hK
   have jh1:=hd.get 1 rfl
   refine Wants.free rfl ?_
   have jr1:=V.read 1 rfl rfl jh1
   have HCL:=Lib.hid (CLN.out U R.bb)
   have RR:=Lib.hid R
   have VS:=Lib.hid V
   clear R V hd
   go_simp
   refine HCL.out.mono ?_
   rintro e U' ⟨⟨v',rfl,hs⟩,qb⟩
   obtain ⟨a5,c5,e5⟩:=hs.len_eval
   subst e5
   exact hK.out _ _ ⟨vals_apart VS.out 2 30 _ rfl rfl,RR.out.mkC hn qb (hs.mono (Nat.zero_le _))⟩
  ·rintro L a U ho ⟨V,R⟩ hn hd K hK
   refine Wants.free rfl ?_
   have jr:a.tmps[(5:Nat)]?.getD undef=.pointer (some ⟨bs,0,none⟩):=onlyAt_slot ho 5 rfl
   have e0:=(R.bb.cell (p:=⟨bs,0,none⟩) LBS.out).trans CBS.out
   have RR:=Lib.hid R
   have VS:=Lib.hid V
   clear R V hd
   go_simp
   exact hK.out _ _ ⟨VS.out.set 3 _ _ rfl rfl rfl,RR.out.pure 3 31 _ (by decide) (by decide)⟩
  ·rintro L a U ho ⟨V,R⟩ hn hd K hK
   have jh2:=hd.get 2 rfl
   have jh3:=hd.get 3 rfl
   refine Wants.free rfl ?_
   have jr3:=V.read 3 rfl rfl jh3
   obtain ⟨a5,c5,hg,_⟩:=R.c jh2
   have jr30:a.tmps[(30:Nat)]?.getD undef=.slice a5 pre.length c5:=hg
   have RR0:=R.mkD jh2
   rw [hg] at RR0
   have RR:=Lib.hid RR0
   have VS:=Lib.hid V
   clear R V hd hg RR0
   go_simp
   exact hK.out _ _ ⟨vals_apart VS.out 4 32 _ rfl rfl,RR.out⟩
  ·rintro L a U ho ⟨V,R⟩ hn hd K hK
   have jh4:=hd.get 4 rfl
   refine Wants.free rfl ?_
   obtain ⟨a5,c5,hg,_⟩:=R.c (R.d jh4).1
   have hd2:=(R.d jh4).2
   rw [hg] at hd2
   have jr32:a.tmps[(32:Nat)]?.getD undef=.agg #[.slice a5 pre.length c5,.string T]:=hd2
   have RR0:=R.mkF (R.d jh4).1
   rw [hg] at RR0
   have RR:=Lib.hid RR0
   have VS:=Lib.hid V
   clear R V hd hg RR0 hd2
   go_simp
   exact hK.out _ _ ⟨vals_apart VS.out 5 33 _ rfl rfl,RR.out⟩
  rintro L σ U9 ⟨V,R⟩ hL
  have jf0:=V 0 _ _ rfl rfl (hL 0 (by decide))
  have jf1:=V 1 _ _ rfl rfl (hL 1 (by decide))
  have jf3:=V 3 _ _ rfl rfl (hL 3 (by decide))
  obtain ⟨a5,c5,jf2,row5⟩:=R.c (hL 2 (by decide))
  have jf4:=(R.d (hL 4 (by decide))).2
  obtain ⟨g5,jf5,kg5⟩:=(R.f (hL 5 (by decide))).2
  rw [jf2] at row5 jf4 kg5
  rw [show List.map σ [28,29,30,31,32,33]=[σ 28,σ 29,σ 30,σ 31,σ 32,σ 33] from rfl,jf0,jf1,jf2,jf3,jf4,jf5]
  have B9:=Lib.hid R.bb
  clear V R hL jf0 jf1 jf2 jf3 jf4 jf5
  clear σ L
  have O9:=Lib.hid (O2.out.below B9.out)
  have F9:=Lib.hid (F2.out.below B9.out)
  have RX9:=Lib.hid ((RX2.out W.heap.size (Nat.le_refl _)).below B9.out)
  rw [HN.out] at row5 kg5
  have ROW5:=Lib.hid row5
  have KG5:=Lib.hid kg5
  have HB9:Hid (base≤U9.heap.size):=Lib.hid F9.out.s1.2.2.2
  clear row5 kg5 O2 F2 R2 K9 K12 CBO LBO CB9 LB9 CBS LBS CLN RX2
  have HXL:Hid (xs.length≤5000):=Lib.hid (by have h1:=O9.out.als.len; have h2:=HSS.out; omega)
  rw [HN.out]
  simp only [putAll,Act.put,List.setIfInBounds_toArray,List.set_cons_succ,List.set_cons_zero]
  simp only [List.drop_succ_cons,List.drop_zero]
  gi_wp2_with (first
   | (gi_at_builtin; refine listIn_of (.inl rfl) rfl (by intro c hc; cases hc) ?_; refine app_row3 ElA (alC_len T) (alC_one T) rfl (.tmp 28) (.tmp 33) rfl U9 base HB9.out _ xs O9.out.als.row rfl HXL.out (a5,n,c5) g5 rfl (fun jj y hy=>KG5.out.at_ jj y (by simpa [alC] using hy)) ?_; intro v6 X1 r1 r2 r3 r4; refine ⟨rfl,?_⟩; obtain ⟨oA2,oc2,hv6⟩:=r1.len_eval; rw [show (xs ++ [(a5,n,c5)]).length=no + 1 from by rw [List.length_append,HNO.out]; rfl] at hv6; subst hv6; have hst:=O9.out.step (w0:=w0) (s:=pre) HB9.out HS.out.2.1.2.1 HS.out.2.1.2.2.1 ROW5.out r1 r2 r3 r4; have c0:=hst.2.2.2.2.1; have f0:=hst.2.2.2.2.2; have F10:=F9.out.keep hst.2.2.1 hst.2.2.2.1; have e1:=hst.1.kb.at_ 0 _ rfl; have e2:=F10.kl.at_ 0 _ rfl; have RX10:=RX9.out.keep (by have:=HS.out; omega) hst.2.2.1 hst.2.1 hst.2.2.2.1; have e3:=RX10.k12.at_ 0 _ rfl; have f3:=RX10.k12.free 0; have HSTx:=Lib.hid hst; have RXX:=Lib.hid RX10; clear hst r1 r2 r3 r4 F10 RX10)
   | fail "arm")
  have O10:=Lib.hid HSTx.out.1
  have K10:=Lib.hid (HSTx.out.2.1)
  clear HSTx O9 F9 RX9 ROW5 KG5 HB9 HXL c0 f0
  generalize (X1.setCell ⟨bo,0,none⟩ (.slice oA2 (no + 1) oc2))=X2 at *
  have k12x:=RXX.out.k12
  by_cases hlm:no + 1≤lim
  ·have g1:((no:Nat):Int) + 1≤((lim:Nat):Int):=by omega
   have g2:no < lim:=by omega
   have g3:decide (((no:Nat):Int) + 1≤((lim:Nat):Int))=true:=decide_eq_true g1
   go_wp2
   have O10l:no=ss.length:=by have h1:=O10.out.als.len; rw [List.length_append,HNO.out] at h1; simp at h1; exact h1
   refine leaves_marks (base:=W.heap.size) [] _ trivial (fun w' hm=>?_)
   have kc:KeptC (fun _ _=>True) _ w':=fun g cs t fz _ e=>hm.cells g cs t fz e
   have hx:=rx_leave (RXX.out.set (by have:=HS.out; omega) true) (by have:=HS.out; omega) (Nat.le_refl _) hm
   have e9:=hx.1.at_ 0 _ rfl
   exact ⟨.bool true,(by simp [results,Tryz.results67, go_sem,e9]),hx.2.1,hx.2.2.1,hx.2.2.2,.inl ⟨rfl,by rw [HAW.out,List.length_append,← O10l]; simp; omega,_,_,by rw [HAW.out]; exact (O10.out.set12 k12x (.bool true)).keptT kc⟩⟩
  ·have g1:¬ ((no:Nat):Int) + 1≤((lim:Nat):Int):=by omega
   have g2:¬ no < lim:=by omega
   have g3:decide (((no:Nat):Int) + 1≤((lim:Nat):Int))=false:=decide_eq_false g1
   have g4:¬ no + 1≤lim:=by omega
   go_wp2
   have O10l:no=ss.length:=by have h1:=O10.out.als.len; rw [List.length_append,HNO.out] at h1; simp at h1; exact h1
   refine leaves_marks (base:=W.heap.size) [] _ trivial (fun w' hm=>?_)
   have hx:=rx_leave (RXX.out.set (by have:=HS.out; omega) false) (by have:=HS.out; omega) (Nat.le_refl _) hm
   have e9:=hx.1.at_ 0 _ rfl
   exact ⟨.bool false,(by simp [results,Tryz.results67, go_sem,e9]),hx.2.1,hx.2.2.1,hx.2.2.2,.inr ⟨rfl,by rw [HAW.out,List.length_append,← O10l]; simp; omega⟩⟩
 ·have KEY:∀ (A:Act),(∃ fv:Nat→Value,A={ tmps:=(.slice vA n vc :: .int .i64 i :: .int .i64 j :: .pointer (some ⟨bq,0,none⟩) :: .pointer (some ⟨bo,0,none⟩) :: .pointer (some ⟨bs,0,none⟩) :: .pointer (some ⟨bl,0,none⟩) :: .pointer (some ⟨bt,0,none⟩) :: .pointer (some ⟨bf,0,none⟩) :: .pointer (some ⟨b9,0,none⟩) :: fv 10 :: fv 11 :: .pointer (some ⟨b12,0,none⟩) :: fv 13 :: fv 14 :: fv 15 :: fv 16 :: fv 17 :: fv 18 :: fv 19 :: fv 20 :: fv 21 :: fv 22 :: fv 23 :: fv 24 :: fv 25 :: fv 26 :: fv 27 :: fv 28 :: fv 29 :: fv 30 :: fv 31 :: fv 32 :: fv 33 :: fv 34 :: fv 35 :: fv 36 :: fv 37 :: fv 38 :: fv 39 :: fv 40 :: fv 41 :: fv 42 :: fv 43 :: fv 44 :: fv 45 :: fv 46 :: fv 47 :: fv 48 :: fv 49 :: fv 50 :: fv 51 :: fv 52 :: fv 53 :: fv 54 :: fv 55 :: fv 56 :: fv 57 :: fv 58 :: fv 59 :: fv 60 :: fv 61 :: fv 62 :: fv 63 :: []).toArray,defers:=[] })→Kr A W2:=by
   clear hKc y0 y1
   rintro A ⟨fv,rfl⟩
   refine hKr _ _ ?_
   clear hKr
   have a0:=F2.out.kq.at_ 0 _ rfl
   have a1:=F2.out.kq.at_ 1 _ rfl
   have a2:=F2.out.kq.at_ 2 _ rfl
   have a3:=F2.out.kq.at_ 3 _ rfl
   have a4:=F2.out.kq.at_ 4 _ rfl
   have a5:=F2.out.kq.at_ 5 _ rfl
   have t0:=F2.out.kt.at_ 0 _ rfl
   go_wp2_with (first
    | (go_at_call 50; refine (good_make q _ _ _ _ _ i j _).mono ?_; rintro e W3 ⟨rfl,qb,hsz3,k1,k2,k3,k4⟩)
    | fail "arm")
   clear a0 a1 a2 a3 a4 a5 t0
   have F3:=F2.out.below qb
   have O3:=O2.out.below qb
   have R3:=R2.out.below qb
   have K93:=K9.out.below qb
   have hs:=HS.out
   have hq12:=Q12.out.size
   obtain ⟨bw,hbw⟩:∃ b,W2.heap.size=b:=⟨_,rfl⟩
   rw [hbw] at k1 k2 k3 k4 hsz3 hs hq12
   simp only [hbw]
   have hStG:StG w0 bw (bw + 1) (bw + 2) (bw + 3) ob rb q (.slice A1 q.L.length n1) (.slice A2 q.R.length n2) i j W3:=⟨KeptC.of_bb F3.bb,by omega,k1,k2,k3,k4,F3.tab⟩
   have hRd:RdS w0 W base bq bo bs bl bt bf b9 b12 W3.heap.size ob rb q (.slice A1 q.L.length n1) (.slice A2 q.R.length n2) T lim (.slice vA n vc) pre W3:=⟨(RX2.out _ (by omega)).below qb,F3,K93,R3⟩
   have hM:FarM w0 (fun g t=>g=bo ∨ (base≤g∧t = 36)) ([bw,bw + 1,bw + 2,bw + 3,ob] ++ rb) [32, 99, 3, 71, 28]:=by
    refine ⟨fun g t h=>by omega,fun g hg t ht h=>?_⟩
    have h2:t ≠ 36 := by
     simp only [List.mem_cons,List.not_mem_nil,or_false] at ht
     rcases ht with rfl | rfl | rfl | rfl | rfl <;> decide
    have h1:g=bo:=by
     rcases h with h | ⟨_,h⟩
     ·exact h
     ·exact absurd h h2
    rcases List.mem_append.1 hg with hg | hg
    ·have ho:=(HFAR.out ob (List.mem_append_left _ (by simp))).1
     simp only [List.mem_cons,List.not_mem_nil,or_false] at hg
     omega
    ·exact (HFAR.out g (List.mem_append_right _ hg)).1 h1
   have hMn:∀ g t,W3.heap.size≤g→t ∈ ([32, 3, 138]:List TypeId)→¬ (g=bo ∨ (base≤g∧t = 36)):=fun g t hg ht h=>by
    have h2:t ≠ 36 := by
     simp only [List.mem_cons,List.not_mem_nil,or_false] at ht
     rcases ht with rfl | rfl | rfl <;> decide
    rcases h with h | ⟨_,h⟩
    ·omega
    ·exact h2 h
   have hWB:W.heap.size≤W3.heap.size:=by omega
   have hbB:base≤W3.heap.size:=by omega
   have hb12:W.heap.size≤b12∧bo ≠ b12∧bo ≠ b9:=by omega
   have HB12:=Lib.hid hb12
   clear hb12 hs hq12
   have hI:OwnFrom W3.heap.size (fun (l:List (SK q i j)) V=>∃ v3 xs',OutQ base bo T (ss ++ l.flatMap (fun (x:SK q i j)=>subW q i j pre x.k)) v3 xs' V∧(ss ++ l.flatMap (fun (x:SK q i j)=>subW q i j pre x.k)).length≤lim∧RdS w0 W base bq bo bs bl bt bf b9 b12 W3.heap.size ob rb q (.slice A1 q.L.length n1) (.slice A2 q.R.length n2) T lim (.slice vA n vc) pre V):=fun s A B row h hg hr=>by
    obtain ⟨v3,xs',h1,h2,h3⟩:=h
    exact ⟨v3,xs',OutQ.own () A B row h1 hg hr,h2,RdS.own hWB hbB () A B row h3 hg hr⟩
   have hIx:∀ c:Code,OwnFrom W3.heap.size (fun (l:List (SK q i j)) V=>c=.ret∧lim < (ss ++ l.flatMap (fun (x:SK q i j)=>subW q i j pre x.k)).length∧RX w0 W base bo b12 W3.heap.size V):=fun c s A B row h hg hr=>⟨h.1,h.2.1,RX.own hWB () A B row h.2.2 hg hr⟩
   refine wide_loop (n:=9) (gf := 79) (lb:=#[.pointer (some ⟨bw,0,none⟩),.pointer (some ⟨bw + 2,0,none⟩),.pointer (some ⟨bw + 3,0,none⟩),.pointer (some ⟨bw + 1,0,none⟩)]) rfl (enters_of Tryz.func79 (by kernel_rfl) rfl)
    (good_stops (9 - 1) q ok _ _ i j hi hj w0 HE.out HQ.out bw (bw + 1) (bw + 2) (bw + 3) ob rb HRB.out (fun a b ha hb=>by have:=rst_bdQ q ok a b ha hb; omega) _ hM W3 hMn hStG) (fun h k=>KeptC.trans h k) (fun V o o' h ho=>KeptC.put _ h ho) (fun _=>rfl)
    (fun l V=>∃ v3 xs',OutQ base bo T (ss ++ l.flatMap (fun (x:SK q i j)=>subW q i j pre x.k)) v3 xs' V∧(ss ++ l.flatMap (fun (x:SK q i j)=>subW q i j pre x.k)).length≤lim∧RdS w0 W base bq bo bs bl bt bf b9 b12 W3.heap.size ob rb q (.slice A1 q.L.length n1) (.slice A2 q.R.length n2) T lim (.slice vA n vc) pre V)
    (fun c l V=>c=.ret∧lim < (ss ++ l.flatMap (fun (x:SK q i j)=>subW q i j pre x.k)).length∧RX w0 W base bo b12 W3.heap.size V)
    hI hIx ⟨_,_,by simpa using O3,by simpa using HSS.out,hRd⟩
    (fun l x a' V=>∃ (b13:Nat) (v3:Value) (xs':List (Option Addr × Nat × Nat)),OutQ base bo T (ss ++ l.flatMap (fun (x:SK q i j)=>subW q i j pre x.k)) v3 xs' V∧(ss ++ l.flatMap (fun (x:SK q i j)=>subW q i j pre x.k)).length≤lim∧RdS w0 W base bq bo bs bl bt bf b9 b12 W3.heap.size ob rb q (.slice A1 q.L.length n1) (.slice A2 q.R.length n2) T lim (.slice vA n vc) pre V∧Blk V b13 #[.int .i64 x.k,.int .i64 i,.int .i64 j] 56 ∧ ∃ fv:Nat→Value,a'={ tmps:=(.slice vA n vc :: .int .i64 i :: .int .i64 j :: .pointer (some ⟨bq,0,none⟩) :: .pointer (some ⟨bo,0,none⟩) :: .pointer (some ⟨bs,0,none⟩) :: .pointer (some ⟨bl,0,none⟩) :: .pointer (some ⟨bt,0,none⟩) :: .pointer (some ⟨bf,0,none⟩) :: .pointer (some ⟨b9,0,none⟩) :: fv 10 :: fv 11 :: .pointer (some ⟨b12,0,none⟩) :: .pointer (some ⟨b13,0,none⟩) :: fv 14 :: fv 15 :: fv 16 :: fv 17 :: fv 18 :: fv 19 :: fv 20 :: fv 21 :: fv 22 :: fv 23 :: fv 24 :: fv 25 :: fv 26 :: fv 27 :: fv 28 :: fv 29 :: fv 30 :: fv 31 :: fv 32 :: fv 33 :: fv 34 :: fv 35 :: fv 36 :: fv 37 :: fv 38 :: fv 39 :: fv 40 :: fv 41 :: fv 42 :: fv 43 :: fv 44 :: fv 45 :: fv 46 :: fv 47 :: fv 48 :: fv 49 :: fv 50 :: fv 51 :: fv 52 :: fv 53 :: fv 54 :: fv 55 :: fv 56 :: fv 57 :: fv 58 :: fv 59 :: fv 60 :: fv 61 :: fv 62 :: fv 63 :: []).toArray,defers:=[] })
    (fun l x a' s A B row h hg hr=>by
     obtain ⟨b13,v3,xs',h1,h2,h3,h4,h5⟩:=h
     exact ⟨b13,v3,xs',OutQ.own () A B row h1 hg hr,h2,RdS.own hWB hbB () A B row h3 hg hr,ownFrom_cells (I:=fun (_:Unit) V=>Blk V b13 #[.int .i64 x.k,.int .i64 i,.int .i64 j] 56) (fun _ V V' h k _=>h.keptC k trivial) _ () A B row h4 hg hr,h5⟩)
    ?assign ?body ?done ?stop
   case assign =>
    rintro l2 l x V K ⟨v3,xs',h1,h2,h3⟩ hK
    have qv:=below_new V (.cells #[.int .i64 x.k,.int .i64 i,.int .i64 j] 56)
    have kv:=Blk.fresh V #[.int .i64 x.k,.int .i64 i,.int .i64 j] 56
    dsimp only [encG]
    gi_wp2
    exact hK _ _ (keepsFrom_below qv) (KeptC.below qv) ⟨V.heap.size,v3,xs',h1.below qv,h2,h3.below qv,kv,ex_frame (by kernel_rfl)⟩
   case body =>
    rintro l2 l x a' V ⟨b13,v3,xs',hO,hle,hR,hb,fv,rfl⟩ hlen
    have d0:=hb.at_ 0 _ rfl
    have d1:=hb.at_ 1 _ rfl
    have d2:=hb.at_ 2 _ rfl
    have HNX:Hid (∀ w,Ret Tryz.prog w 51 #[.agg #[.int .i64 x.k,.int .i64 i,.int .i64 j]] (.tuple #[.int .i64 (nxI x.k i:Nat),.int .i64 (nxJ x.k j:Nat)])):=Lib.hid (fun w=>by
     have h:=cnext_any x.k i j (by omega) (by omega) w
     rw [nzI_nat,nzJ_nat x.k j x.h1] at h
     exact h)
    have HO:=Lib.hid hO
    have HLE:=Lib.hid hle
    have HR:=Lib.hid hR
    have HB:=Lib.hid hb
    clear hO hle hR hb hI hIx hM hMn hStG hRd k1 k2 k3 k4 F3 O3 R3 K93 qb hsz3
    gi_wp2_with (first
     | ((first | refine ⟨trivial,fun h=>(by cases h),?_⟩ | refine ⟨trivial,?_⟩); with_reducible refine (CallsIn.inRound l2 (callsIn_wide.2 (HNX.out _ _ (Below.refl _ _)))).mono ?_; rintro e V1 ⟨rfl,qv⟩)
     | fail "arm")
    clear d0 d1 d2 HNX
    have QV:=Lib.hid qv
    replace HO:=Lib.hid (HO.out.below qv)
    replace HR:=Lib.hid (HR.out.below qv)
    replace HB:=Lib.hid (HB.out.below qv)
    clear qv
    have CBF:=Lib.hid (HR.out.fr.kf.at_ 0 _ rfl)
    have LBF:=Lib.hid HR.out.fr.kf.lt
    have CB9:=Lib.hid (HR.out.k9.at_ 0 _ rfl)
    have LB9:=Lib.hid HR.out.k9.lt
    have D0:=Lib.hid (HB.out.at_ 0 _ rfl)
    have D1:=Lib.hid (HB.out.at_ 1 _ rfl)
    have D2:=Lib.hid (HB.out.at_ 2 _ rfl)
    have L13:=Lib.hid HB.out.lt
    have HRW:=Lib.hid HR.out.row
    refine wpIn_phaseJ (.inr ⟨l2,rfl⟩) 14 12 [50,51,52,53,54,55,56,57,58,59,60,61] (fun L σ U=>Vals [some 50,some 51,some 52,some 53,some 54,some 55,some 56,some 57,none,none,some 60,some 61] [.func (.func 67) #[] #[.pointer (some ⟨bq,0,none⟩),.pointer (some ⟨bo,0,none⟩),.pointer (some ⟨bs,0,none⟩),.pointer (some ⟨bl,0,none⟩),.pointer (some ⟨bt,0,none⟩),.pointer (some ⟨bf,0,none⟩)],.slice vA n vc,.slice vA n vc,.int .i64 n,.slice vA n vc,.int .i64 n,.slice vA n n,.agg #[.int .i64 x.k,.int .i64 i,.int .i64 j],undef,undef,.int .i64 (nxI x.k i:Nat),.int .i64 (nxJ x.k j:Nat)] L σ∧G7 V1 (x.k,i,j) pre L σ U) (by kernel_rfl) (by kernel_rfl) (by kernel_rfl) (by kernel_rfl) (by intro hL; obtain ⟨_,_,hL⟩:=hL; first | exact hL.elim | exact absurd hL.1 (by intro h; cases h)) ⟨Vals.start,G7.start (Below.refl _ _).drew⟩ ⟨?_,?_,?_,?_,?_,?_,?_,?_,?_,?_,?_,?_,trivial⟩ ?_
    ·rintro L a U ho ⟨V,R⟩ hn hd K hK
     refine Wants.free rfl ?_
     have jr:a.tmps[(8:Nat)]?.getD undef=.pointer (some ⟨bf,0,none⟩):=onlyAt_slot ho 8 rfl
     have e0:=(R.bb.cell (p:=⟨bf,0,none⟩) LBF.out).trans CBF.out
     have RR:=Lib.hid R
     have VS:=Lib.hid V
     clear R V hd
     go_simp
     exact hK.out _ _ ⟨VS.out.set 0 _ _ rfl rfl rfl,RR.out.pure 0 50 _ (by decide) (by decide)⟩
    ·rintro L a U ho ⟨V,R⟩ hn hd K hK
     refine Wants.free rfl ?_
     have jr:a.tmps[(9:Nat)]?.getD undef=.pointer (some ⟨b9,0,none⟩):=onlyAt_slot ho 9 rfl
     have e0:=(R.bb.cell (p:=⟨b9,0,none⟩) LB9.out).trans CB9.out
     have RR:=Lib.hid R
     have VS:=Lib.hid V
     clear R V hd
     go_simp
     exact hK.out _ _ ⟨VS.out.set 1 _ _ rfl rfl rfl,RR.out.pure 1 51 _ (by decide) (by decide)⟩
    ·rintro L a U ho ⟨V,R⟩ hn hd K hK
     refine Wants.free rfl ?_
     have jr:a.tmps[(9:Nat)]?.getD undef=.pointer (some ⟨b9,0,none⟩):=onlyAt_slot ho 9 rfl
     have e0:=(R.bb.cell (p:=⟨b9,0,none⟩) LB9.out).trans CB9.out
     have RR:=Lib.hid R
     have VS:=Lib.hid V
     clear R V hd
     go_simp
     exact hK.out _ _ ⟨VS.out.set 2 _ _ rfl rfl rfl,RR.out.pure 2 52 _ (by decide) (by decide)⟩
    ·rintro L a U ho ⟨V,R⟩ hn hd K hK
     have jh2:=hd.get 2 rfl
     refine Wants.free rfl ?_
     have jr2:=V.read 2 rfl rfl jh2
     have RR:=Lib.hid R
     have VS:=Lib.hid V
     clear R V hd
     go_simp
     exact hK.out _ _ ⟨VS.out.set 3 _ _ rfl rfl rfl,RR.out.pure 3 53 _ (by decide) (by decide)⟩
    ·rintro L a U ho ⟨V,R⟩ hn hd K hK
     refine Wants.free rfl ?_
     have jr:a.tmps[(9:Nat)]?.getD undef=.pointer (some ⟨b9,0,none⟩):=onlyAt_slot ho 9 rfl
     have e0:=(R.bb.cell (p:=⟨b9,0,none⟩) LB9.out).trans CB9.out
     have RR:=Lib.hid R
     have VS:=Lib.hid V
     clear R V hd
     go_simp
     exact hK.out _ _ ⟨VS.out.set 4 _ _ rfl rfl rfl,RR.out.pure 4 54 _ (by decide) (by decide)⟩
    ·rintro L a U ho ⟨V,R⟩ hn hd K hK
     have jh4:=hd.get 4 rfl
     refine Wants.free rfl ?_
     have jr4:=V.read 4 rfl rfl jh4
     have RR:=Lib.hid R
     have VS:=Lib.hid V
     clear R V hd
     go_simp
     exact hK.out _ _ ⟨VS.out.set 5 _ _ rfl rfl rfl,RR.out.pure 5 55 _ (by decide) (by decide)⟩
    ·rintro L a U ho ⟨V,R⟩ hn hd K hK
     have jh1:=hd.get 1 rfl
     have jh3:=hd.get 3 rfl
     have jh5:=hd.get 5 rfl
     refine Wants.free rfl ?_
     have jr1:=V.read 1 rfl rfl jh1
     have jr3:=V.read 3 rfl rfl jh3
     have jr5:=V.read 5 rfl rfl jh5
     have RR:=Lib.hid R
     have VS:=Lib.hid V
     clear R V hd
     have hK9:Hid (∀ u,u=Value.slice vA n n→K (a.put (some 56) u) U):=Lib.hid (fun u hu=>by
      subst hu
      exact hK.out _ _ ⟨VS.out.set 6 _ _ rfl rfl rfl,RR.out.pure 6 56 _ (by decide) (by decide)⟩)
     clear hK VS RR
     rcases HVA.out with ⟨e1,e2,e3⟩ | ⟨dd,e1,e2,e3⟩
     ·subst e1 e2 e3
      go_simp
      exact hK9.out _ rfl
     ·subst e1
      have e4:((n:Nat):Int)≤((vc:Nat):Int):=by omega
      go_simp
      exact hK9.out _ rfl
    ·rintro L a U ho ⟨V,R⟩ hn hd K hK
     refine Wants.free rfl ?_
     have jr:a.tmps[(13:Nat)]?.getD undef=.pointer (some ⟨b13,0,none⟩):=onlyAt_slot ho 13 rfl
     have e0:=(R.bb.cell (p:=⟨b13,0,none⟩) L13.out).trans D0.out
     have e1:=(R.bb.cell (p:=⟨b13,1,none⟩) L13.out).trans D1.out
     have e2:=(R.bb.cell (p:=⟨b13,2,none⟩) L13.out).trans D2.out
     have RR:=Lib.hid R
     have VS:=Lib.hid V
     clear R V hd
     go_simp
     exact hK.out _ _ ⟨VS.out.set 7 _ _ rfl rfl rfl,RR.out.pure 7 57 _ (by decide) (by decide)⟩
    ·rintro L a U ho ⟨V,R⟩ hn hd K hK
     have jh7:=hd.get 7 rfl
     refine Wants.free rfl ?_
     have jr7:=V.read 7 rfl rfl jh7
     have RR:=Lib.hid R.mkE
     have VS:=Lib.hid V
     clear R V hd
     go_simp
     exact hK.out _ _ ⟨vals_apart VS.out 8 58 _ rfl rfl,RR.out⟩
    ·rintro L a U ho ⟨V,R⟩ hn hd K hK
     have jh6:=hd.get 6 rfl
     have jh8:=hd.get 8 rfl
     refine Wants.free rfl ?_
     have jr6:=V.read 6 rfl rfl jh6
     obtain ⟨g8,hg8,kg8⟩:=R.e jh8
     have hx58:a.eval (.tmp 58)=.slice (some ⟨g8,0,none⟩) 1 1:=(eval_slot a 58).trans hg8
     have hx56:a.eval (.tmp 56)=.slice vA n n:=(eval_slot a 56).trans jr6
     refine app_grow ElT stC_len stC_one (.tmp 56) (.tmp 58) rfl U 0 vA n vc pre (HRW.out.below R.bb) hx56 HPL.out (x.k,i,j) g8 hx58 (fun jj y hy=>kg8.at_ jj y (by simpa using hy)) ?_
     intro v' X1 r1 r2
     exact hK.out _ _ ⟨vals_apart V 9 59 _ rfl rfl,R.mkF r2 (r1.mono (Nat.zero_le _))⟩
    ·rintro L a U ho ⟨V,R⟩ hn hd K hK
     refine Wants.free rfl ?_
     have jr:a.tmps[(14:Nat)]?.getD undef=.int .i64 (nxI x.k i:Nat):=onlyAt_slot ho 14 rfl
     have RR:=Lib.hid R
     have VS:=Lib.hid V
     clear R V hd
     go_simp
     exact hK.out _ _ ⟨VS.out.set 10 _ _ rfl rfl rfl,RR.out.pure 10 60 _ (by decide) (by decide)⟩
    ·rintro L a U ho ⟨V,R⟩ hn hd K hK
     refine Wants.free rfl ?_
     have jr:a.tmps[(15:Nat)]?.getD undef=.int .i64 (nxJ x.k j:Nat):=onlyAt_slot ho 15 rfl
     have RR:=Lib.hid R
     have VS:=Lib.hid V
     clear R V hd
     go_simp
     exact hK.out _ _ ⟨VS.out.set 11 _ _ rfl rfl rfl,RR.out.pure 11 61 _ (by decide) (by decide)⟩
    rintro L σ U9 ⟨V,R⟩ hL
    have jf0:=V 0 _ _ rfl rfl (hL 0 (by decide))
    have jf1:=V 1 _ _ rfl rfl (hL 1 (by decide))
    have jf2:=V 2 _ _ rfl rfl (hL 2 (by decide))
    have jf3:=V 3 _ _ rfl rfl (hL 3 (by decide))
    have jf4:=V 4 _ _ rfl rfl (hL 4 (by decide))
    have jf5:=V 5 _ _ rfl rfl (hL 5 (by decide))
    have jf6:=V 6 _ _ rfl rfl (hL 6 (by decide))
    have jf7:=V 7 _ _ rfl rfl (hL 7 (by decide))
    have jf10:=V 10 _ _ rfl rfl (hL 10 (by decide))
    have jf11:=V 11 _ _ rfl rfl (hL 11 (by decide))
    have row9:=R.f (hL 9 (by decide))
    obtain ⟨sA,sc,jf9⟩:=row9.len_eval
    rw [jf9] at row9
    rw [show List.map σ [50,51,52,53,54,55,56,57,58,59,60,61]=[σ 50,σ 51,σ 52,σ 53,σ 54,σ 55,σ 56,σ 57,σ 58,σ 59,σ 60,σ 61] from rfl,jf0,jf1,jf2,jf3,jf4,jf5,jf6,jf7,jf9,jf10,jf11]
    have B9:=Lib.hid R.bb
    clear V R hL jf0 jf1 jf2 jf3 jf4 jf5 jf6 jf7 jf9 jf10 jf11
    generalize σ 58=v58
    clear σ L
    obtain ⟨m9,hm9⟩:∃ m,(pre ++ [(x.k,i,j)]).length=m:=⟨_,rfl⟩
    rw [hm9] at row9
    rw [hm9]
    have hm9':m9=pre.length + 1:=by rw [← hm9]; simp
    have hks:=x.h2
    have hxk:=kinds_of x.h1
    have hlt:=left_nx hxk hks
    have hd:=HD.out
    have HIH:=Lib.hid (IH.out (left q (nxI x.k i) (nxJ x.k j)) (by omega) (nxI x.k i) (nxJ x.k j) rfl hks.1 hks.2.1 U9 (.slice sA m9 sc) (pre ++ [(x.k,i,j)]) (ss ++ l.flatMap (fun (x:SK q i j)=>subW q i j pre x.k)) v3 xs' (HR.out.fr.below B9.out) row9 (by rw [hm9]; omega) (HO.out.below B9.out) HLE.out)
    have HR9:=Lib.hid (HR.out.below B9.out)
    have HO9:=Lib.hid (HO.out.below B9.out)
    have QQ:=Lib.hid (QV.out.trans (B9.out.mono QV.out.size))
    have HWS:=Lib.hid (wsub_snoc q i j pre ss l x)
    clear CBF LBF CB9 LB9 D0 D1 D2 L13 HRW hm9 hm9' hks hxk hlt hd row9 HO HR HB QV
    simp only [putAll,Act.put,List.setIfInBounds_toArray,List.set_cons_succ,List.set_cons_zero]
    simp only [List.drop_succ_cons,List.drop_zero]
    gi_wp2_with (fail)
    (first | refine ⟨trivial,fun h=>(by cases h),?_⟩ | refine ⟨trivial,?_⟩)
    refine (CallsIn.inRound l2 (callsIn_wide.2 HIH.out)).mono ?_
    rintro e W9 hfr
    obtain ⟨kc,kf,kb,(⟨rfl,hle2,v4,xs4,hO4⟩ | ⟨rfl,hgt⟩)⟩:=hfr.get
    ·have hR9:=HR9.out.keep HB12.out.2 HO9.out.kb kc kf kb
     rw [← HWS.out] at hle2 hO4
     have KC:=Lib.hid ((KeptC.below QQ.out).trans kc)
     have KF:=Lib.hid ((keepsFrom_below QQ.out).trans kf)
     clear kc kf kb hfr HIH
     gi_wp2
     exact ⟨KeepsFrom.mono KF.out (Nat.zero_le _),KC.out,v4,xs4,hO4,hle2,hR9⟩
    ·have hR9:=HR9.out.rx.keep HB12.out.2.1 kc kf kb
     rw [← HWS.out] at hgt
     have KF:=Lib.hid ((keepsFrom_below QQ.out).trans kf)
     have e12:=hR9.k12.at_ 0 _ rfl
     have f12:=hR9.k12.free 0
     have HR8:=Lib.hid hR9
     have HGT:=Lib.hid hgt
     clear kc kf kb hfr HIH hR9 hgt
     gi_wp2
     exact ⟨KeepsFrom.mono (KF.out.trans (Wrote.set HR8.out.k12 0 (.bool false)).keeps) (Nat.zero_le _),rfl,HGT.out,HR8.out.setF HB12.out.1⟩
   case done =>
    rintro D ys V hD rfl ⟨v3,xs',hO,hle,hR⟩ hK
    rw [← allW_sub q i j hi hj hend pre,HFULL.out] at hO hle
    have e12:=hR.rx.k12.at_ 0 _ rfl
    have f12:=hR.rx.k12.free 0
    have HR8:=Lib.hid hR
    have HO8:=Lib.hid hO
    have HLE:=Lib.hid hle
    have w1:=Wrote.set hR.rx.k12 0 (.bool true)
    have HK8:=Lib.hid (w1.keeps.same D _ (Nat.zero_le _) hK rfl)
    clear hR hO hle hI hIx hM hMn hStG hRd k1 k2 k3 k4 F3 O3 R3 K93 qb hsz3 w1 hK
    go_wp2
    refine leaves_marks (base:=W.heap.size) _ _ ⟨⟨D,rfl,by omega,HK8.out,fun x hx=>by cases hx⟩,trivial⟩ (fun w' hm=>?_)
    have kc:KeptC (fun _ _=>True) _ w':=fun g cs t fz _ e=>hm.cells g cs t fz e
    have hx:=rx_leave (HR8.out.rx.set HB12.out.1 true) HR8.out.rx.sz.2 hWB hm
    have e9:=hx.1.at_ 0 _ rfl
    exact ⟨.bool true,(by simp [results,Tryz.results67, go_sem,e9]),hx.2.1,hx.2.2.1,hx.2.2.2,.inl ⟨rfl,HLE.out,_,_,(HO8.out.set12 HR8.out.rx.k12 (.bool true)).keptT kc⟩⟩
   case stop =>
    rintro D c l V hD hpre ⟨rfl,hgt,hR⟩ hK
    have hgt2:lim < full.length:=by
     rw [← HFULL.out,allW_sub q i j hi hj hend pre]
     have h:=sub_pre (pre:=pre) hpre
     rw [List.length_append] at hgt ⊢
     omega
    have HR8:=Lib.hid hR
    have HK8:=Lib.hid hK
    clear hR hgt hI hIx hM hMn hStG hRd k1 k2 k3 k4 F3 O3 R3 K93 qb hsz3 hK
    go_wp2
    refine leaves_marks (base:=W.heap.size) _ _ ⟨⟨D,rfl,by omega,HK8.out,fun x hx=>by cases hx⟩,trivial⟩ (fun w' hm=>?_)
    have hx:=rx_leave ⟨HR8.out.k12,HR8.out.kc,HR8.out.kl,HR8.out.bb,HR8.out.sz.1⟩ HR8.out.sz.2 hWB hm
    have e9:=hx.1.at_ 0 _ rfl
    exact ⟨.bool false,(by simp [results,Tryz.results67, go_sem,e9]),hx.2.1,hx.2.2.1,hx.2.2.2,.inr ⟨rfl,hgt2⟩⟩
  clear hKr
  have HKEY:=Lib.hid KEY
  clear KEY
  have HEND:=Lib.hid hend
  by_cases h1:(i:Int)=(q.L.length:Int)
  ·have h2:¬ (j:Int)=(q.R.length:Int):=by have:=HEND.out; omega
   have t1:((i:Int) == (q.L.length:Int))=true:=by simpa using h1
   have t2:((j:Int) == (q.R.length:Int))=false:=by simpa using h2
   clear h1 h2
   go_wp2
   exact HKEY.out _ (ex_frame (by kernel_rfl))
  ·have t1:((i:Int) == (q.L.length:Int))=false:=by simpa using h1
   clear h1
   go_wp2
   exact HKEY.out _ (ex_frame (by kernel_rfl))

end Go.Proofs.YthhkmihjnnfpgaaGreatDoor

/- All: all best alignments, or the first error. -/
namespace Go.Proofs.YthhkmihjnnfpgaaGreatDoor
set_option linter.all false
open Go.RowKit

attribute [local go_sem] Oper.semAt_some

theorem run_store_funcA {P:Program} {w:World} {a:Addr} {m:Mode} (fn:Fn) (first captured:Array Value):(store a (.func fn first captured) m).run P w=stored P w a (.func fn first captured) m:=run_store P w a _ m rfl
attribute [local go_sem] run_store_funcA
theorem AlsQ.mono {base base':Nat} {T:ByteArray} {ss:List (List (Nat × Nat × Nat))} {v:Value} {xs:List (Option Addr × Nat × Nat)} {W:World} (h:AlsQ base T ss v xs W) (hb:base'≤base):AlsQ base' T ss v xs W:=⟨h.row.mono hb,h.len,h.at_⟩
def AllP (q:CQ) (w:World) (lim:Nat) (e:Ending) (w':World):Prop :=
 ((allW q 0 0).length≤lim∧∃ v xs,e=.returned (.tuple #[v,.int .i64 0])∧AlsQ w.heap.size (qT (rst q 0 0)) (allW q 0 0) v xs w') ∨ (lim < (allW q 0 0).length∧e=.returned (.tuple #[.slice none 0 0,.int .i64 4]))
set_option maxRecDepth 100000 in
set_option maxHeartbeats 8000000 in
theorem all_any (q:CQ) (ok:OkQ q) (sl sr:Value) (w:World) (he:Env w) (hq:QAt w sl sr q) (lim:Nat) (hlim:lim≤1000) :
  Calls Tryz.prog 28 #[.agg #[sl,sr,.string (qT (2 * q.ch)),.string (qT (2 * q.mi)),.string (qT (2 * q.ga)),.string (qT (2 * q.re))],.int .i64 (lim:Nat)] w fun e w'=>AllP q w lim e w'∧Below w.heap.size w w':=by
 have hll:=ok.hl
 have hrr:=ok.hr
 have HQ:=Lib.hid hq
 obtain ⟨A1,n1,rfl,_⟩:=hq.l
 obtain ⟨A2,n2,rfl,_⟩:=hq.r
 have HE:=Lib.hid he
 have OK:=Lib.hid ok
 have B:=Lib.hid (Below.refl w.heap.size w)
 clear hq he ok
 go_enter Tryz.func28, Tryz.ntmps28
 go_upto_region 1 with (fail)
 have k1:=Blk.fresh w #[.slice A1 q.L.length n1,.slice A2 q.R.length n2,.string (qT (2 * q.ch)),.string (qT (2 * q.mi)),.string (qT (2 * q.ga)),.string (qT (2 * q.re))] 32
 have q1:=below_new w (.cells #[.slice A1 q.L.length n1,.slice A2 q.R.length n2,.string (qT (2 * q.ch)),.string (qT (2 * q.mi)),.string (qT (2 * q.ga)),.string (qT (2 * q.re))] 32)
 have hz1:(w.alloc (.cells #[.slice A1 q.L.length n1,.slice A2 q.R.length n2,.string (qT (2 * q.ch)),.string (qT (2 * q.mi)),.string (qT (2 * q.ga)),.string (qT (2 * q.re))] 32)).heap.size=w.heap.size + 1:=by simp
 generalize (w.alloc (.cells #[.slice A1 q.L.length n1,.slice A2 q.R.length n2,.string (qT (2 * q.ch)),.string (qT (2 * q.mi)),.string (qT (2 * q.ga)),.string (qT (2 * q.re))] 32))=W1 at *
 have k2:=Blk.fresh W1 #[.int .i64 (lim:Nat)] 3
 have q2:=below_new W1 (.cells #[.int .i64 (lim:Nat)] 3)
 generalize (W1.alloc (.cells #[.int .i64 (lim:Nat)] 3))=W2 at *
 obtain ⟨bq,hbq⟩:∃ b,w.heap.size=b:=⟨_,rfl⟩
 obtain ⟨bl,hbl⟩:∃ b,w.heap.size + 1=b:=⟨_,rfl⟩
 rw [hz1,hbl] at k2
 rw [hbq] at k1
 rw [hbl,hbq]
 have KQ:=Lib.hid (k1.below q2)
 have KL:=Lib.hid k2
 have HS:Hid (w.heap.size=bq∧bl=bq + 1):=Lib.hid (by omega)
 replace B:=Lib.hid (q1.trans (q2.mono q1.size))
 clear k1 k2 q1 q2 hz1 hbq hbl
 have y0:=KQ.out.at_ 0 _ rfl
 have y1:=KQ.out.at_ 1 _ rfl
 have y2:=KQ.out.at_ 2 _ rfl
 have y3:=KQ.out.at_ 3 _ rfl
 have y4:=KQ.out.at_ 4 _ rfl
 have y5:=KQ.out.at_ 5 _ rfl
 go_upto_region 4 with (first
  | (go_at_call 44; with_reducible refine (check_ok q OK.out _ _ W2 (HE.out.below B.out) (HQ.out.below B.out)).mono ?_; rintro e W3 ⟨rfl,q3⟩)
  | fail "arm")
 clear y0 y1 y2 y3 y4 y5
 replace KQ:=Lib.hid (KQ.out.below q3)
 replace KL:=Lib.hid (KL.out.below q3)
 replace B:=Lib.hid (B.out.trans (q3.mono B.out.size))
 clear q3
 have z0:=KL.out.at_ 0 _ rfl
 have g1:decide (((lim:Nat):Int) < 0)=false:=decide_eq_false (by omega)
 have g2:decide (((lim:Nat):Int) > 1000)=false:=decide_eq_false (by omega)
 have g3:¬ 1000 < lim:=by omega
 go_upto_region 6 with (fail)
 clear z0 g1 g2 g3
 have HW3:=Lib.hid B.out.size
 have HBL:=Lib.hid KL.out.lt
 have y0:=KQ.out.at_ 0 _ rfl
 have y1:=KQ.out.at_ 1 _ rfl
 have y2:=KQ.out.at_ 2 _ rfl
 have y3:=KQ.out.at_ 3 _ rfl
 have y4:=KQ.out.at_ 4 _ rfl
 have y5:=KQ.out.at_ 5 _ rfl
 go_upto_region 7 with (first
  | (go_at_call 48; with_reducible refine (rests_any q OK.out _ _ W3 (HE.out.below B.out) (HQ.out.below B.out)).mono ?_; rintro e W4 ⟨ob,rb,rfl,hrb,htab,hlo,hlr,q4⟩)
  | fail "arm")
 clear y0 y1 y2 y3 y4 y5
 replace KQ:=Lib.hid (KQ.out.below q4)
 replace KL:=Lib.hid (KL.out.below q4)
 replace B:=Lib.hid (B.out.trans (q4.mono B.out.size))
 have HRB:=Lib.hid hrb
 have HLO:Hid (w.heap.size≤ob∧ob < W4.heap.size∧∀ g ∈ rb,w.heap.size≤g∧g < W4.heap.size):=Lib.hid ⟨Nat.le_trans HW3.out hlo,htab.lt1,fun g hg=>⟨Nat.le_trans HW3.out (hlr g hg),htab.lt2 g hg⟩⟩
 have HW4:=Lib.hid q4.size
 clear hlo hlr q4
 have k_:=Blk.fresh W4 #[.slice (some ⟨ob,0,none⟩) (q.L.length + 1) (q.L.length + 1)] 99
 have q_:=below_new W4 (.cells #[.slice (some ⟨ob,0,none⟩) (q.L.length + 1) (q.L.length + 1)] 99)
 have z_:(W4.alloc (.cells #[.slice (some ⟨ob,0,none⟩) (q.L.length + 1) (q.L.length + 1)] 99)).heap.size=W4.heap.size + 1:=by simp
 generalize (W4.alloc (.cells #[.slice (some ⟨ob,0,none⟩) (q.L.length + 1) (q.L.length + 1)] 99))=W5 at *
 obtain ⟨bt,hb_⟩:∃ b,W4.heap.size=b:=⟨_,rfl⟩
 rw [hb_] at k_ z_
 rw [hb_]
 have Hbt:Hid (W4.heap.size=bt∧W5.heap.size=bt + 1):=Lib.hid ⟨hb_,z_⟩
 have TAB:=Lib.hid (htab.below q_)
 replace KQ:=Lib.hid (KQ.out.below q_)
 replace KL:=Lib.hid (KL.out.below q_)
 replace B:=Lib.hid (B.out.trans (q_.mono B.out.size))
 have KT:=Lib.hid k_
 clear htab k_ q_ z_ hb_
 have hbd:=rst_bdQ q OK.out 0 0 (Nat.zero_le _) (Nat.zero_le _)
 have HRT:=Lib.hid (cright_any (rst q 0 0) (by omega) W5 (HE.out.below B.out))
 have l0:0 < rb.length:=by omega
 have c0:=TAB.out.cell1 0 l0
 have c1:W5.cell? ⟨rb[0],0,none⟩=some (.string (qT (rst q 0 0))):=TAB.out.cell2 0 0 l0 (by omega)
 generalize rb[0]=r0 at c0 c1
 have z0:=KT.out.at_ 0 _ rfl
 have tN1:(0:Int) < (q.L.length:Int) + 1:=by omega
 have tN2:(0:Int) < (q.R.length:Int) + 1:=by omega
 obtain ⟨tx,htx⟩:∃ x,(qT (rst q 0 0))=x:=⟨_,rfl⟩
 have HTX:=Lib.hid htx
 rw [htx] at c1 HRT
 clear hbd hrb htx
 go_upto_region 8 with (first
  | (go_at_call 49; with_reducible refine (HRT.out _ (Below.refl _ _)).mono ?_; rintro e W6 ⟨rfl,q6⟩)
  | fail "arm")
 clear c0 c1 z0 tN1 tN2 HRT l0
 replace KQ:=Lib.hid (KQ.out.below q6)
 replace KL:=Lib.hid (KL.out.below q6)
 replace B:=Lib.hid (B.out.trans (q6.mono B.out.size))
 replace KT:=Lib.hid (KT.out.below q6)
 replace TAB:=Lib.hid (TAB.out.below q6)
 have HZ6:=Lib.hid q6.size
 clear q6
 have k_:=Blk.fresh W6 #[.string tx] 28
 have q_:=below_new W6 (.cells #[.string tx] 28)
 have z_:(W6.alloc (.cells #[.string tx] 28)).heap.size=W6.heap.size + 1:=by simp
 generalize (W6.alloc (.cells #[.string tx] 28))=W7 at *
 obtain ⟨bs,hb_⟩:∃ b,W6.heap.size=b:=⟨_,rfl⟩
 rw [hb_] at k_ z_
 rw [hb_]
 have Hbs:Hid (W6.heap.size=bs∧W7.heap.size=bs + 1):=Lib.hid ⟨hb_,z_⟩
 replace KQ:=Lib.hid (KQ.out.below q_)
 replace KL:=Lib.hid (KL.out.below q_)
 replace B:=Lib.hid (B.out.trans (q_.mono B.out.size))
 replace KT:=Lib.hid (KT.out.below q_)
 replace TAB:=Lib.hid (TAB.out.below q_)
 have KS:=Lib.hid k_
 clear k_ q_ z_ hb_
 go_upto_region 9 with (fail)
 have k_:=Blk.fresh W7 #[.slice none 0 0] 68
 have q_:=below_new W7 (.cells #[.slice none 0 0] 68)
 have z_:(W7.alloc (.cells #[.slice none 0 0] 68)).heap.size=W7.heap.size + 1:=by simp
 generalize (W7.alloc (.cells #[.slice none 0 0] 68))=W8 at *
 obtain ⟨bo,hb_⟩:∃ b,W7.heap.size=b:=⟨_,rfl⟩
 rw [hb_] at k_ z_
 rw [hb_]
 have Hbo:Hid (W7.heap.size=bo∧W8.heap.size=bo + 1):=Lib.hid ⟨hb_,z_⟩
 replace KQ:=Lib.hid (KQ.out.below q_)
 replace KL:=Lib.hid (KL.out.below q_)
 replace B:=Lib.hid (B.out.trans (q_.mono B.out.size))
 replace KT:=Lib.hid (KT.out.below q_)
 replace KS:=Lib.hid (KS.out.below q_)
 replace TAB:=Lib.hid (TAB.out.below q_)
 have KO:=Lib.hid k_
 clear k_ q_ z_ hb_
 go_upto_region 10 with (fail)
 have k_:=Blk.fresh W8 #[.nilFunc] 122
 have q_:=below_new W8 (.cells #[.nilFunc] 122)
 have z_:(W8.alloc (.cells #[.nilFunc] 122)).heap.size=W8.heap.size + 1:=by simp
 generalize (W8.alloc (.cells #[.nilFunc] 122))=W8b at *
 obtain ⟨bf,hb_⟩:∃ b,W8.heap.size=b:=⟨_,rfl⟩
 rw [hb_] at k_ z_
 rw [hb_]
 have Hbf:Hid (W8.heap.size=bf∧W8b.heap.size=bf + 1):=Lib.hid ⟨hb_,z_⟩
 replace KQ:=Lib.hid (KQ.out.below q_)
 replace KL:=Lib.hid (KL.out.below q_)
 replace B:=Lib.hid (B.out.trans (q_.mono B.out.size))
 replace KT:=Lib.hid (KT.out.below q_)
 replace KS:=Lib.hid (KS.out.below q_)
 replace KO:=Lib.hid (KO.out.below q_)
 replace TAB:=Lib.hid (TAB.out.below q_)
 have KF0:=Lib.hid k_
 have c0:=k_.at_ 0 _ rfl
 have f0:=k_.free 0
 have hsf:=@run_store_funcA Tryz.prog
 clear k_ q_ z_ hb_
 go_upto_region 11 with (fail)
 clear hsf
 have w1:=Wrote.set KF0.out 0 (.func (.func 67) #[] #[.pointer (some ⟨bq,0,none⟩),.pointer (some ⟨bo,0,none⟩),.pointer (some ⟨bs,0,none⟩),.pointer (some ⟨bl,0,none⟩),.pointer (some ⟨bt,0,none⟩),.pointer (some ⟨bf,0,none⟩)])
 have hlo:=HLO.out
 have hsz:bq < bf∧bl < bf∧bt < bf∧bs < bf∧bo < bf∧ob < bf∧∀ g ∈ rb,g < bf:=by
  have h0:=HS.out
  have h1:=Hbt.out
  have h2:=Hbs.out
  have h3:=Hbo.out
  have h4:=Hbf.out
  have h6:=HZ6.out
  have h8:=HBL.out
  have h9:=HW4.out
  refine ⟨by omega,by omega,by omega,by omega,by omega,by omega,fun g hg=>?_⟩
  have:=hlo.2.2 g hg
  omega
 have KF:=Lib.hid (KF0.out.set 0 (.func (.func 67) #[] #[.pointer (some ⟨bq,0,none⟩),.pointer (some ⟨bo,0,none⟩),.pointer (some ⟨bs,0,none⟩),.pointer (some ⟨bl,0,none⟩),.pointer (some ⟨bt,0,none⟩),.pointer (some ⟨bf,0,none⟩)]))
 replace KQ:=Lib.hid (KQ.out.keptC w1.kept (by omega))
 replace KL:=Lib.hid (KL.out.keptC w1.kept (by omega))
 replace KT:=Lib.hid (KT.out.keptC w1.kept (by omega))
 replace KS:=Lib.hid (KS.out.keptC w1.kept (by omega))
 replace KO:=Lib.hid (KO.out.keptC w1.kept (by omega))
 replace TAB:=Lib.hid (TAB.out.keptC w1.kept (by omega) (fun g hg=>by have:=hsz.2.2.2.2.2.2 g hg; omega))
 replace B:=Lib.hid (B.out.trans (w1.below.mono (by have:=HW3.out; have:=HW4.out; have:=Hbt.out; have:=HZ6.out; have:=Hbs.out; have:=Hbo.out; have:=Hbf.out; omega)))
 have HBF:Hid (bf < (W8b.setCell ⟨bf,0,none⟩ (.func (.func 67) #[] #[.pointer (some ⟨bq,0,none⟩),.pointer (some ⟨bo,0,none⟩),.pointer (some ⟨bs,0,none⟩),.pointer (some ⟨bl,0,none⟩),.pointer (some ⟨bt,0,none⟩),.pointer (some ⟨bf,0,none⟩)])).heap.size∧(bq < bf∧bl < bf∧bt < bf∧bs < bf∧bo < bf∧ob < bf∧∀ g ∈ rb,g < bf)):=Lib.hid ⟨KF.out.lt,hsz⟩
 clear w1 hsz KF0 c0 f0 hlo
 generalize (W8b.setCell ⟨bf,0,none⟩ (.func (.func 67) #[] #[.pointer (some ⟨bq,0,none⟩),.pointer (some ⟨bo,0,none⟩),.pointer (some ⟨bs,0,none⟩),.pointer (some ⟨bl,0,none⟩),.pointer (some ⟨bt,0,none⟩),.pointer (some ⟨bf,0,none⟩)]))=W9 at *
 have f0:=KF.out.at_ 0 _ rfl
 have hS:FrS w W9.heap.size bq bo bs bl bt bf ob rb q (.slice A1 q.L.length n1) (.slice A2 q.R.length n2) tx lim W9:=by
  have h0:=HS.out
  have h1:=Hbt.out
  have h2:=Hbs.out
  have h3:=Hbo.out
  have h4:=Hbf.out
  have h5:=HLO.out
  have h6:=HZ6.out
  have h7:=HBF.out
  have h8:=HBL.out
  have h9:=HW4.out
  have h10:=HW3.out
  refine ⟨B.out,KQ.out,KS.out,KL.out,by rw [HRB.out]; exact KT.out,KF.out,TAB.out,fun g hg=>?_,by omega,by omega,by omega,Nat.le_refl _⟩
  rcases List.mem_append.1 hg with hg | hg
  ·simp only [List.mem_cons,List.not_mem_nil,or_false] at hg
   omega
  ·have:=h5.2.2 g hg
   omega
 have hO:OutQ W9.heap.size bo tx [] (.slice none 0 0) [] W9:=⟨KO.out,SRow.nil _ _,rfl,fun i x s h=>by simp at h⟩
 have HSS:=Lib.hid hS
 have HOO:=Lib.hid hO
 clear hS hO
 go_wp2_with (fail)
 clear f0
 refine (from_any q OK.out _ _ w HE.out HQ.out W9.heap.size bq bo bs bl bt bf ob rb HRB.out tx lim hlim (left q 0 0) 0 0 rfl (Nat.zero_le _) (Nat.zero_le _) W9 (.slice none 0 0) [] [] (.slice none 0 0) [] HSS.out (SRow.nil _ _) (by unfold left; simp; omega) HOO.out (Nat.zero_le _)).mono ?_
 rintro e W10 hfr
 have HB0:=Lib.hid (B.out.size)
 obtain ⟨_,_,kb,(⟨rfl,hle,v3,xs',hO3⟩ | ⟨rfl,hgt⟩)⟩:=hfr.get
 ·have hle2:(allW q 0 0).length≤lim:=by simpa using hle
  have hA:AlsQ w.heap.size tx (allW q 0 0) v3 xs' W10:=by
   have h:=hO3.als.mono HSS.out.bb.size
   simpa using h
  obtain ⟨vA,vc,hve⟩:=hA.row.len_eval
  obtain ⟨nx,hnx⟩:∃ n,xs'.length=n:=⟨_,rfl⟩
  rw [hnx] at hve
  subst hve
  have c0:=hO3.kb.at_ 0 _ rfl
  have HA:=Lib.hid hA
  have HLE:=Lib.hid hle2
  have BB:=Lib.hid (B.out.trans kb)
  clear hfr hle hO3 hA hle2 kb hnx
  go_wp2
  go_ret2
  exact ⟨.inl ⟨HLE.out,_,xs',rfl,by rw [HTX.out]; exact HA.out⟩,BB.out⟩
 ·have hgt2:lim < (allW q 0 0).length:=by simpa using hgt
  have HGT:=Lib.hid hgt2
  have BB:=Lib.hid (B.out.trans kb)
  clear hfr hgt hgt2 kb
  go_wp2
  go_ret2
  exact ⟨.inr ⟨HGT.out,rfl⟩,BB.out⟩

end Go.Proofs.YthhkmihjnnfpgaaGreatDoor

/- A log with a further interval: the question, its rows in memory. -/
namespace Go.Proofs.YthhkmihjnnfpgaaGreatDoor
set_option linter.all false
open Go.RowKit

theorem run_append_zero {P:Program} {w:World} {t ty e:TypeId} {i:TypeInfo} (ht:P.underlying t=some (.slice e)) (hi:P.info? e=some i) (g:Nat) (cap:Nat) (a2:Option Addr) (c2:Nat) :
  (Builtin.append_ #[t,t] ty #[.slice (some ⟨g,0,none⟩) 0 cap,.slice a2 0 c2]).run P w=.ok (.slice (some ⟨g,0,none⟩) 0 cap) w:=by
 cases a2 with
 | some b =>
  have h:=run_append_room_cells (P:=P) w t ty e i ht hi g 0 0 cap b 0 c2 [] (by simp) (fun j u h=>by simp at h) (fun u h=>by cases h) (Nat.zero_le _) (fun j h=>by simp at h) (fun j h=>by simp at h)
  rw [h]
  rfl
 | none=>simp [Builtin.append_,run_underlying ht,sizeOf,typeInfo,hi,Builtin.lenOf,Builtin.firstCells,storeCells]

section
variable {α:Type} {f:α→List Value} {sz:Nat} {T:TypeId}
theorem flat_inv (hf:∀ u,(f u).length=sz):∀ (us:List α) (j:Nat) (u:Value),(us.flatMap f)[j]?=some u→∃ i t r,us[i]?=some t∧(f t)[r]?=some u∧j=i * sz + r
 | [],j,u,h=>by simp at h
 | x :: us,j,u,h=>by
  rw [List.flatMap_cons] at h
  by_cases hj:j < (f x).length
  ·rw [List.getElem?_append_left hj] at h
   exact ⟨0,x,j,rfl,h,by omega⟩
  ·rw [List.getElem?_append_right (by omega)] at h
   obtain ⟨i,t,r,h1,h2,h3⟩:=flat_inv hf us _ _ h
   have:=hf x
   exact ⟨i + 1,t,r,h1,h2,by rw [Nat.succ_mul]; omega⟩
def OwnR (f:α→List Value) (sz:Nat) (T:TypeId) (W:World) (base:Nat) (v:Value) (us:List α):Prop:=W.ownsRow base T sz v us.length (us.flatMap f)∧∃ A c,v=.slice A us.length c
theorem OwnR.below {W W':World} {base:Nat} {v:Value} {us:List α} (h:OwnR f sz T W base v us) (k:Below W.heap.size W W'):OwnR f sz T W' base v us:=by
 obtain ⟨⟨h1,h2⟩,h3⟩:=h
 refine ⟨⟨h1,?_⟩,h3⟩
 rcases h2 with h2 | ⟨g,cap,cur,e,hg,hh,hle,hc,hcs,ht⟩
 ·exact .inl h2
 ·exact .inr ⟨g,cap,cur,e,hg,(k.block g (Array.getElem?_eq_some_iff.1 hh).1).trans hh,hle,hc,hcs,ht⟩
theorem wpList_spread {P:Program} {t:TypeId} {bytes:Nat} (E:StrElem P t T sz bytes) (hf:∀ u,(f u).length=sz) (hone:∀ u,∀ x ∈ f u,x.oneCell'=true) {ops:Array Oper} {rest:List Oper} {o:Oper} {a:Act} {Q:Exit→Act→World→Prop} (hgd:o.guard=none) (s x:Operand) (ho:o.op=.call { callee:=.builtin .append,args:=#[s,x],argTypes:=#[t,t] })
  (W:World) (us:List α) (a2:Option Addr) (n c2:Nat) (hn:us.length=n) (hv:SAt f sz W (.slice a2 n c2) us) (hs:a.eval s=.slice (some ⟨W.heap.size,0,none⟩) 0 0) (hx:a.eval x=.slice a2 n c2) (hlen:us.length≤5000)
  (h:∀ v' w',OwnR f sz T w' W.heap.size v' us→Below W.heap.size W w'→wpList P ops Q rest (a.put o.dst v') w') :
  wpList P ops Q (o :: rest) a (W.alloc (.cells #[] T)):=by
 obtain ⟨i0,z0,hi,hz0,hz1,hz2,hz3⟩:=StrElem.parts E
 have hsm:=E.small
 have hbel:=below_new W (.cells #[] T)
 have own0:(W.alloc (.cells #[] T)).ownsRow W.heap.size T sz (.slice (some ⟨W.heap.size,0,none⟩) 0 0) 0 []:=World.ownsRow_made W #[] 0 (Nat.le_refl _) (Nat.zero_le _) (by simp)
 by_cases h0:n=0
 ·subst h0
  obtain rfl:us=[]:=List.eq_nil_of_length_eq_zero hn
  have hr:=run_append_zero (P:=P) (w:=W.alloc (.cells #[] T)) (ty:=o.type) E.ht hi W.heap.size 0 a2 c2
  refine wpList_plain hgd fun K hK'=>?_
  unfold Oper.wp
  simp [execOp,ho,resolve,invoke,builtin,hs,hx,hr,Result.andThen]
  exact hK' _ _ (h _ _ ⟨own0,_,_,rfl⟩ hbel)
 ·have hlen2:=flat_len hf us
  obtain ⟨a',c',e,hc⟩:=hv
  have hpos:0 < us.length:=by omega
  obtain ⟨d,o9,e2,hd,_⟩:=hc 0 us[0] (List.getElem?_eq_getElem hpos)
  subst e2
  injection e with e1 e2 e3
  subst e1 e2
  refine wpList_append_own_at _ hgd s x t ho W.heap.size T i0 z0 sz bytes E.ht hi hz0 hz2 hz3 hz1 E.pos (.slice (some ⟨W.heap.size,0,none⟩) 0 0) 0 [] hs own0 ⟨d,o9,none⟩ us.length c2 (us.flatMap f) hx hlen2 ?_ ?_ (by simp only [maxLen]; omega) ?_ (by simp) ?_
  ·intro j u hj
   obtain ⟨i,t',r,h1,h2,h3⟩:=flat_inv hf us j u hj
   obtain ⟨d',o',e',hd',hcc⟩:=hc i t' h1
   injection e' with e'
   injection e' with ea eb _
   subst ea eb
   rw [Addr.add_lit]
   refine Lib.cell?_alloc_some _ ?_
   have:=hcc r u h2
   rw [h3]
   rw [show o9 + (i * sz + r)=o9 + i * sz + r by omega]
   exact this
  ·intro u hu
   obtain ⟨y,_,hy⟩:=List.mem_flatMap.1 hu
   exact hone y u hy
  ·have:(0 + us.length) * bytes≤5000 * 1000:=Nat.mul_le_mul (by omega) hsm
   omega
  ·intro v' w' h2 h3 _ _
   rw [Nat.zero_add] at h2
   have hev:∃ A c,v'=.slice A us.length c:=by
    rcases h2.2 with ⟨_,hz⟩ | ⟨g,cap,cur,e4,_⟩
    ·omega
    ·exact ⟨_,_,e4⟩
   exact h v' w' ⟨by simpa using h2,hev⟩ (((Below.refl _ W).alloc (Nat.le_refl _) _).grown h3 (by simp) (by intro k hk; simp [Value.ownBlock] at hk; omega))
theorem app_ownR {P:Program} {t:TypeId} {bytes:Nat} (E:StrElem P t T sz bytes) (hf:∀ u,(f u).length=sz) (hone:∀ u,∀ x ∈ f u,x.oneCell'=true) {ops:Array Oper} {rest:List Oper} {o:Oper} {a:Act} {Q:Exit→Act→World→Prop} (hgd:o.guard=none) (s x:Operand) (ho:o.op=.call { callee:=.builtin .append,args:=#[s,x],argTypes:=#[t,t] })
  (W:World) (base:Nat) (hbase:base≤W.heap.size) (v:Value) (us:List α) (row:OwnR f sz T W base v us) (hs:a.eval s=v) (hlen:us.length≤5000) (u:α) (hx:a.eval x=.slice (some ⟨W.heap.size,0,none⟩) 1 1)
  (h:∀ v' w',SRow f sz T w' base v' (us ++ [u])→Below base W w'→wpList P ops Q rest (a.put o.dst v') w') :
  wpList P ops Q (o :: rest) a (W.alloc (.cells (f u).toArray T)):=by
 obtain ⟨i0,z0,hi,hz0,hz1,hz2,hz3⟩:=StrElem.parts E
 have hsm:=E.small
 have snoc:(us ++ [u]).flatMap f=us.flatMap f ++ f u:=by simp
 have hbel:=below_new W (.cells (f u).toArray T)
 have row2:=row.below hbel
 refine wpList_append_own_at _ hgd s x t ho base T i0 z0 sz bytes E.ht hi hz0 hz2 hz3 hz1 E.pos v us.length (us.flatMap f) hs row2.1 ⟨W.heap.size,0,none⟩ 1 1 (f u) hx (by rw [hf,Nat.one_mul]) (cells_new W (f u) T) (hone u) (by simp only [maxLen]; omega) ?_ (by simp; omega) ?_
 ·have:(us.length + 1) * bytes≤5001 * 1000:=Nat.mul_le_mul (by omega) hsm
  omega
 ·intro v' w' h2 h3 _ _
  have hob:∀ k,v.ownBlock=some k→base≤k:=fun k hk=>by
   rcases row.1.2 with ⟨e,_⟩ | ⟨g,cap,cur,e,hg,_⟩
   ·rw [e] at hk; cases hk
   ·rw [e] at hk
    simp [Value.ownBlock] at hk
    omega
  exact h v' w' (SRow.of_own (by rw [snoc,List.length_append]; exact h2) (by simp)) ((hbel.mono hbase).trans ((Below.refl base _).grown h3 (by simp; omega) hob))
end
theorem grow_len (q:CQ) (x:IV):q.R.length + 1=(growQ q x).R.length:=by unfold growQ; simp
theorem logP_end (l:List Bt):0≤endI (logP l) (logP l).length∧endI (logP l) (logP l).length≤40:=by
 unfold logP
 rw [mkL_len,endI_mk _ _ _ (Nat.le_refl _) (Nat.le_refl _)]
 have h:=atF_bd ((l.take 5).take (l.take 5).length)
 have h2:((l.take 5).take (l.take 5).length).length≤5:=by rw [List.length_take,List.length_take]; omega
 omega
theorem OkLog.snoc {l:List IV} (ok:OkLog l) (x:IV) (hu:x.u=⟨#[]⟩ ∨ LowB x.u) (hf:x.f=endI l l.length) (h0:0≤x.f) (ht:x.f < x.t) (hm:x.t≤1000):OkLog (l ++ [x]):=by
 have he:∀ k,k≤l.length→endI (l ++ [x]) k=endI l k:=fun k hk=>by
  cases k with
  | zero=>rfl
  | succ k =>
   show (match (l ++ [x])[k]? with | some x=>x.t | none=>0)=(match l[k]? with | some x=>x.t | none=>0)
   rw [List.getElem?_append_left (by omega)]
 intro k hk
 rw [List.length_append] at hk
 by_cases h:k < l.length
 ·have e:(l ++ [x])[k]=l[k]:=List.getElem_append_left h
  rw [e,he k (by omega)]
  exact ok k h
 ·obtain rfl:k=l.length:=by simp at hk; omega
  have e:(l ++ [x])[l.length]'(by simp)=x:=by simp
  rw [e,he _ (Nat.le_refl _),← hf]
  exact ⟨hu,h0,ht,hm,h0,Int.le_refl _⟩
theorem grow_okQ {q:CQ} (ok:OkQ q) (hr:q.R.length≤5) (x:IV) (hu:x.u=⟨#[]⟩ ∨ LowB x.u) (hf:x.f=endI q.R q.R.length) (h0:0≤x.f) (ht:x.f < x.t) (hm:x.t≤1000):OkQ (growQ q x) :=
 ⟨ok.hl,by show (q.R ++ [x]).length≤6; simp; omega,ok.okl,ok.okr.snoc x hu hf h0 ht hm,ok.ch,ok.mi,ok.ga,ok.re⟩

end Go.Proofs.YthhkmihjnnfpgaaGreatDoor
