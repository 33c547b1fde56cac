/- Correlate: Graph; AppendSeq. -/
import Derived.Test.YthhkmihjnnfpgaaGreatDoorGCorS
import Derived.Test.YthhkmihjnnfpgaaGreatDoorGCorN
import Derived.Test.YthhkmihjnnfpgaaGreatDoorGCorU
import Derived.Test.YthhkmihjnnfpgaaGreatDoorGCorE
/- The steps of best alignments, in the order of their positions: plain mathematics. -/
namespace Go.Proofs.YthhkmihjnnfpgaaGreatDoor
set_option linter.all false
open Go.RowKit

def grP (q:CQ) (i j k:Nat):Prop:=okS q k i j∧frn q i j + cst q k i j + rst q (nxI k i) (nxJ k j)=rst q 0 0
instance (q:CQ) (i j k:Nat):Decidable (grP q i j k):=by unfold grP; infer_instance
def grK (q:CQ) (i j m:Nat):List (Nat × Nat × Nat):=((kinds.take m).filter (fun k=>decide (grP q i j k))).map (fun k=>(k,i,j))
def gpos (q:CQ):Nat→List (Nat × Nat × Nat)
 | 0=>[]
 | p + 1=>gpos q p ++ grK q (p / (q.R.length + 1)) (p % (q.R.length + 1)) 5
theorem gpos_next (q:CQ) (i j:Nat) (hj:j≤q.R.length):gpos q (idx q i j + 1)=gpos q (idx q i j) ++ grK q i j 5:=by
 have h1:idx q i j / (q.R.length + 1)=i:=by
  unfold idx
  rw [Nat.add_comm,Nat.add_mul_div_right _ _ (Nat.succ_pos _),Nat.div_eq_of_lt (by omega)]
  omega
 have h2:idx q i j % (q.R.length + 1)=j:=by
  unfold idx
  rw [Nat.add_comm,Nat.add_mul_mod_self_right,Nat.mod_eq_of_lt (by omega)]
 show gpos q (idx q i j) ++ grK q (idx q i j / (q.R.length + 1)) (idx q i j % (q.R.length + 1)) 5=_
 rw [h1,h2]
theorem grK_next (q:CQ) (i j m:Nat) (hm:m < 5):grK q i j (m + 1)=grK q i j m ++ (if grP q i j (m + 1) then [(m + 1,i,j)] else []):=by
 unfold grK
 have h:kinds.take (m + 1)=kinds.take m ++ [m + 1]:=by
  rcases (show m=0 ∨ m=1 ∨ m=2 ∨ m=3 ∨ m=4 by omega) with rfl | rfl | rfl | rfl | rfl <;> rfl
 rw [h,List.filter_append,List.map_append]
 congr 1
 by_cases hp:grP q i j (m + 1)
 ·rw [if_pos hp,List.filter_cons_of_pos (by simpa using hp)]; rfl
 ·rw [if_neg hp,List.filter_cons_of_neg (by simpa using hp)]; rfl
theorem grK_len (q:CQ) (i j m:Nat) (hm:m≤5):(grK q i j m).length≤5:=by
 unfold grK
 rw [List.length_map]
 refine Nat.le_trans (List.length_filter_le _ _) ?_
 rw [List.length_take]
 omega
theorem gpos_len (q:CQ):∀ p,(gpos q p).length≤5 * p
 | 0=>Nat.zero_le _
 | p + 1=>by
  show (gpos q p ++ grK q _ _ 5).length≤_
  rw [List.length_append]
  have:=gpos_len q p
  have:=grK_len q (p / (q.R.length + 1)) (p % (q.R.length + 1)) 5 (Nat.le_refl _)
  omega
theorem gpos_pre (q:CQ) (p:Nat):∀ d,gpos q p <+: gpos q (p + d)
 | 0=>List.prefix_refl _
 | d + 1=>(gpos_pre q p d).trans (List.prefix_append _ _)
theorem gr_get (q:CQ) (i j m:Nat) (hi:i≤q.L.length) (hj:j≤q.R.length) (hm:m < 5) (hp:grP q i j (m + 1)) :
  (gpos q (potE q))[(gpos q (idx q i j) ++ grK q i j m).length]?=some (m + 1,i,j):=by
 have h1:gpos q (idx q i j) ++ grK q i j m ++ [(m + 1,i,j)] <+: gpos q (potE q):=by
  have hl:=idx_lt q hi hj
  have h2:gpos q (idx q i j + 1) <+: gpos q (potE q):=by
   have:=gpos_pre q (idx q i j + 1) (potE q - (idx q i j + 1))
   rw [show idx q i j + 1 + (potE q - (idx q i j + 1))=potE q by omega] at this
   exact this
  refine List.IsPrefix.trans ?_ h2
  rw [gpos_next q i j hj,List.append_assoc]
  refine (List.prefix_append_right_inj _).2 ?_
  have h3:grK q i j m ++ [(m + 1,i,j)]=grK q i j (m + 1):=by rw [grK_next q i j m hm,if_pos hp]
  rw [h3]
  unfold grK
  refine List.IsPrefix.map _ (List.IsPrefix.filter _ ?_)
  have:kinds=kinds.take 5:=rfl
  rw [show kinds.take (m + 1)=(kinds.take 5).take (m + 1) by rw [List.take_take,Nat.min_eq_left (by omega)]]
  exact List.take_prefix _ _
 obtain ⟨r,hr⟩:=h1
 rw [← hr,List.append_assoc,List.getElem?_append_right (Nat.le_refl _),Nat.sub_self]
 rfl
theorem gr_iff {q:CQ} {b:Nat} (hc:∀ k i j,k ∈ kinds→0≤cst q k i j∧cst q k i j≤b) {i j k:Nat} (hi:i≤q.L.length) (hj:j≤q.R.length) (hk:k ∈ kinds) :
  grP q i j k ↔ frn q i j + rst q i j=rst q 0 0∧goodS q i j k:=by
 have h1:=frn_bd hc hi hj
 unfold grP goodS
 constructor
 ·rintro ⟨ho,h⟩
  have h2:=rst_le q i j k hi hj hk ho
  exact ⟨by omega,ho,by omega⟩
 ·rintro ⟨h2,ho,h⟩
  exact ⟨ho,by omega⟩
theorem gd_kinds (q:CQ) (i j:Nat):(gdS q i j).map (fun x=>(x.k,i,j))=(kinds.filter (fun k=>decide (goodS q i j k))).map (fun k=>(k,i,j)):=by
 rw [← gdS_k,List.map_map]
 rfl
theorem gr_good {q:CQ} {b:Nat} (hc:∀ k i j,k ∈ kinds→0≤cst q k i j∧cst q k i j≤b) {i j:Nat} (hi:i≤q.L.length) (hj:j≤q.R.length) :
  grK q i j 5=if frn q i j + rst q i j=rst q 0 0 then (gdS q i j).map (fun x=>(x.k,i,j)) else []:=by
 have e5:kinds.take 5=kinds:=rfl
 unfold grK
 rw [e5]
 by_cases h:frn q i j + rst q i j=rst q 0 0
 ·rw [if_pos h,gd_kinds]
  congr 1
  refine List.filter_congr (fun k hk=>?_)
  rw [decide_eq_decide,gr_iff hc hi hj hk]
  exact ⟨fun h=>h.2,fun g=>⟨h,g⟩⟩
 ·rw [if_neg h]
  rw [List.filter_eq_nil_iff.2 (fun k hk=>?_)]
  ·rfl
  ·simp only [decide_eq_true_eq]
   intro g
   exact h ((gr_iff hc hi hj hk).1 g).1

end Go.Proofs.YthhkmihjnnfpgaaGreatDoor

/- slices.AppendSeq over the good steps from a position. -/
namespace Go.Proofs.YthhkmihjnnfpgaaGreatDoor
set_option linter.all false
open Go.RowKit

attribute [local go_sem] Oper.semAt_some

structure AsQ (w:World) (base bS:Nat) (us:List (Nat × Nat × Nat)) (v:Value) (V:World):Prop where
 kb:Blk V bS #[v] 34
 row:SRow stC 3 56 V base v us
 sz:base≤V.heap.size
 bb:Below base w V
section
variable {w V V':World} {base bS:Nat} {us:List (Nat × Nat × Nat)} {v:Value}
theorem AsQ.below (h:AsQ w base bS us v V) (k:Below V.heap.size V V'):AsQ w base bS us v V':=⟨h.kb.below k,h.row.below k,Nat.le_trans h.sz k.size,h.bb.trans (k.mono h.sz)⟩
theorem AsQ.own {β:Type} {B:Nat} (hB:base≤B):OwnFrom B (fun (_:β) V=>AsQ w base bS us v V):=fun s V V' row h hg hr=>by
 have hc:=ownFrom_cells (I:=fun (_:Unit) X=>Blk X bS #[v] 34∧SRow stC 3 56 X base v us) (fun _ X X' h k _=>⟨h.1.keptC k trivial,h.2.keptC k (fun _ _=>trivial)⟩) B () V V' row ⟨h.kb,h.row⟩ hg hr
 exact ⟨hc.1,hc.2,Nat.le_trans h.sz hg.size,h.bb.grown hg h.sz (fun k hk=>Nat.le_trans hB (hr k hk).1)⟩
theorem AsQ.ne (h:AsQ w base bS us v V):v.ownBlock ≠ some bS:=fun e=>by
 obtain ⟨_,_,cs,h2⟩:=h.row.own _ e
 exact absurd (h2.type_eq h.kb) (by decide)
theorem AsQ.step {x:Nat × Nat × Nat} {X1:World} {v':Value} (h:AsQ w base bS us v V) (hb:base≤bS) (r1:SRow stC 3 56 X1 base v' (us ++ [x])) (r2:Below base V X1) (r3:KeptC (fun g _=>v.ownBlock ≠ some g) V X1) (r4:KeepsFrom 0 V X1) :
  AsQ w base bS (us ++ [x]) v' (X1.setCell ⟨bS,0,none⟩ v')∧KeepsFrom 0 V (X1.setCell ⟨bS,0,none⟩ v')∧KeptC (fun g t=>¬ (g=bS ∨ (base≤g∧t=56))) V (X1.setCell ⟨bS,0,none⟩ v') ∧
   X1.cell? ⟨bS,0,none⟩=some v∧X1.frozen? ⟨bS,0,none⟩=false:=by
 have k1:Blk X1 bS #[v] 34:=h.kb.keptC r3 h.ne
 have w1:=Wrote.set k1 0 v'
 refine ⟨⟨k1.set 0 v',r1.set_ty k1 (by decide) 0 v',Nat.le_trans h.sz (Nat.le_trans r2.size w1.below.size),h.bb.trans (r2.trans (w1.below.mono hb))⟩,r4.trans w1.keeps,?_,k1.at_ 0 _ rfl,k1.free 0⟩
 refine KeptC.trans (fun g cs t fz hm e=>r3 g cs t fz (fun ho=>hm (.inr ?_)) e) (w1.kept.mono (fun g t hm e=>hm (.inl e)))
 obtain ⟨h1,_,cs',h2⟩:=h.row.own g ho
 have e2:=(show V.heap[g]?=_ from h2).symm.trans e
 injection e2 with e2
 injection e2 with _ e3 _
 exact ⟨h1,e3.symm⟩
end
set_option maxRecDepth 100000 in
set_option maxHeartbeats 8000000 in
theorem appseq_any (q:CQ) (ok:OkQ q) (sl sr:Value) (i j:Nat) (hi:i≤q.L.length) (hj:j≤q.R.length) (w0:World) (he:Env w0) (hq:QAt w0 sl sr q) (bw ob:Nat) (rb:List Nat) (hrb:rb.length=q.L.length + 1) (w:World)
  (hS:StG w0 bw (bw + 1) (bw + 2) (bw + 3) ob rb q sl sr i j w) (base:Nat) (hb0:w0.heap.size≤base) (hb1:base≤w.heap.size) (v:Value) (us:List (Nat × Nat × Nat)) (hr:SRow stC 3 56 w base v us) (hus:us.length≤4000) :
  Calls Tryz.prog 70 #[v,.func (.func 79) #[] #[.pointer (some ⟨bw,0,none⟩),.pointer (some ⟨bw + 2,0,none⟩),.pointer (some ⟨bw + 3,0,none⟩),.pointer (some ⟨bw + 1,0,none⟩)]] w fun e w'=>(∃ v',e=.returned v'∧SRow stC 3 56 w' base v' (us ++ (gdS q i j).map (fun x=>(x.k,i,j))))∧Below base w w':=by
 obtain ⟨vA,vc,hve⟩:=hr.len_eval
 obtain ⟨nv,hnv⟩:∃ n,us.length=n:=⟨_,rfl⟩
 rw [hnv] at hve
 subst hve
 clear hnv
 refine callsIn_wide (n:=9) |>.1 ?_
 refine callsIn_of_wp_marks Tryz.func70 rfl trivial ?_ rfl
 simp only [Tryz.ntmps70,List.size_toArray,List.length_cons,List.length_nil,Nat.reduceAdd,Nat.reduceSub,Array.replicate_succ,Array.replicate_zero,List.push_toArray,List.append_toArray,List.nil_append,List.cons_append]
 refine wpIn_wide.2 ?_
 go_upto_region 1 with (fail)
 have kb:=Blk.fresh w #[.slice vA nv vc] 34
 have qb:=below_new w (.cells #[.slice vA nv vc] 34)
 have hsz:(w.alloc (.cells #[.slice vA nv vc] 34)).heap.size=w.heap.size + 1:=by simp
 have s1:=hS.below qb
 have r1:=hr.below qb
 have l1:=hS.kq.lt
 have l2:=hS.kr.lt
 have l3:=hS.ki.lt
 have l4:=hS.kj.lt
 have l5:=hS.tab.lt1
 have l6:=hS.tab.lt2
 generalize (w.alloc (.cells #[.slice vA nv vc] 34))=W1 at *
 obtain ⟨bS,hbS⟩:∃ b,w.heap.size=b:=⟨_,rfl⟩
 rw [hbS] at kb hsz l1 l2 l3 l4 l5 l6 hb1 ⊢
 have A1:AsQ w base bS us (.slice vA nv vc) W1:=⟨kb,r1,by omega,qb.mono (by omega)⟩
 clear hS hr kb r1 qb
 go_wp2
 have hM:FarM w0 (fun g t=>g=bS ∨ (base≤g∧t=56)) ([bw,bw + 1,bw + 2,bw + 3,ob] ++ rb) [32,99,3,71,28]:=by
  refine ⟨fun g t h=>by omega,fun g hg t ht h=>?_⟩
  have h2:t ≠ 56:=by
   simp only [List.mem_cons,List.not_mem_nil,or_false] at ht
   rcases ht with rfl | rfl | rfl | rfl | rfl <;> decide
  have h1:g=bS:=by
   rcases h with h | ⟨_,h⟩
   ·exact h
   ·exact absurd h h2
  rcases List.mem_append.1 hg with hg | hg
  ·simp only [List.mem_cons,List.not_mem_nil,or_false] at hg
   omega
  ·have:=l6 g hg
   omega
 have hMn:∀ g t,W1.heap.size≤g→t ∈ ([32,3,138]:List TypeId)→¬ (g=bS ∨ (base≤g∧t=56)):=fun g t hg ht h=>by
  have h2:t ≠ 56:=by
   simp only [List.mem_cons,List.not_mem_nil,or_false] at ht
   rcases ht with rfl | rfl | rfl <;> decide
  rcases h with h | ⟨_,h⟩
  ·omega
  ·exact h2 h
 have hbB:base≤W1.heap.size:=by omega
 have hI:OwnFrom W1.heap.size (fun (l:List (SK q i j)) V=>∃ v',AsQ w base bS (us ++ l.map (fun (x:SK q i j)=>(x.k,i,j))) v' V):=fun s A B row h hg hr=>by
  obtain ⟨v',h⟩:=h
  exact ⟨v',AsQ.own hbB () A B row h hg hr⟩
 refine wide_loop (n:=9) (gf:=79) (lb:=#[.pointer (some ⟨bw,0,none⟩),.pointer (some ⟨bw + 2,0,none⟩),.pointer (some ⟨bw + 3,0,none⟩),.pointer (some ⟨bw + 1,0,none⟩)]) rfl (enters_of Tryz.func79 (by kernel_rfl) rfl)
  (good_stops (9 - 1) q ok _ _ i j hi hj w0 he hq bw (bw + 1) (bw + 2) (bw + 3) ob rb hrb (fun a b ha hb=>by have:=rst_bdQ q ok a b ha hb; omega) _ hM W1 hMn s1) (fun h k=>KeptC.trans h k) (fun V o o' h ho=>KeptC.put _ h ho) (fun _=>rfl)
  (fun l V=>∃ v',AsQ w base bS (us ++ l.map (fun (x:SK q i j)=>(x.k,i,j))) v' V)
  (fun _ _ _=>False)
  hI (fun c s A B row h hg hr=>h) ⟨.slice vA nv vc,by simpa using A1⟩
  (fun l x a' V=>∃ (bs:Nat) (v':Value),AsQ w base bS (us ++ l.map (fun (x:SK q i j)=>(x.k,i,j))) v' V∧Blk V bs #[.int .i64 x.k,.int .i64 i,.int .i64 j] 56∧v'.ownBlock ≠ some bs∧bs ≠ bS∧∃ fv:Nat→Value,a'={ tmps:=(fv 0 :: fv 1 :: .pointer (some ⟨bS,0,none⟩) :: fv 3 :: fv 4 :: .pointer (some ⟨bs,0,none⟩) :: fv 6 :: fv 7 :: fv 8 :: fv 9 :: fv 10 :: fv 11 :: fv 12 :: []).toArray,defers:=[] })
  (fun l x a' s A B row h hg hr=>by
   obtain ⟨bs,v',h1,h2,h3⟩:=h
   exact ⟨bs,v',AsQ.own hbB () A B row h1 hg hr,ownFrom_cells (I:=fun (_:Unit) V=>Blk V bs #[.int .i64 x.k,.int .i64 i,.int .i64 j] 56) (fun _ V V' h k _=>h.keptC k trivial) _ () A B row h2 hg hr,h3⟩)
  ?assign ?body ?done ?stop
 case assign =>
  rintro l2 l x V K ⟨v',h1⟩ hK
  have qv:=below_new V (.cells #[.int .i64 x.k,.int .i64 i,.int .i64 j] 56)
  have kv:=Blk.fresh V #[.int .i64 x.k,.int .i64 i,.int .i64 j] 56
  have hne:v'.ownBlock ≠ some V.heap.size:=fun h=>by have:=(h1.row.own _ h).2.1; omega
  have g1:=h1.kb.lt
  dsimp only [encG]
  gi_wp2
  exact hK _ _ (keepsFrom_below qv) (KeptC.below qv) ⟨V.heap.size,v',h1.below qv,kv,hne,by omega,ex_frame (by kernel_rfl)⟩
 case body =>
  rintro l2 l x a' V ⟨bs,v',h1,hb,hne2,hbs,fv,rfl⟩ hlen
  have d0:=hb.at_ 0 _ rfl
  have d1:=hb.at_ 1 _ rfl
  have d2:=hb.at_ 2 _ rfl
  have o0:=h1.kb.at_ 0 _ rfl
  obtain ⟨va,vc2,hve⟩:=h1.row.len_eval
  obtain ⟨n2,hn2⟩:∃ n,(us ++ l.map (fun (x:SK q i j)=>(x.k,i,j))).length=n:=⟨_,rfl⟩
  rw [hn2] at hve
  subst hve
  clear hn2
  have H1:=Lib.hid h1
  have hbase:=h1.sz
  have hpl:(us ++ l.map (fun (x:SK q i j)=>(x.k,i,j))).length≤5000:=by rw [List.length_append,List.length_map]; omega
  clear h1 hI hM hMn s1 A1 hb
  gi_wp2_with (first
   | (gi_at_builtin; refine listIn_of (.inr ⟨l2,rfl⟩) rfl (by intro c hc; cases hc) ?_; refine app_row2 ElT stC_len stC_one rfl (.tmp 8) (.tmp 10) rfl V base hbase _ _ H1.out.row rfl hpl (x.k,i,j) rfl ?_; intro v2 X1 r1 r2 r3 r4; refine ⟨rfl,?_⟩; obtain ⟨vA2,vc3,hv'⟩:=r1.len_eval; obtain ⟨n3,hn3⟩:∃ n,((us ++ l.map (fun (x:SK q i j)=>(x.k,i,j))) ++ [(x.k,i,j)]).length=n:=⟨_,rfl⟩; rw [hn3] at hv'; subst hv'; clear hn3; have hst:=H1.out.step (by omega) r1 r2 r3 r4; have c0:=hst.2.2.2.1; have f0:=hst.2.2.2.2; have HST:=Lib.hid hst; clear hst r1 r2 r3 r4 d0 d1 d2 o0)
   | fail "arm")
  have hst:=HST.out
  exact ⟨KeepsFrom.mono hst.2.1 (Nat.zero_le _),hst.2.2.1,_,by rw [List.map_append,← List.append_assoc]; exact hst.1⟩
 case done =>
  rintro D ys V hD rfl ⟨v',hA⟩ hK
  have o0:=hA.kb.at_ 0 _ rfl
  clear hI hM hMn s1 A1
  go_wp2
  refine leaves_marks (base:=base) _ _ ⟨⟨D,rfl,by omega,hK,fun x hx=>by cases hx⟩,trivial⟩ (fun w' hm=>?_)
  have kc:KeptC (fun _ _=>True) V w':=fun g cs t fz _ e=>hm.cells g cs t fz e
  exact ⟨_,results_tmp rfl _ _ _,⟨v',rfl,hA.row.keptC kc (fun _ _=>trivial)⟩,hA.bb.trans hm.below⟩
 case stop =>
  rintro D c l V hD hpre h hK
  exact h.elim

end Go.Proofs.YthhkmihjnnfpgaaGreatDoor

/- Graph: the steps of best alignments. -/
namespace Go.Proofs.YthhkmihjnnfpgaaGreatDoor
set_option linter.all false
open Go.RowKit

attribute [local go_sem] Oper.semAt_some

theorem rSum3Q (x y z:Int) (hx:x.natAbs < 1000000) (hy:y.natAbs < 1000000) (hz:z.natAbs < 1000000) (w:World) (he:Env w) (W:World) (b:Nat) (hb:Blk W b #[.string (qT x),.string (qT y),.string (qT z)] 28) (hW:Below w.heap.size w W) :
  Calls Tryz.prog 33 #[.slice (some ⟨b,0,none⟩) 3 3] W fun e w'=>e=.returned (.string (qT (x + y + z)))∧Below W.heap.size W w':=by
 have h:=ssum3 (mkRat x 4) (mkRat y 4) (mkRat z 4) 6 (by omega) (by omega) (quarter_sz x hx) (quarter_sz y hy) (quarter_sz z hz) W b hb (he.below hW)
 rw [quarter_add,quarter_add] at h
 exact h
theorem SRow.mono {α:Type} {f:α→List Value} {sz:Nat} {T:TypeId} {W:World} {base base':Nat} {v:Value} {us:List α} (h:SRow f sz T W base v us) (hb:base'≤base):SRow f sz T W base' v us:=by
 rcases h with h | ⟨d,c,r,a1,a2,a3⟩
 ·exact .inl h
 ·exact .inr ⟨d,c,r,a1,by omega,a3⟩
theorem frn_bdQ (q:CQ) (ok:OkQ q) {i j:Nat} (hi:i≤q.L.length) (hj:j≤q.R.length):0≤frn q i j∧frn q i j≤720000 :=
 inv_bd ok (potA_bd q ok _ (Nat.le_refl _)) i j _ (frn_some (cst_bdS q ok) hi hj)
set_option maxRecDepth 100000 in
set_option maxHeartbeats 8000000 in
theorem graph_any (q:CQ) (ok:OkQ q) (sl sr:Value) (w:World) (he:Env w) (hq:QAt w sl sr q) :
  Calls Tryz.prog 30 #[.agg #[sl,sr,.string (qT (2 * q.ch)),.string (qT (2 * q.mi)),.string (qT (2 * q.ga)),.string (qT (2 * q.re))]] w fun e w'=>∃ v,e=.returned (.tuple #[v,.int .i64 0])∧SRow stC 3 56 w' w.heap.size v (gpos q (potE q))∧Below w.heap.size w w':=by
 have hll:=ok.hl
 have hrr:=ok.hr
 have HQ:=Lib.hid hq
 obtain ⟨A1,n1,rfl,_⟩:=hq.l
 obtain ⟨A2,n2,rfl,_⟩:=hq.r
 have HE:=Lib.hid he
 have OK:=Lib.hid ok
 have B:=Lib.hid (Below.refl w.heap.size w)
 clear hq he ok
 go_enter Tryz.func30,Tryz.ntmps30
 go_upto_region 1 with (fail)
 have K1:=Lib.hid (Blk.fresh w #[.slice A1 q.L.length n1,.slice A2 q.R.length n2,.string (qT (2 * q.ch)),.string (qT (2 * q.mi)),.string (qT (2 * q.ga)),.string (qT (2 * q.re))] 32)
 have q1:=below_new w (.cells #[.slice A1 q.L.length n1,.slice A2 q.R.length n2,.string (qT (2 * q.ch)),.string (qT (2 * q.mi)),.string (qT (2 * q.ga)),.string (qT (2 * q.re))] 32)
 replace B:=Lib.hid (B.out.trans (q1.mono B.out.size))
 generalize (w.alloc (.cells #[.slice A1 q.L.length n1,.slice A2 q.R.length n2,.string (qT (2 * q.ch)),.string (qT (2 * q.mi)),.string (qT (2 * q.ga)),.string (qT (2 * q.re))] 32))=W1 at *
 obtain ⟨bq,hbq⟩:∃ b,w.heap.size=b:=⟨_,rfl⟩
 have HBQ:=Lib.hid hbq
 rw [hbq] at K1 ⊢
 clear q1 hbq
 have y0:=K1.out.at_ 0 _ rfl
 have y1:=K1.out.at_ 1 _ rfl
 have y2:=K1.out.at_ 2 _ rfl
 have y3:=K1.out.at_ 3 _ rfl
 have y4:=K1.out.at_ 4 _ rfl
 have y5:=K1.out.at_ 5 _ rfl
 go_upto_region 4 with (first
  | (go_at_call 44; with_reducible refine (check_ok q OK.out _ _ W1 (HE.out.below B.out) (HQ.out.below B.out)).mono ?_; rintro e W2 ⟨rfl,q2⟩)
  | fail "arm")
 clear y0 y1 y2 y3 y4 y5
 replace K1:=Lib.hid (K1.out.below q2)
 replace B:=Lib.hid (B.out.trans (q2.mono B.out.size))
 clear q2
 have y0:=K1.out.at_ 0 _ rfl
 have y1:=K1.out.at_ 1 _ rfl
 have y2:=K1.out.at_ 2 _ rfl
 have y3:=K1.out.at_ 3 _ rfl
 have y4:=K1.out.at_ 4 _ rfl
 have y5:=K1.out.at_ 5 _ rfl
 have BC:=Lib.hid (Below.refl W2.heap.size W2).drew
 have HP:Hid (∀ W,Below W2.heap.size W2 W→_):=Lib.hid (fun W hW=>potentials_any q OK.out _ _ W (HE.out.below (B.out.trans (hW.mono B.out.size))) (HQ.out.below (B.out.trans (hW.mono B.out.size))))
 have HR:Hid (∀ W,Below W2.heap.size W2 W→_):=Lib.hid (fun W hW=>rests_any q OK.out _ _ W (HE.out.below (B.out.trans (hW.mono B.out.size))) (HQ.out.below (B.out.trans (hW.mono B.out.size))))
 go_cut [5,6] from 15 to 18 (fun v5 v6 wc=>∃ op rp oc rc,v5=.slice (some ⟨op,0,none⟩) (q.L.length + 1) (q.L.length + 1)∧v6=.slice (some ⟨oc,0,none⟩) (q.L.length + 1) (q.L.length + 1)∧rp.length=q.L.length + 1∧rc.length=q.L.length + 1 ∧
  TabT wc op rp (q.R.length + 1) (frnT q) 71 28∧TabT wc oc rc (q.R.length + 1) (rstT q) 71 28∧Blk wc bq #[.slice A1 q.L.length n1,.slice A2 q.R.length n2,.string (qT (2 * q.ch)),.string (qT (2 * q.mi)),.string (qT (2 * q.ga)),.string (qT (2 * q.re))] 32∧Below w.heap.size w wc)
 case first =>
  go_region_with (first
   | (go_at_call 69; with_reducible refine (HP.out _ BC.out).mono ?_; rintro e W8 ⟨op,rp,rfl,hrp,htp,hlp,hgp,q8⟩; have TP:=Lib.hid (And.intro hrp htp); have LP:=Lib.hid (And.intro hlp hgp); (try replace TR:=Lib.hid (And.intro TR.out.1 (TR.out.2.below q8))); clear hrp htp hlp hgp; replace BC:=Lib.hid (BC.out.trans (q8.mono BC.out.size)); clear y0 y1 y2 y3 y4 y5 q8; have y0:=(K1.out.below BC.out).at_ 0 _ rfl; have y1:=(K1.out.below BC.out).at_ 1 _ rfl; have y2:=(K1.out.below BC.out).at_ 2 _ rfl; have y3:=(K1.out.below BC.out).at_ 3 _ rfl; have y4:=(K1.out.below BC.out).at_ 4 _ rfl; have y5:=(K1.out.below BC.out).at_ 5 _ rfl)
   | (go_at_call 48; with_reducible refine (HR.out _ BC.out).mono ?_; rintro e W9 ⟨oc,rc,rfl,hrc,htc,hlc,hgc,q9⟩; have TR:=Lib.hid (And.intro hrc htc); have LR:=Lib.hid (And.intro hlc hgc); (try replace TP:=Lib.hid (And.intro TP.out.1 (TP.out.2.below q9))); clear hrc htc hlc hgc; replace BC:=Lib.hid (BC.out.trans (q9.mono BC.out.size)); clear y0 y1 y2 y3 y4 y5 q9; have y0:=(K1.out.below BC.out).at_ 0 _ rfl; have y1:=(K1.out.below BC.out).at_ 1 _ rfl; have y2:=(K1.out.below BC.out).at_ 2 _ rfl; have y3:=(K1.out.below BC.out).at_ 3 _ rfl; have y4:=(K1.out.below BC.out).at_ 4 _ rfl; have y5:=(K1.out.below BC.out).at_ 5 _ rfl)
   | fail "arm")
  all_goals (go_wp2_with (fail); go_meet; exact ⟨op,rp,oc,rc,rfl,rfl,TP.out.1,TR.out.1,TP.out.2,TR.out.2,K1.out.below BC.out,B.out.trans (BC.out.mono B.out.size)⟩)
 case rest =>
 obtain ⟨op,rp,oc,rc,rfl,rfl,hrp,hrc,htp,htr,hk1,hbb⟩:=hcut
 have TP:=Lib.hid htp
 have TR:=Lib.hid htr
 have HRP:=Lib.hid hrp
 have HRC:=Lib.hid hrc
 have KQ:=Lib.hid hk1
 have BW:=Lib.hid hbb
 clear htp htr hrp hrc hk1 hbb HP HR BC B K1 y0 y1 y2 y3 y4 y5
 obtain ⟨N,hN⟩:∃ n,q.L.length + 1=n:=⟨_,rfl⟩
 obtain ⟨M,hM⟩:∃ n,q.R.length + 1=n:=⟨_,rfl⟩
 have HN:=Lib.hid hN
 have HM:=Lib.hid hM
 rw [hN]
 clear hN hM
 go_wp2
 go_loopw [7,21] (fun ov iv wr=>∃ (i:Nat) (vr:Value),vr=ov∧i≤N∧iv=.int .i64 i∧SRow stC 3 56 wr wc.heap.size vr (gpos q (i * M))∧Below wc.heap.size wc wr) (fun _ iv _=>N - (intOf iv).toNat)
 case atStart=>exact ⟨0,_,rfl,Nat.zero_le _,rfl,by rw [Nat.zero_mul]; exact SRow.nil _ _,Below.refl _ _⟩
 case round =>
  obtain ⟨i,vr,rfl,hi,rfl,hrow,b3⟩:=hrel
  have B3:=Lib.hid b3
  have ROW:=Lib.hid hrow
  clear b3 hrow
  by_cases hlt:i < N
  ·have hz1:(i:Int) < (N:Int):=by omega
   have l1:i < rc.length:=by have:=HRC.out; have:=HN.out; omega
   have x1:=(TR.out.below B3.out).cell1 i l1
   rw [HM.out] at x1
   obtain ⟨r2,hr2⟩:∃ r,rc[i]=r:=⟨_,rfl⟩
   rw [hr2] at x1
   have HR2:=Lib.hid hr2
   have HII:Hid (i≤q.L.length):=Lib.hid (by have:=HN.out; omega)
   have hwi:IntKind.i64.wrap ((i:Int) + 1)=(i:Int) + 1:=IntWalk.i64_in _ (by have:=HN.out; omega)
   clear hr2
   go_wp2
   clear x1
   go_loopw [7,29] (fun pv jv wx=>∃ (j:Nat) (ov:Value),ov=pv∧j≤M∧jv=.int .i64 j∧SRow stC 3 56 wx wc.heap.size ov (gpos q (i * M + j))∧Below wc.heap.size wc wx) (fun _ jv _=>M - (intOf jv).toNat)
   case atStart=>exact ⟨0,_,rfl,Nat.zero_le _,rfl,ROW.out,B3.out⟩
   case round =>
    clear B3 ROW
    obtain ⟨j,ov,rfl,hj,rfl,hrow,b3⟩:=hrel
    have B3:=Lib.hid b3
    have ROW:=Lib.hid hrow
    clear b3 hrow
    by_cases hlj:j < M
    case neg =>
     have hz3:¬ (j:Int) < (M:Int):=by omega
     have hz4:decide ((j:Int) < (M:Int))=false:=decide_eq_false hz3
     have R9:Hid (SRow stC 3 56 wr wc.heap.size ov (gpos q ((i + 1) * M))):=Lib.hid (by have h:=ROW.out; rw [Nat.succ_mul]; rw [show j=M by omega] at h; exact h)
     clear ROW
     go_wp2
     exact ⟨⟨i + 1,_,rfl,by omega,by go_num,R9.out,B3.out⟩,by simp [intOf]; omega⟩
    have hz3:(j:Int) < (M:Int):=by omega
    have hjQ:j≤q.R.length:=by have:=HM.out; omega
    have HJJ:=Lib.hid hjQ
    have hwj:IntKind.i64.wrap ((j:Int) + 1)=(j:Int) + 1:=IntWalk.i64_in _ (by have:=HM.out; omega)
    have hidx:i * M + j=idx q i j:=by unfold idx; rw [HM.out]
    rw [hidx] at ROW
    have HIDX:=Lib.hid hidx
    clear hidx
    have l2:i < rp.length:=by have:=HRP.out; have:=HN.out; omega
    have l0:0 < rc.length:=by have:=HRC.out; omega
    have c1:=TP.out.cell1 i l2
    have c2:=TP.out.cell2 i j l2 (by omega)
    have c3:=TR.out.cell1 i l1
    have c4:=TR.out.cell2 i j l1 (by omega)
    have c5:=TR.out.cell1 0 l0
    have c6:=TR.out.cell2 0 0 l0 (by omega)
    have d1:=TP.out.lt1
    have d2:=TP.out.lt2 rp[i] (List.getElem_mem l2)
    have d3:=TR.out.lt1
    have d4:=TR.out.lt2 rc[i] (List.getElem_mem l1)
    have d6:=TR.out.lt2 rc[0] (List.getElem_mem l0)
    rw [HM.out] at c1 c3 c5
    rw [HR2.out] at c3 c4 d4
    generalize rp[i]=r1 at c1 c2 d2
    generalize rc[0]=r3 at c5 c6 d6
    have hb1:=frn_bdQ q OK.out HII.out hjQ
    have hb2:=rst_bdQ q OK.out i j HII.out hjQ
    have HAD:=Lib.hid (rAddQ (frn q i j) (rst q i j) (by omega) (by omega) w HE.out)
    have heq:((qT (frn q i j + rst q i j)).toList == (rstT q 0 0).toList)=decide (frn q i j + rst q i j=rst q 0 0):=by
     rw [ba_beq,decide_eq_decide]
     unfold rstT
     exact ⟨fun h=>qT_inj h,fun h=>by rw [h]⟩
    have hgp:gpos q (idx q i j + 1)=gpos q (idx q i j) ++ (if frn q i j + rst q i j=rst q 0 0 then (gdS q i j).map (fun x=>(x.k,i,j)) else []):=by rw [gpos_next q i j hjQ,gr_good (cst_bdS q OK.out) HII.out hjQ]
    have e4:rstT q i j=qT (rst q i j):=rfl
    have e2:frnT q i j=qT (frn q i j):=rfl
    have k2:wc.cell? ⟨r1,j,none⟩=some (.string (qT (frn q i j))):=c2
    have k4:wc.cell? ⟨r2,j,none⟩=some (.string (qT (rst q i j))):=c4
    have k6:wc.cell? ⟨r3,0,none⟩=some (.string (rstT q 0 0)):=c6
    have C1:=Lib.hid ((B3.out.cell (p:=⟨op,i,none⟩) d1).trans c1)
    have C2:=Lib.hid ((B3.out.cell (p:=⟨r1,j,none⟩) d2).trans k2)
    have C3:=Lib.hid ((B3.out.cell (p:=⟨oc,i,none⟩) d3).trans c3)
    have C4:=Lib.hid ((B3.out.cell (p:=⟨r2,j,none⟩) d4).trans k4)
    have C5:=Lib.hid ((B3.out.cell (p:=⟨oc,0,none⟩) d3).trans c5)
    have C6:=Lib.hid ((B3.out.cell (p:=⟨r3,0,none⟩) d6).trans k6)
    have hsz:=B3.out.size
    have LC1:=Lib.hid (Nat.lt_of_lt_of_le d1 hsz)
    have LC2:=Lib.hid (Nat.lt_of_lt_of_le d2 hsz)
    have LC3:=Lib.hid (Nat.lt_of_lt_of_le d3 hsz)
    have LC4:=Lib.hid (Nat.lt_of_lt_of_le d4 hsz)
    have LC6:=Lib.hid (Nat.lt_of_lt_of_le d6 hsz)
    have t1:(0:Int) < (N:Int):=by omega
    have t2:(0:Int) < (M:Int):=by omega
    have t3:0 < N:=by omega
    have t4:0 < M:=by omega
    replace HAD:Hid (Ret Tryz.prog wr 21 #[.string (qT (frn q i j)),.string (qT (rst q i j))] (.string (qT (frn q i j + rst q i j)))):=Lib.hid (fun W hW=>HAD.out W ((BW.out.trans (B3.out.mono BW.out.size)).trans (hW.mono (Nat.le_trans BW.out.size hsz))))
    clear c1 c2 c3 c4 c5 c6 d1 d2 d3 d4 d6 k2 k4 k6 e2 e4 hb1 hb2 l0 l2 hsz
    generalize rstT q 0 0=tz at *
    go_upto_region 12 with (fail)
    by_cases hg:frn q i j + rst q i j=rst q 0 0
    ·rw [decide_eq_true hg] at heq
     rw [if_pos hg] at hgp
     have HGP:=Lib.hid hgp
     clear hg hgp
     generalize qT (frn q i j + rst q i j)=ts at *
     generalize qT (frn q i j)=tf at *
     generalize qT (rst q i j)=tr at *
     refine wp_tab (.v 32 (.slice (some ⟨op,0,none⟩) N N) :: .v 33 (.int .i64 i) :: .v 34 (.pointer (some ⟨op,i,none⟩)) :: .v 35 (.slice (some ⟨r1,0,none⟩) M M) :: .v 36 (.int .i64 j) :: .v 37 (.pointer (some ⟨r1,j,none⟩)) :: .v 38 (.string tf) :: .v 39 (.slice (some ⟨oc,0,none⟩) N N) :: .v 40 (.int .i64 i) :: .v 41 (.pointer (some ⟨oc,i,none⟩)) :: .v 42 (.slice (some ⟨r2,0,none⟩) M M) :: .v 43 (.int .i64 j) :: .v 44 (.pointer (some ⟨r2,j,none⟩)) :: .v 45 (.string tr) :: .v 46 (.string ts) :: .v 47 (.slice (some ⟨oc,0,none⟩) N N) :: .v 48 (.pointer (some ⟨oc,0,none⟩)) :: .v 49 (.slice (some ⟨r3,0,none⟩) M M) :: .v 50 (.pointer (some ⟨r3,0,none⟩)) :: .v 51 (.string tz) :: .v 52 (.bool false) :: []) [] [] [] [] [] [] [] (by kernel_rfl) (Below.refl _ _) trivial trivial ⟨pu,pu,?_,?_,pu,?_,?_,pu,pu,?_,?_,pu,?_,?_,cl HAD.out,pu,?_,?_,?_,?_,?_,trivial⟩ ?_
     ·intro L a U ho J hn dd KK kk; refine .free rfl ?_; have r32:=J.read 0 rfl (dd.get 0 rfl); have r33:=J.read 1 rfl (dd.get 1 rfl); go_simp; exact kk.out _ _ (J.st 2 rfl rfl)
     ·intro L a U ho J hn dd KK kk; refine .free rfl ?_; have r34:=J.read 2 rfl (dd.get 2 rfl); have e0:=(J.bb.cell (p:=⟨op,i,none⟩) LC1.out).trans C1.out; go_simp; exact kk.out _ _ (J.st 3 rfl rfl)
     ·intro L a U ho J hn dd KK kk; refine .free rfl ?_; have r35:=J.read 3 rfl (dd.get 3 rfl); have r36:=J.read 4 rfl (dd.get 4 rfl); go_simp; exact kk.out _ _ (J.st 5 rfl rfl)
     ·intro L a U ho J hn dd KK kk; refine .free rfl ?_; have r37:=J.read 5 rfl (dd.get 5 rfl); have e0:=(J.bb.cell (p:=⟨r1,j,none⟩) LC2.out).trans C2.out; go_simp; exact kk.out _ _ (J.st 6 rfl rfl)
     ·intro L a U ho J hn dd KK kk; refine .free rfl ?_; have r39:=J.read 7 rfl (dd.get 7 rfl); have r40:=J.read 8 rfl (dd.get 8 rfl); go_simp; exact kk.out _ _ (J.st 9 rfl rfl)
     ·intro L a U ho J hn dd KK kk; refine .free rfl ?_; have r41:=J.read 9 rfl (dd.get 9 rfl); have e0:=(J.bb.cell (p:=⟨oc,i,none⟩) LC3.out).trans C3.out; go_simp; exact kk.out _ _ (J.st 10 rfl rfl)
     ·intro L a U ho J hn dd KK kk; refine .free rfl ?_; have r42:=J.read 10 rfl (dd.get 10 rfl); have r43:=J.read 11 rfl (dd.get 11 rfl); go_simp; exact kk.out _ _ (J.st 12 rfl rfl)
     ·intro L a U ho J hn dd KK kk; refine .free rfl ?_; have r44:=J.read 12 rfl (dd.get 12 rfl); have e0:=(J.bb.cell (p:=⟨r2,j,none⟩) LC4.out).trans C4.out; go_simp; exact kk.out _ _ (J.st 13 rfl rfl)
     ·intro L a U ho J hn dd KK kk; refine .free rfl ?_; have r47:=J.read 15 rfl (dd.get 15 rfl); go_simp; exact kk.out _ _ (J.st 16 rfl rfl)
     ·intro L a U ho J hn dd KK kk; refine .free rfl ?_; have r48:=J.read 16 rfl (dd.get 16 rfl); have e0:=(J.bb.cell (p:=⟨oc,0,none⟩) LC3.out).trans C5.out; go_simp; exact kk.out _ _ (J.st 17 rfl rfl)
     ·intro L a U ho J hn dd KK kk; refine .free rfl ?_; have r49:=J.read 17 rfl (dd.get 17 rfl); go_simp; exact kk.out _ _ (J.st 18 rfl rfl)
     ·intro L a U ho J hn dd KK kk; refine .free rfl ?_; have r50:=J.read 18 rfl (dd.get 18 rfl); have e0:=(J.bb.cell (p:=⟨r3,0,none⟩) LC6.out).trans C6.out; go_simp; exact kk.out _ _ (J.st 19 rfl rfl)
     ·intro L a U ho J hn dd KK kk; refine .free rfl ?_; have r46:=J.read 14 rfl (dd.get 14 rfl); have r51:=J.read 19 rfl (dd.get 19 rfl); go_simp; exact kk.out _ _ (J.st 20 rfl rfl)
     rintro σ W5 _ _ _ _ q5
     simp only [slotsOf,finX,nval,nvalN,nvalA,Nat.reduceBEq,cond_true,cond_false,putAll,Act.put,List.setIfInBounds_toArray,List.set_cons_succ,List.set_cons_zero]
     clear C1 C2 C3 C4 C5 C6 LC1 LC2 LC3 LC4 LC6 HAD heq t1 t2 t3 t4
     replace ROW:=Lib.hid (ROW.out.below q5)
     replace B3:=Lib.hid (B3.out.trans (q5.mono B3.out.size))
     have kq5:=KQ.out.below B3.out
     have y0:=kq5.at_ 0 _ rfl
     have y1:=kq5.at_ 1 _ rfl
     have y2:=kq5.at_ 2 _ rfl
     have y3:=kq5.at_ 3 _ rfl
     have y4:=kq5.at_ 4 _ rfl
     have y5:=kq5.at_ 5 _ rfl
     clear q5 kq5
     go_wp2_with (first
      | (go_at_call 50; refine (good_make q _ _ _ _ _ i j _).mono ?_; rintro e W6 ⟨rfl,q6,hs6,k1,k2,k3,k4⟩)
      | fail "arm")
     clear y0 y1 y2 y3 y4 y5
     have b6:=B3.out.trans (q6.mono B3.out.size)
     have bw6:=BW.out.trans (b6.mono BW.out.size)
     obtain ⟨bw,hbw⟩:∃ b,W5.heap.size=b:=⟨_,rfl⟩
     rw [hbw] at k1 k2 k3 k4
     rw [hbw]
     rw [← (show rc.length=N from by rw [HRC.out,HN.out])] at k2
     have hstg:StG w bw (bw + 1) (bw + 2) (bw + 3) oc rc q (.slice A1 q.L.length n1) (.slice A2 q.R.length n2) i j W6:=⟨KeptC.of_bb bw6,by have:=BW.out.size; have:=B3.out.size; omega,k1,k2,k3,k4,TR.out.below b6⟩
     have hlen:(gpos q (idx q i j)).length≤4000:=by
      have h1:=gpos_len q (idx q i j)
      have h2:=idx_lt q HII.out HJJ.out
      have h3:potE q≤7 * 7:=Nat.mul_le_mul (by omega) (by omega)
      omega
     refine (appseq_any q OK.out _ _ i j HII.out HJJ.out w HE.out HQ.out bw oc rc HRC.out W6 hstg wc.heap.size BW.out.size b6.size _ _ (ROW.out.below q6) hlen).mono ?_
     rintro e W7 ⟨⟨v7,rfl,hrow7⟩,q7⟩
     rw [← HGP.out] at hrow7
     have b7:=b6.trans q7
     have R7:Hid (SRow stC 3 56 W7 wc.heap.size v7 (gpos q (i * M + (j + 1)))):=Lib.hid (by rw [← Nat.add_assoc,HIDX.out]; exact hrow7)
     have B7:=Lib.hid b7
     clear q6 k1 k2 k3 k4 b6 bw6 hstg hlen hrow7 q7 b7 hs6 hbw
     go_wp2
     exact ⟨⟨j + 1,_,rfl,by omega,by go_num,R7.out,B7.out⟩,by simp [intOf]; omega⟩
    ·rw [decide_eq_false hg] at heq
     rw [if_neg hg,List.append_nil] at hgp
     have HGP:=Lib.hid hgp
     clear hg hgp
     generalize qT (frn q i j + rst q i j)=ts at *
     generalize qT (frn q i j)=tf at *
     generalize qT (rst q i j)=tr at *
     refine wp_tab (.v 32 (.slice (some ⟨op,0,none⟩) N N) :: .v 33 (.int .i64 i) :: .v 34 (.pointer (some ⟨op,i,none⟩)) :: .v 35 (.slice (some ⟨r1,0,none⟩) M M) :: .v 36 (.int .i64 j) :: .v 37 (.pointer (some ⟨r1,j,none⟩)) :: .v 38 (.string tf) :: .v 39 (.slice (some ⟨oc,0,none⟩) N N) :: .v 40 (.int .i64 i) :: .v 41 (.pointer (some ⟨oc,i,none⟩)) :: .v 42 (.slice (some ⟨r2,0,none⟩) M M) :: .v 43 (.int .i64 j) :: .v 44 (.pointer (some ⟨r2,j,none⟩)) :: .v 45 (.string tr) :: .v 46 (.string ts) :: .v 47 (.slice (some ⟨oc,0,none⟩) N N) :: .v 48 (.pointer (some ⟨oc,0,none⟩)) :: .v 49 (.slice (some ⟨r3,0,none⟩) M M) :: .v 50 (.pointer (some ⟨r3,0,none⟩)) :: .v 51 (.string tz) :: .v 52 (.bool true) :: []) [] [] [] [] [] [] [] (by kernel_rfl) (Below.refl _ _) trivial trivial ⟨pu,pu,?_,?_,pu,?_,?_,pu,pu,?_,?_,pu,?_,?_,cl HAD.out,pu,?_,?_,?_,?_,?_,trivial⟩ ?_
     ·intro L a U ho J hn dd KK kk; refine .free rfl ?_; have r32:=J.read 0 rfl (dd.get 0 rfl); have r33:=J.read 1 rfl (dd.get 1 rfl); go_simp; exact kk.out _ _ (J.st 2 rfl rfl)
     ·intro L a U ho J hn dd KK kk; refine .free rfl ?_; have r34:=J.read 2 rfl (dd.get 2 rfl); have e0:=(J.bb.cell (p:=⟨op,i,none⟩) LC1.out).trans C1.out; go_simp; exact kk.out _ _ (J.st 3 rfl rfl)
     ·intro L a U ho J hn dd KK kk; refine .free rfl ?_; have r35:=J.read 3 rfl (dd.get 3 rfl); have r36:=J.read 4 rfl (dd.get 4 rfl); go_simp; exact kk.out _ _ (J.st 5 rfl rfl)
     ·intro L a U ho J hn dd KK kk; refine .free rfl ?_; have r37:=J.read 5 rfl (dd.get 5 rfl); have e0:=(J.bb.cell (p:=⟨r1,j,none⟩) LC2.out).trans C2.out; go_simp; exact kk.out _ _ (J.st 6 rfl rfl)
     ·intro L a U ho J hn dd KK kk; refine .free rfl ?_; have r39:=J.read 7 rfl (dd.get 7 rfl); have r40:=J.read 8 rfl (dd.get 8 rfl); go_simp; exact kk.out _ _ (J.st 9 rfl rfl)
     ·intro L a U ho J hn dd KK kk; refine .free rfl ?_; have r41:=J.read 9 rfl (dd.get 9 rfl); have e0:=(J.bb.cell (p:=⟨oc,i,none⟩) LC3.out).trans C3.out; go_simp; exact kk.out _ _ (J.st 10 rfl rfl)
     ·intro L a U ho J hn dd KK kk; refine .free rfl ?_; have r42:=J.read 10 rfl (dd.get 10 rfl); have r43:=J.read 11 rfl (dd.get 11 rfl); go_simp; exact kk.out _ _ (J.st 12 rfl rfl)
     ·intro L a U ho J hn dd KK kk; refine .free rfl ?_; have r44:=J.read 12 rfl (dd.get 12 rfl); have e0:=(J.bb.cell (p:=⟨r2,j,none⟩) LC4.out).trans C4.out; go_simp; exact kk.out _ _ (J.st 13 rfl rfl)
     ·intro L a U ho J hn dd KK kk; refine .free rfl ?_; have r47:=J.read 15 rfl (dd.get 15 rfl); go_simp; exact kk.out _ _ (J.st 16 rfl rfl)
     ·intro L a U ho J hn dd KK kk; refine .free rfl ?_; have r48:=J.read 16 rfl (dd.get 16 rfl); have e0:=(J.bb.cell (p:=⟨oc,0,none⟩) LC3.out).trans C5.out; go_simp; exact kk.out _ _ (J.st 17 rfl rfl)
     ·intro L a U ho J hn dd KK kk; refine .free rfl ?_; have r49:=J.read 17 rfl (dd.get 17 rfl); go_simp; exact kk.out _ _ (J.st 18 rfl rfl)
     ·intro L a U ho J hn dd KK kk; refine .free rfl ?_; have r50:=J.read 18 rfl (dd.get 18 rfl); have e0:=(J.bb.cell (p:=⟨r3,0,none⟩) LC6.out).trans C6.out; go_simp; exact kk.out _ _ (J.st 19 rfl rfl)
     ·intro L a U ho J hn dd KK kk; refine .free rfl ?_; have r46:=J.read 14 rfl (dd.get 14 rfl); have r51:=J.read 19 rfl (dd.get 19 rfl); go_simp; exact kk.out _ _ (J.st 20 rfl rfl)
     rintro σ W5 _ _ _ _ q5
     simp only [slotsOf,finX,nval,nvalN,nvalA,Nat.reduceBEq,cond_true,cond_false,putAll,Act.put,List.setIfInBounds_toArray,List.set_cons_succ,List.set_cons_zero]
     clear C1 C2 C3 C4 C5 C6 LC1 LC2 LC3 LC4 LC6 HAD heq t1 t2 t3 t4
     have R7:Hid (SRow stC 3 56 W5 wc.heap.size ov (gpos q (i * M + (j + 1)))):=Lib.hid (by rw [← Nat.add_assoc,HIDX.out,HGP.out]; exact ROW.out.below q5)
     have B7:=Lib.hid (B3.out.trans (q5.mono B3.out.size))
     clear q5
     go_wp2
     exact ⟨⟨j + 1,_,rfl,by omega,by go_num,R7.out,B7.out⟩,by simp [intOf]; omega⟩
  ·have hz3:¬ (i:Int) < (N:Int):=by omega
   have hz4:decide ((i:Int) < (N:Int))=false:=decide_eq_false hz3
   have R9:Hid (SRow stC 3 56 wr w.heap.size vr (gpos q (potE q))):=Lib.hid (by
    have h:=ROW.out
    rw [show i * M=potE q by rw [show i=N by omega,← HN.out,← HM.out]; rfl] at h
    exact h.mono BW.out.size)
   go_wp2
   go_ret2
   exact ⟨_,rfl,R9.out,BW.out.trans (B3.out.mono BW.out.size)⟩

end Go.Proofs.YthhkmihjnnfpgaaGreatDoor
