/- Correlate: potentials. -/
import Derived.Test.YthhkmihjnnfpgaaGreatDoorCorR
/- Potentials over lists of steps. -/
namespace Go.Proofs.YthhkmihjnnfpgaaGreatDoor
set_option linter.all false
open Go.RowKit

def posS (q:CQ) (i j:Nat) (t:Nat→Nat→Option Int) (l:List (SK q i j)):Nat→Nat→Option Int:=l.foldl (fun t x=>stepT q i j t x.k) t
theorem posS_snoc (q:CQ) (i j:Nat) (t:Nat→Nat→Option Int) (l:List (SK q i j)) (x:SK q i j):posS q i j t (l ++ [x])=stepT q i j (posS q i j t l) x.k:=by
 unfold posS
 rw [List.foldl_append]; rfl
theorem fold_pos (q:CQ) (i j:Nat):∀ (l:List Nat) (t:Nat→Nat→Option Int),(∀ k ∈ l,k ∈ kinds)→(l.filterMap (mkSK q i j)).foldl (fun t x=>stepT q i j t x.k) t=l.foldl (stepT q i j) t
 | [],_,_=>rfl
 | k :: l,t,h=>by
  have hk:=of_kinds (h k List.mem_cons_self)
  have ih:=fun t=>fold_pos q i j l t (fun k' hk'=>h k' (List.mem_cons_of_mem _ hk'))
  by_cases ho:okS q k i j
  ·have e:mkSK q i j k=some ⟨k,hk,ho⟩:=dif_pos ⟨hk,ho⟩
   rw [List.filterMap_cons_some e,List.foldl_cons,List.foldl_cons]
   exact ih _
  ·have e:mkSK q i j k=none:=dif_neg (fun h=>ho h.2)
   rw [List.filterMap_cons_none e,List.foldl_cons,show stepT q i j t k=t from if_neg ho]
   exact ih _
theorem posS_up (q:CQ) (i j:Nat) (t:Nat→Nat→Option Int):posS q i j t (upS q i j 5)=posTk q i j t 5 :=
 fold_pos q i j (kinds.take 5) t (fun k hk=>List.mem_of_mem_take hk)
theorem posS_inv {q:CQ} {b i j:Nat} (hc:∀ k i j,k ∈ kinds→0≤cst q k i j∧cst q k i j≤b):∀ (l:List (SK q i j)) (t:Nat→Nat→Option Int),(t i j).isSome=true→InvP q b t→InvP q b (posS q i j t l)∧posS q i j t l i j=t i j
 | [],_,_,h=>⟨h,rfl⟩
 | x :: l,t,hs,h=>by
  have hk:=kinds_of x.h1
  have e:stepT q i j t x.k i j=t i j:=stepT_ne (by
   rintro ⟨h1,h2⟩
   have:=idx_nx (q:=q) (i:=i) (j:=j) hk
   rw [← h1,← h2] at this
   exact absurd this (Nat.lt_irrefl _))
  obtain ⟨h1,h2⟩:=posS_inv hc l (stepT q i j t x.k) (by rw [e]; exact hs) (stepT_inv hc hk hs h)
  exact ⟨h1,h2.trans e⟩
theorem stepT_tab (q:CQ) (i j:Nat) (t:Nat→Nat→Option Int) (x:SK q i j) (u:Int) (hu:t i j=some u) (p r:Nat) :
  (if p=nxI x.k i∧r=nxJ x.k j then optT (imp (t (nxI x.k i) (nxJ x.k j)) (u + cst q x.k i j)) else optT (t p r))=optT (stepT q i j t x.k p r):=by
 unfold stepT
 rw [if_pos x.h2,hu]
 unfold updO
 by_cases h:p=nxI x.k i∧r=nxJ x.k j
 ·rw [if_pos h,if_pos h]; rfl
 ·rw [if_neg h,if_neg h]
theorem potA_zero (q:CQ) (p r:Nat):potA q 0 p r=if p=0∧r=0 then some 0 else none:=rfl
theorem potA_bd (q:CQ) (ok:OkQ q) (p:Nat) (hp:p≤potE q):InvP q 60000 (potA q p):=(potP q 60000 (cst_bdS q ok) p hp).inv
theorem inv_bd {q:CQ} (ok:OkQ q) {t:Nat→Nat→Option Int} (h:InvP q 60000 t) (x y:Nat) (v:Int) (e:t x y=some v):0≤v∧v≤720000:=by
 obtain ⟨h1,h2,h3,h4,_⟩:=h x y v e
 have:=ok.hl
 have:=ok.hr
 have h5:(x + y) * 60000≤12 * 60000:=Nat.mul_le_mul_right _ (by omega)
 omega
structure StP (w0:World) (bq bo ob:Nat) (rb:List Nat) (q:CQ) (sl sr:Value) (c:Nat→Nat→ByteArray) (ds:List Deferred) (W:World):Prop where
 bb:Below w0.heap.size w0 W
 kq:Blk W bq #[sl,sr,.string (qT (2 * q.ch)),.string (qT (2 * q.mi)),.string (qT (2 * q.ga)),.string (qT (2 * q.re))] 32
 ko:Blk W bo #[.slice (some ⟨ob,0,none⟩) rb.length rb.length] 99
 tab:TabT W ob rb (q.R.length + 1) c 71 28
 mrk:Marks w0.heap.size W ds
 s1:w0.heap.size≤bq
 s2:bq < ob∧ob < bo
 s3:∀ g ∈ rb,bq < g∧g < bo
section
variable {w0 W W':World} {bq bo ob:Nat} {rb:List Nat} {q:CQ} {sl sr:Value} {c:Nat→Nat→ByteArray} {ds:List Deferred}
theorem StP.below (h:StP w0 bq bo ob rb q sl sr c ds W) (k:Below W.heap.size W W'):StP w0 bq bo ob rb q sl sr c ds W' :=
 ⟨h.bb.trans (k.mono h.bb.size),h.kq.below k,h.ko.below k,h.tab.below k,h.mrk.kept (keepsFrom_below k),h.s1,h.s2,h.s3⟩
theorem StP.wrote {g:Nat} {c':Nat→Nat→ByteArray} (h:StP w0 bq bo ob rb q sl sr c ds W) (hg:g ∈ rb) (k:Wrote g W W') (t:TabT W' ob rb (q.R.length + 1) c' 71 28):StP w0 bq bo ob rb q sl sr c' ds W':=by
 have h3:=h.s3 g hg
 have h1:=h.s1
 exact ⟨h.bb.trans (k.below.mono (by omega)),h.kq.keptC k.kept (by omega),h.ko.keptC k.kept (by omega),t,h.mrk.kept (KeepsFrom.mono k.keeps (Nat.zero_le _)),h.s1,h.s2,h.s3⟩
theorem StP.tabC {c':Nat→Nat→ByteArray} (h:StP w0 bq bo ob rb q sl sr c ds W) (e:∀ p r,p < rb.length→r < q.R.length + 1→c p r=c' p r):StP w0 bq bo ob rb q sl sr c' ds W :=
 ⟨h.bb,h.kq,h.ko,h.tab.congr (fun p r h1 h2=>by rw [e p r h1 h2]),h.mrk,h.s1,h.s2,h.s3⟩
theorem StP.marks {ds':List Deferred} (h:StP w0 bq bo ob rb q sl sr c ds W) (m:Marks w0.heap.size W ds'):StP w0 bq bo ob rb q sl sr c ds' W:=⟨h.bb,h.kq,h.ko,h.tab,m,h.s1,h.s2,h.s3⟩
theorem StP.size (h:StP w0 bq bo ob rb q sl sr c ds W):w0.heap.size≤W.heap.size:=h.bb.size
theorem StP.own {β:Type} {B:Nat} {WB:World} (hB:WB.heap.size=B) (hw:w0.heap.size≤B) (hm:Marks w0.heap.size WB ds) (f:β→Nat→Nat→ByteArray):OwnFrom B (fun (s:β) V=>StP w0 bq bo ob rb q sl sr (f s) ds V∧KeepsLow B WB V):=fun s V V' row h hg hr=>by
 have hk:=KeepsLow.own (β:=β) B WB s V V' row h.2 hg hr
 have hb:=ownFrom_bb (β:=β) hw s V V' row ⟨h.1.bb.size,h.1.bb⟩ hg hr
 have hc:=ownFrom_cells (I:=fun (_:Unit) X=>Blk X bq #[sl,sr,.string (qT (2 * q.ch)),.string (qT (2 * q.mi)),.string (qT (2 * q.ga)),.string (qT (2 * q.re))] 32 ∧ Blk X bo #[.slice (some ⟨ob,0,none⟩) rb.length rb.length] 99 ∧ TabT X ob rb (q.R.length + 1) (f s) 71 28)
  (fun _ X X' h k _=>⟨h.1.keptC k trivial,h.2.1.keptC k trivial,h.2.2.keptC k trivial (fun _ _=>trivial)⟩) B () V V' row ⟨h.1.kq,h.1.ko,h.1.tab⟩ hg hr
 exact ⟨⟨hb.2,hc.1,hc.2.1,hc.2.2,Marks.low (Nat.le_of_eq hB) hk hm,h.1.s1,h.1.s2,h.1.s3⟩,hk⟩
end
noncomputable def potT (q:CQ) (t:Nat→Nat→Option Int) (p r:Nat):ByteArray:=optT (t p r)
noncomputable def frnT (q:CQ) (i j:Nat):ByteArray:=qT (frn q i j)

end Go.Proofs.YthhkmihjnnfpgaaGreatDoor

/- potentials: the least costs up to each position. -/
namespace Go.Proofs.YthhkmihjnnfpgaaGreatDoor
set_option linter.all false
open Go.RowKit

attribute [local go_sem] Oper.semAt_some

set_option maxRecDepth 100000 in
set_option maxHeartbeats 8000000 in
theorem potentials_any (q:CQ) (ok:OkQ q) (sl sr:Value) (w0:World) (he:Env w0) (hq:QAt w0 sl sr q) :
  Calls Tryz.prog 69 #[.agg #[sl,sr,.string (qT (2 * q.ch)),.string (qT (2 * q.mi)),.string (qT (2 * q.ga)),.string (qT (2 * q.re))]] w0 fun e w'=>∃ ob rb,e=.returned (.slice (some ⟨ob,0,none⟩) (q.L.length + 1) (q.L.length + 1))∧rb.length=q.L.length + 1 ∧
   TabT w' ob rb (q.R.length + 1) (frnT q) 71 28 ∧ w0.heap.size≤ob∧(∀ g ∈ rb,w0.heap.size≤g)∧Below w0.heap.size w0 w':=by
 have hll:=ok.hl
 have hrr:=ok.hr
 have HQ:=Lib.hid hq
 obtain ⟨A1,n1,rfl,_⟩:=hq.l
 obtain ⟨A2,n2,rfl,_⟩:=hq.r
 have HE:=Lib.hid he
 have OK:=Lib.hid ok
 clear hq he ok
 refine callsIn_wide (n:=9) |>.1 ?_
 refine callsIn_of_wp_marks Tryz.func69 rfl trivial ?_ rfl
 simp only [Tryz.ntmps69, List.size_toArray,List.length_cons,List.length_nil,Nat.reduceAdd,Nat.reduceSub,Array.replicate_succ,Array.replicate_zero,List.push_toArray,List.append_toArray,List.nil_append,List.cons_append]
 refine wpIn_wide.2 ?_
 go_upto_region 1 with (fail)
 have kq:=Blk.fresh w0 #[.slice A1 q.L.length n1,.slice A2 q.R.length n2,.string (qT (2 * q.ch)),.string (qT (2 * q.mi)),.string (qT (2 * q.ga)),.string (qT (2 * q.re))] 32
 have qq:=below_new w0 (.cells #[.slice A1 q.L.length n1,.slice A2 q.R.length n2,.string (qT (2 * q.ch)),.string (qT (2 * q.mi)),.string (qT (2 * q.ga)),.string (qT (2 * q.re))] 32)
 have hsz:(w0.alloc (.cells #[.slice A1 q.L.length n1,.slice A2 q.R.length n2,.string (qT (2 * q.ch)),.string (qT (2 * q.mi)),.string (qT (2 * q.ga)),.string (qT (2 * q.re))] 32)).heap.size=w0.heap.size + 1:=by simp
 generalize (w0.alloc (.cells #[.slice A1 q.L.length n1,.slice A2 q.R.length n2,.string (qT (2 * q.ch)),.string (qT (2 * q.mi)),.string (qT (2 * q.ga)),.string (qT (2 * q.re))] 32))=W1 at *
 obtain ⟨bq,hbq⟩:∃ b,w0.heap.size=b:=⟨_,rfl⟩
 rw [hbq] at kq ⊢
 have KQ:=Lib.hid kq
 have Q1:=Lib.hid qq
 have HBQ:=Lib.hid hbq
 have HSZ:=Lib.hid hsz
 have y0:=kq.at_ 0 _ rfl
 have y1:=kq.at_ 1 _ rfl
 have y2:=kq.at_ 2 _ rfl
 have y3:=kq.at_ 3 _ rfl
 have y4:=kq.at_ 4 _ rfl
 have y5:=kq.at_ 5 _ rfl
 have HQ1:=Lib.hid (HQ.out.below qq)
 clear kq qq hbq hsz
 go_upto_region 2 with (first
  | (go_at_call 77; with_reducible refine (table_any q OK.out _ _ _ HQ1.out).mono ?_; rintro e W2 ⟨ob,rb,rfl,hrb,htab,hlo,hlr,q2⟩)
  | fail "arm")
 clear y0 y1 y2 y3 y4 y5
 have hs3:∀ g ∈ rb,bq < g∧g < W2.heap.size:=fun g hg=>by
  have h1:=hlr g hg
  have h2:=htab.lt2 g hg
  have h3:=HSZ.out
  have h4:=HBQ.out
  omega
 have hs2:bq < ob∧ob < W2.heap.size:=by
  have h2:=htab.lt1
  have h3:=HSZ.out
  have h4:=HBQ.out
  omega
 have kq2:=KQ.out.below q2
 have bb2:=Q1.out.trans (q2.mono Q1.out.size)
 have ko:=Blk.fresh W2 #[.slice (some ⟨ob,0,none⟩) (q.L.length + 1) (q.L.length + 1)] 99
 have q3:=below_new W2 (.cells #[.slice (some ⟨ob,0,none⟩) (q.L.length + 1) (q.L.length + 1)] 99)
 have kq3:=kq2.below q3
 have bb3:=bb2.trans (q3.mono bb2.size)
 have tab3:=htab.below q3
 generalize (W2.alloc (.cells #[.slice (some ⟨ob,0,none⟩) (q.L.length + 1) (q.L.length + 1)] 99))=W3 at *
 obtain ⟨bo,hbo⟩:∃ b,W2.heap.size=b:=⟨_,rfl⟩
 rw [hbo] at hs3 hs2 ko ⊢
 have y0:=ko.at_ 0 _ rfl
 rw [← hrb] at ko
 have l0:0 < rb.length:=by omega
 have x1:=tab3.cell1 0 l0
 have x2:=tab3.cell2 0 0 l0 (by omega)
 have x3:=tab3.free 0 0 l0
 have HSET:Hid (StP w0 bq bo ob rb q (.slice A1 q.L.length n1) (.slice A2 q.R.length n2) (potT q (potA q 0)) [] (W3.setCell ⟨rb[0],0,none⟩ (.string ⟨#[48]⟩))):=Lib.hid (by
  have s:StP w0 bq bo ob rb q (.slice A1 q.L.length n1) (.slice A2 q.R.length n2) (fun _ _=>⟨#[]⟩) [] W3:=⟨bb3,kq3,ko,tab3,trivial,Nat.le_of_eq HBQ.out,hs2,hs3⟩
  have k:=Wrote.set (tab3.row 0 l0) 0 (.string ⟨#[48]⟩)
  refine s.wrote (List.getElem_mem l0) k ((tab3.set 0 0 l0 (.string ⟨#[48]⟩)).congr (fun p r _ _=>?_))
  unfold updV potT
  rw [potA_zero]
  by_cases h:p=0∧r=0
  ·rw [if_pos h,if_pos h]
   show Value.string _=Value.string (qT 0)
   rw [qT_zero]
  ·rw [if_neg h,if_neg h]; rfl)
 have HRB:=Lib.hid hrb
 have t1:(0:Int) < (q.L.length:Int) + 1:=by omega
 have t2:(0:Int) < (q.R.length:Int) + 1:=by omega
 obtain ⟨N,hN⟩:∃ n,q.L.length + 1=n:=⟨_,rfl⟩
 obtain ⟨M,hM⟩:∃ n,q.R.length + 1=n:=⟨_,rfl⟩
 have HN:=Lib.hid hN
 have HM:=Lib.hid hM
 have t1:(0:Int) < (N:Int):=by omega
 have t2:(0:Int) < (M:Int):=by omega
 rw [hN] at y0 
 rw [hM] at x1
 rw [hN]
 clear htab hlo hlr q2 kq2 bb2 q3 KQ Q1 HQ1 hbo kq3 bb3 tab3 ko hs2 hs3 hrb hN hM
 generalize rb[0]=r0 at *
 clear l0
 go_upto_region 3 with (fail)
 clear x1 x2 x3
 generalize (W3.setCell ⟨r0,0,none⟩ (.string ⟨#[48]⟩))=W4 at *
 clear y0
 have y0:=HSET.out.ko.at_ 0 _ rfl
 rw [HRB.out,HN.out] at y0
 go_wp2
 clear y0
 refine wp_loop_ghost_k (fun k a' wr=>∃ (i:Nat) (ds:List Deferred),(∃ v:Nat→Value,a'={ tmps:=(.agg #[.slice A1 q.L.length n1,.slice A2 q.R.length n2,.string (qT (2 * q.ch)),.string (qT (2 * q.mi)),.string (qT (2 * q.ga)),.string (qT (2 * q.re))] :: .pointer (some ⟨bq,0,none⟩) :: .slice none 0 0 :: .pointer (some ⟨bo,0,none⟩) :: v 4 :: v 5 :: v 6 :: v 7 :: v 8 :: v 9 :: v 10 :: v 11 :: v 12 :: v 13 :: v 14 :: v 15 :: .slice (some ⟨ob,0,none⟩) N N :: .int .i64 (N:Nat) :: .int .i64 (i:Nat) :: v 19 :: v 20 :: v 21 :: v 22 :: v 23 :: v 24 :: v 25 :: v 26 :: v 27 :: v 28 :: v 29 :: v 30 :: v 31 :: v 32 :: v 33 :: v 34 :: v 35 :: v 36 :: v 37 :: v 38 :: v 39 :: v 40 :: v 41 :: v 42 :: v 43 :: v 44 :: v 45 :: v 46 :: v 47 :: v 48 :: v 49 :: v 50 :: v 51 :: v 52 :: v 53 :: v 54 :: v 55 :: []).toArray,defers:=ds })∧i≤N∧k + i=N∧StP w0 bq bo ob rb q (.slice A1 q.L.length n1) (.slice A2 q.R.length n2) (potT q (potA q (i * M))) ds wr) N ?_ ?_
 ·exact ⟨0,[],ex_frame (by kernel_rfl),Nat.zero_le _,by omega,by rw [Nat.zero_mul]; exact HSET.out⟩
 clear HSET
 rintro k a' wr ⟨i,ds,⟨v,rfl⟩,hiN,hk,hS⟩ J K hJ hK
 have S:=Lib.hid hS
 clear hS
 by_cases hk0:i=N
 ·have hiN2:¬ (i:Int) < (N:Int):=by omega
  have hiN3:decide ((i:Int) < (N:Int))=false:=decide_eq_false hiN2
  have c0:=S.out.ko.at_ 0 _ rfl
  have HIN:=Lib.hid hk0
  clear hJ hK hk0 hk
  go_wp2
  refine leaves_marks ds _ S.out.mrk (fun w' hm=>⟨_,results_tmp rfl _ _ _,ob,(by rw [← HRB.out]; rfl),rb,HRB.out,?_⟩)
  have kc:KeptC (fun _ _=>True) wr w':=fun g cs t fz _ e=>hm.cells g cs t fz e
  have hb:=HBQ.out
  refine ⟨(S.out.tab.congr (fun p r hp hr=>?_)).keptC kc trivial (fun _ _=>trivial),?_,fun g hg=>?_,S.out.bb.trans hm.below⟩
  ·have e:potA q (i * M) p r=some (frn q p r):=by
    rw [HIN.out,← HN.out,← HM.out]
    exact frn_some (cst_bdS q OK.out) (by have:=HRB.out; omega) (by omega)
   unfold potT
   rw [e]; rfl
  ·have:=S.out.s2
   omega
  ·have:=S.out.s3 g hg
   omega
 ·have hlt:i < N:=by omega
  have hi:i≤q.L.length:=by have:=HN.out; omega
  have hz1:(i:Int) < (N:Int):=by omega
  have hz2:decide ((i:Int) < (N:Int))=true:=decide_eq_true hz1
  clear hk0
  go_upto_region 6 with (fail)
  have kbi:=Blk.fresh wr #[.int .i64 (i:Int)] 3
  have q6:=below_new wr (.cells #[.int .i64 (i:Int)] 3)
  have hbi:bo < wr.heap.size:=S.out.ko.lt
  replace S:=Lib.hid (S.out.below q6)
  clear q6
  generalize (wr.alloc (.cells #[.int .i64 (i:Int)] 3))=W6 at *
  obtain ⟨bi,hbie⟩:∃ b,wr.heap.size=b:=⟨_,rfl⟩
  rw [hbie] at kbi hbi ⊢
  clear hbie
  have l1:i < rb.length:=by rw [HRB.out]; omega
  have y0:=S.out.ko.at_ 0 _ rfl
  rw [HRB.out,HN.out] at y0
  have y1:=kbi.at_ 0 _ rfl
  have x1:=S.out.tab.cell1 i l1
  rw [HM.out] at x1
  have hri:∃ r,rb[i]=r:=⟨_,rfl⟩
  obtain ⟨r1,hr1⟩:=hri
  have HR1:Hid (∀ h:i < rb.length,rb[i]=r1):=Lib.hid (fun _=>hr1)
  rw [hr1] at x1
  have KBI:=Lib.hid kbi
  clear kbi hr1 l1
  go_wp2
  clear y0 y1 x1
  refine wp_loop_ghost_k (fun m a' W=>∃ (j:Nat) (ds:List Deferred),(∃ v:Nat→Value,a'={ tmps:=(.agg #[.slice A1 q.L.length n1,.slice A2 q.R.length n2,.string (qT (2 * q.ch)),.string (qT (2 * q.mi)),.string (qT (2 * q.ga)),.string (qT (2 * q.re))] :: .pointer (some ⟨bq,0,none⟩) :: .slice none 0 0 :: .pointer (some ⟨bo,0,none⟩) :: .pointer (some ⟨bi,0,none⟩) :: v 5 :: v 6 :: v 7 :: v 8 :: v 9 :: v 10 :: v 11 :: v 12 :: v 13 :: v 14 :: v 15 :: .slice (some ⟨ob,0,none⟩) N N :: .int .i64 (N:Nat) :: .int .i64 (i:Nat) :: v 19 :: v 20 :: v 21 :: v 22 :: v 23 :: .slice (some ⟨r1,0,none⟩) M M :: .int .i64 (M:Nat) :: .int .i64 (j:Nat) :: v 27 :: v 28 :: v 29 :: v 30 :: v 31 :: v 32 :: v 33 :: v 34 :: v 35 :: v 36 :: v 37 :: v 38 :: v 39 :: v 40 :: v 41 :: v 42 :: v 43 :: v 44 :: v 45 :: v 46 :: v 47 :: v 48 :: v 49 :: v 50 :: v 51 :: v 52 :: v 53 :: v 54 :: v 55 :: []).toArray,defers:=ds })∧j≤M∧m + j=M∧(StP w0 bq bo ob rb q (.slice A1 q.L.length n1) (.slice A2 q.R.length n2) (potT q (potA q (i * M + j))) ds W∧Blk W bi #[.int .i64 i] 3)) M ?_ ?_
  ·exact ⟨0,ds,ex_frame (by kernel_rfl),Nat.zero_le _,by omega,S.out,KBI.out⟩
  clear S KBI v
  clear ds
  rintro m a' W ⟨j,ds,⟨v,rfl⟩,hjM,hm,hS,hbi2⟩ J2 K2 hJ2 hK2
  have S:=Lib.hid hS
  have KI:=Lib.hid hbi2
  clear hS hbi2
  by_cases hm0:j=M
  ·have hz3:¬ (j:Int) < (M:Int):=by omega
   have hz4:decide ((j:Int) < (M:Int))=false:=decide_eq_false hz3
   have HJM:=Lib.hid hm0
   clear hJ2 hK2 hm0 hm
   have hwi:IntKind.i64.wrap ((i:Int) + 1)=(i:Int) + 1:=IntWalk.i64_in _ (by have:=HN.out; omega)
   go_wp2
   exact ⟨k - 1,by omega,hJ _ _ _ ⟨i + 1,ds,ex_frame (by kernel_rfl),by omega,by omega,by rw [Nat.succ_mul,← HJM.out]; rw [HJM.out]; have:=S.out; rw [HJM.out] at this; exact this⟩⟩
  ·have hjlt:j < M:=by omega
   have hj:j≤q.R.length:=by have:=HM.out; omega
   have hz3:(j:Int) < (M:Int):=by omega
   have hz4:decide ((j:Int) < (M:Int))=true:=decide_eq_true hz3
   have hidx:Hid (i * M + j=idx q i j):=Lib.hid (by unfold idx; rw [HM.out])
   rw [hidx.out] at S
   clear hm0
   go_upto_region 9 with (fail)
   have kbj:=Blk.fresh W #[.int .i64 (j:Int)] 3
   have q9:=below_new W (.cells #[.int .i64 (j:Int)] 3)
   have hbj:bo < W.heap.size:=S.out.ko.lt
   have hbij:bi < W.heap.size:=KI.out.lt
   replace S:=Lib.hid (S.out.below q9)
   replace KI:=Lib.hid (KI.out.below q9)
   clear q9
   generalize (W.alloc (.cells #[.int .i64 (j:Int)] 3))=WA at *
   obtain ⟨bj,hbje⟩:∃ b,W.heap.size=b:=⟨_,rfl⟩
   rw [hbje] at kbj hbj hbij ⊢
   clear hbje
   have y0:=KI.out.at_ 0 _ rfl
   have yj:=kbj.at_ 0 _ rfl
   have a0:=S.out.kq.at_ 0 _ rfl
   have a1:=S.out.kq.at_ 1 _ rfl
   have a2:=S.out.kq.at_ 2 _ rfl
   have a3:=S.out.kq.at_ 3 _ rfl
   have a4:=S.out.kq.at_ 4 _ rfl
   have a5:=S.out.kq.at_ 5 _ rfl
   have KJ:=Lib.hid kbj
   clear kbj
   go_wp2_with (first
    | (go_at_call 73; refine (steps_make q _ _ i j _).mono ?_; rintro e W2 ⟨rfl,qb,hsz2,k1,k2,k3⟩)
    | fail "arm")
   clear y0 yj a0 a1 a2 a3 a4 a5
   have hS2:=S.out.below qb
   have hi2:=KI.out.below qb
   have hj2:=KJ.out.below qb
   have hs0:=S.out.s1
   have hs3:=S.out.s3
   have hs4:=S.out.size
   have hlt0:bo < WA.heap.size:=S.out.ko.lt
   have hlti:bi < WA.heap.size:=KI.out.lt
   have hltj:bj < WA.heap.size:=KJ.out.lt
   clear S KI KJ qb
   obtain ⟨bw,hbw⟩:∃ b,WA.heap.size=b:=⟨_,rfl⟩
   rw [hbw] at k1 k2 k3 hsz2 hs4 hlt0 hlti hltj
   simp only [hbw]
   clear hbw
   have hStW:StW w0 bw (bw + 1) (bw + 2) q (.slice A1 q.L.length n1) (.slice A2 q.R.length n2) i j W2:=⟨KeptC.of_bb hS2.bb,hs4,k1,k2,k3⟩
   have hM:FarM w0 (fun g _=>g ∈ rb) [bw,bw + 1,bw + 2] [32, 3]:=⟨fun g _ h=>by have:=hs3 g h; omega,fun g hg _ _ h=>by have:=hs3 g h; simp at hg; omega⟩
   have hW2s:w0.heap.size≤W2.heap.size:=hS2.size
   have HTS:Hid ((potA q (idx q i j) i j).isSome=true∧InvP q 60000 (potA q (idx q i j))∧potA q (idx q i j) i j=some (frn q i j)):=Lib.hid (by
    have h:=frn_at (cst_bdS q OK.out) hi hj 0 (by omega)
    have h2:potA q (idx q i j) i j=some (frn q i j):=h
    exact ⟨by rw [h2]; rfl,potA_bd q OK.out _ (Nat.le_of_lt (idx_lt q hi hj)),h2⟩)
   have hI:OwnFrom W2.heap.size (fun (pre:List (SK q i j)) V=>(StP w0 bq bo ob rb q (.slice A1 q.L.length n1) (.slice A2 q.R.length n2) (potT q (posS q i j (potA q (idx q i j)) pre)) ds V∧KeepsLow W2.heap.size W2 V)∧Blk V bi #[.int .i64 i] 3 ∧ Blk V bj #[.int .i64 j] 3):=fun s A B row h hg hr =>
    ⟨StP.own rfl hW2s hS2.mrk (fun pre=>potT q (posS q i j (potA q (idx q i j)) pre)) s A B row h.1 hg hr,ownFrom_cells (I:=fun (_:Unit) X=>Blk X bi #[.int .i64 i] 3 ∧ Blk X bj #[.int .i64 j] 3) (fun _ X X' h k _=>⟨h.1.keptC k trivial,h.2.keptC k trivial⟩) _ () A B row h.2 hg hr⟩
   refine wide_loop (n:=9) (gf := 100) (lb:=#[.pointer (some ⟨bw + 1,0,none⟩),.pointer (some ⟨bw + 2,0,none⟩),.pointer (some ⟨bw,0,none⟩)]) rfl (enters_of Tryz.func100 (by kernel_rfl) rfl)
    (SeqJ.of (steps_stops (9 - 1) q OK.out _ _ i j hi hj w0 HE.out HQ.out bw (bw + 1) (bw + 2) (fun g _=>g ∈ rb) hM W2 hStW)) (fun h k=>KeptC.trans h k) (fun V o o' h ho=>KeptC.put _ h ho) (fun _=>rfl)
    (fun pre V=>(StP w0 bq bo ob rb q (.slice A1 q.L.length n1) (.slice A2 q.R.length n2) (potT q (posS q i j (potA q (idx q i j)) pre)) ds V∧KeepsLow W2.heap.size W2 V)∧Blk V bi #[.int .i64 i] 3 ∧ Blk V bj #[.int .i64 j] 3)
    (fun _ _ _=>False) hI (fun c s A B row h hg hr=>h) ⟨⟨hS2,KeepsLow.refl _ _⟩,hi2,hj2⟩
    (fun pre x a' V=>∃ (bs:Nat),((StP w0 bq bo ob rb q (.slice A1 q.L.length n1) (.slice A2 q.R.length n2) (potT q (posS q i j (potA q (idx q i j)) pre)) ds V∧KeepsLow W2.heap.size W2 V)∧Blk V bi #[.int .i64 i] 3 ∧ Blk V bj #[.int .i64 j] 3)∧Blk V bs #[.int .i64 x.k,.int .i64 i,.int .i64 j] 56 ∧ ∃ v:Nat→Value,a'={ tmps:=(.agg #[.slice A1 q.L.length n1,.slice A2 q.R.length n2,.string (qT (2 * q.ch)),.string (qT (2 * q.mi)),.string (qT (2 * q.ga)),.string (qT (2 * q.re))] :: .pointer (some ⟨bq,0,none⟩) :: .slice none 0 0 :: .pointer (some ⟨bo,0,none⟩) :: .pointer (some ⟨bi,0,none⟩) :: .pointer (some ⟨bj,0,none⟩) :: .pointer (some ⟨bs,0,none⟩) :: .string (qT (cst q x.k i j)) :: v 8 :: v 9 :: v 10 :: v 11 :: v 12 :: v 13 :: v 14 :: v 15 :: .slice (some ⟨ob,0,none⟩) N N :: .int .i64 (N:Nat) :: .int .i64 (i:Nat) :: v 19 :: v 20 :: v 21 :: v 22 :: v 23 :: .slice (some ⟨r1,0,none⟩) M M :: .int .i64 (M:Nat) :: .int .i64 (j:Nat) :: v 27 :: v 28 :: v 29 :: v 30 :: v 31 :: v 32 :: v 33 :: v 34 :: v 35 :: v 36 :: v 37 :: v 38 :: v 39 :: v 40 :: v 41 :: v 42 :: v 43 :: v 44 :: v 45 :: v 46 :: v 47 :: v 48 :: v 49 :: v 50 :: v 51 :: v 52 :: v 53 :: v 54 :: v 55 :: []).toArray,defers:=[] })
    (fun pre x a' s A B row h hg hr=>by
     obtain ⟨bs,h1,h2,h3⟩:=h
     exact ⟨bs,hI _ A B row h1 hg hr,ownFrom_cells (I:=fun (_:Unit) V=>Blk V bs #[.int .i64 x.k,.int .i64 i,.int .i64 j] 56) (fun _ V V' h k _=>h.keptC k trivial) _ () A B row h2 hg hr,h3⟩)
    ?assign ?body ?done ?stop
   case assign =>
    rintro l2 pre x V K ⟨⟨h1,h2⟩,h3,h4⟩ hK
    have qv:=below_new V (.cells #[.int .i64 x.k,.int .i64 i,.int .i64 j] 56)
    have kv:=Blk.fresh V #[.int .i64 x.k,.int .i64 i,.int .i64 j] 56
    dsimp only [encS]
    gi_wp2
    exact hK _ _ (keepsFrom_below qv) (KeptC.below qv) ⟨V.heap.size,⟨⟨h1.below qv,h2.trans (KeepsLow.of (keepsFrom_below qv))⟩,h3.below qv,h4.below qv⟩,kv,ex_frame (by kernel_rfl)⟩
   case body =>
    rintro l2 pre x a' V ⟨bs,⟨⟨h1,h2⟩,h3,h4⟩,hb,v,rfl⟩ hlen
    have HNX:Hid (Ret Tryz.prog V 51 #[.agg #[.int .i64 x.k,.int .i64 i,.int .i64 j]] (.tuple #[.int .i64 (nxI x.k i:Nat),.int .i64 (nxJ x.k j:Nat)])):=Lib.hid (by
     have h:=cnext_any x.k i j (by omega) (by omega) V
     rw [nzI_nat,nzJ_nat x.k j x.h1] at h
     exact h)
    have d0:=hb.at_ 0 _ rfl
    have d1:=hb.at_ 1 _ rfl
    have d2:=hb.at_ 2 _ rfl
    have H1:=Lib.hid h1
    have H2:=Lib.hid h2
    have H3:=Lib.hid h3
    have H4:=Lib.hid h4
    clear h1 h2 h3 h4 hI hS2 hi2 hj2 hStW hM
    gi_wp2_with (first
     | ((first | refine ⟨trivial,fun h=>(by cases h),?_⟩ | refine ⟨trivial,?_⟩); with_reducible refine (CallsIn.inRound l2 (callsIn_wide.2 (HNX.out _ (Below.refl _ _)))).mono ?_; rintro e V1 ⟨rfl,qv⟩)
     | fail "arm")
    have h1:=H1.out.below qv
    have h2:=H2.out.trans (KeepsLow.of (keepsFrom_below qv))
    have KI:=Lib.hid (H3.out.below qv)
    have KJ:=Lib.hid (H4.out.below qv)
    have QV:=Lib.hid qv
    have hks:=x.h2
    have hmi:nxI x.k i≤q.L.length:=hks.1
    have hmj:nxJ x.k j≤q.R.length:=hks.2.1
    have hpi:=posS_inv (cst_bdS q OK.out) pre (potA q (idx q i j)) HTS.out.1 HTS.out.2.1
    have hpj:posS q i j (potA q (idx q i j)) pre i j=some (frn q i j):=hpi.2.trans HTS.out.2.2
    have hb1:=inv_bd OK.out HTS.out.2.1 i j _ HTS.out.2.2
    have hb2:=cst_bd q OK.out x.k i j
    have l1:i < rb.length:=by have:=HRB.out; omega
    have l3:nxI x.k i < rb.length:=by have:=HRB.out; omega
    have C10:=h1.tab.cell1 i l1
    rw [HM.out,HR1.out] at C10
    have C1:=Lib.hid C10
    have hc2:=h1.tab.cell2 i j l1 (by omega)
    rw [HR1.out] at hc2
    have hent:potT q (posS q i j (potA q (idx q i j)) pre) i j=qT (frn q i j):=by unfold potT; rw [hpj]; rfl
    rw [hent] at hc2
    have C2:=Lib.hid hc2
    have LC1:=Lib.hid h1.tab.lt1
    have LC20:=h1.tab.lt2 rb[i] (List.getElem_mem l1)
    rw [HR1.out] at LC20
    have LC2:=Lib.hid LC20
    have HE1:=HE.out.below h1.bb
    have HAD:=Lib.hid (rAddQ (frn q i j) (cst q x.k i j) (by omega) (by omega) V1 HE1)
    have hpb:∀ y,posS q i j (potA q (idx q i j)) pre (nxI x.k i) (nxJ x.k j)=some y→y.natAbs < 1000000:=fun y hy=>by
     have:=inv_bd OK.out hpi.1 _ _ y hy
     omega
    have HIM:Hid (∀ V9,Below V1.heap.size V1 V9→Calls Tryz.prog 78 #[.slice (some ⟨ob,0,none⟩) rb.length rb.length,.int .i64 (nxI x.k i:Nat),.int .i64 (nxJ x.k j:Nat),.string (qT (frn q i j + cst q x.k i j))] V9 fun e w'=>(∃ v,e=.returned v)∧Wrote rb[nxI x.k i] V9 w' ∧
      TabT w' ob rb (q.R.length + 1) (potT q (posS q i j (potA q (idx q i j)) (pre ++ [x]))) 71 28):=Lib.hid (fun V9 hV9=>(improve_any ob rb (q.R.length + 1) (nxI x.k i) (nxJ x.k j) _ l3 (by omega) (by have:=HRB.out; omega) (by omega) (posS q i j (potA q (idx q i j)) pre (nxI x.k i) (nxJ x.k j)) (frn q i j + cst q x.k i j) hpb (by omega) rfl V9 (HE1.below hV9) (h1.tab.below hV9)).mono (fun e w' h=>⟨h.1,h.2.1,h.2.2.congr (fun p r _ _=>by rw [posS_snoc]; exact congrArg Value.string (stepT_tab q i j _ x _ hpj p r))⟩))
    have S1:=Lib.hid h1
    have L1:=Lib.hid h2
    have KO0:=h1.ko
    rw [HRB.out,HN.out] at KO0
    have KO:=Lib.hid KO0
    have HME:=Lib.hid (List.getElem_mem l3)
    have HIM2:=HIM
    unfold Hid at HIM2
    rw [HRB.out,HN.out] at HIM2
    replace HIM:=Lib.hid HIM2
    clear h1 h2 H1 H2 H3 H4 qv hc2 hent hpb hb1 hb2 hks hb d0 d1 d2 HNX HE1 hpi hpj C10 LC20 KO0 HIM2
    generalize hr2:rb[nxI x.k i]=r2 at *
    clear hr2 l3 l1
    generalize qT (frn q i j + cst q x.k i j)=tS at *
    generalize qT (frn q i j)=tA at *
    generalize qT (cst q x.k i j)=co at *
    generalize nxI x.k i=mi at *
    generalize nxJ x.k j=mj at *
    refine wpIn_phase (.inr ⟨l2,rfl⟩) 16 12 (.v 40 (.slice (some ⟨ob,0,none⟩) N N) :: .v 41 (.int .i64 mi) :: .v 42 (.int .i64 mj) :: .v 43 (.slice (some ⟨ob,0,none⟩) N N) :: .v 44 (.int .i64 i) :: .v 45 (.pointer (some ⟨ob,i,none⟩)) :: .v 46 (.slice (some ⟨r1,0,none⟩) M M) :: .v 47 (.int .i64 j) :: .v 48 (.pointer (some ⟨r1,j,none⟩)) :: .v 49 (.string tA) :: .v 50 (.string co) :: .v 51 (.string tS) :: []) [] [⟨bo,#[.slice (some ⟨ob,0,none⟩) N N], 99, none⟩,⟨bi,#[.int .i64 i], 3, none⟩,⟨bj,#[.int .i64 j], 3, none⟩] [] [] [] [] [] (by kernel_rfl) (by intro hL; obtain ⟨_,_,hL⟩:=hL; exact hL.elim) (Below.refl _ _) ⟨KO.out,KI.out,KJ.out,trivial⟩ trivial ⟨ld 0 0,pu,pu,ld 0 0,ld 1 0,?_,?_,ld 2 0,?_,?_,pu,cl HAD.out,trivial⟩ ?_
    ·intro L a U ho J hn dd KK kk; refine .free rfl ?_; have r43:=J.read 3 rfl (dd.get 3 rfl); have r44:=J.read 4 rfl (dd.get 4 rfl); go_simp; exact kk.out _ _ (J.st 5 rfl rfl)
    ·intro L a U ho J hn dd KK kk; refine .free rfl ?_; have r45:=J.read 5 rfl (dd.get 5 rfl); have e0:=(J.bb.cell (p:=⟨ob,i,none⟩) LC1.out).trans C1.out; go_simp; exact kk.out _ _ (J.st 6 rfl rfl)
    ·intro L a U ho J hn dd KK kk; refine .free rfl ?_; have r46:=J.read 6 rfl (dd.get 6 rfl); have r47:=J.read 7 rfl (dd.get 7 rfl); go_simp; exact kk.out _ _ (J.st 8 rfl rfl)
    ·intro L a U ho J hn dd KK kk; refine .free rfl ?_; have r48:=J.read 8 rfl (dd.get 8 rfl); have e0:=(J.bb.cell (p:=⟨r1,j,none⟩) LC2.out).trans C2.out; go_simp; exact kk.out _ _ (J.st 9 rfl rfl)
    rintro σ V9 _ _ _ _ B9
    simp only [slotsOf,finX,nval,nvalN,nvalA,Nat.reduceBEq,cond_true,cond_false,putAll,Act.put,List.setIfInBounds_toArray,List.set_cons_succ,List.set_cons_zero]
    simp only [List.drop_succ_cons,List.drop_zero]
    gi_wp2_with (first
     | ((first | refine ⟨trivial,fun h=>(by cases h),?_⟩ | refine ⟨trivial,?_⟩); with_reducible refine (CallsIn.inRound l2 (callsIn_wide.2 (HIM.out _ B9.out))).mono ?_; rintro e V3 ⟨⟨v,rfl⟩,hwr,htb⟩)
     | fail "arm")
    have kk:KeepsFrom 0 V V3:=((keepsFrom_below QV.out).trans (keepsFrom_below B9.out)).trans hwr.keeps
    have kc:KeptC (fun g _=>g ∉ rb) V V3:=((KeptC.below QV.out).trans (KeptC.below B9.out)).trans (hwr.kept.mono (fun g _ h e=>h (e ▸ HME.out)))
    have hlt3:=(S1.out.s3 _ HME.out).2
    exact ⟨KeepsFrom.mono kk (Nat.zero_le _),kc,⟨((S1.out.below B9.out).wrote HME.out hwr htb),L1.out.trans ((KeepsLow.of (keepsFrom_below B9.out)).trans (KeepsLow.of hwr.keeps))⟩,(KI.out.below B9.out).keptC hwr.kept (by omega),(KJ.out.below B9.out).keptC hwr.kept (by omega)⟩
   case done =>
    rintro D ys V hD rfl ⟨⟨h1,h2⟩,h3,h4⟩ hK
    have S9:Hid (StP w0 bq bo ob rb q (.slice A1 q.L.length n1) (.slice A2 q.R.length n2) (potT q (potA q (i * M + (j + 1)))) ({ target:=.collected D,args:=#[] } :: ds) V):=Lib.hid ((h1.tabC (fun p r _ _=>by
     rw [posS_up]
     show potT q _ p r=potT q _ p r
     rw [← Nat.add_assoc,← HM.out,potA_next q i j hj,HM.out,hidx.out])).marks (Marks.add hS2.mrk h1.mrk (by omega) hD hK))
    have KI:=Lib.hid h3
    have w1:IntKind.i64.wrap ((j:Int) + 1)=(j:Int) + 1:=IntWalk.i64_in _ (by omega)
    clear hI hS2 hi2 hj2 h1 h2 h3 h4 hK
    go_wp2
    exact ⟨m - 1,by omega,hJ2 _ _ _ ⟨j + 1,_,ex_frame (by kernel_rfl),by omega,by omega,S9.out,KI.out⟩⟩
   case stop =>
    rintro D c pre V hD hpre h hK
    exact h.elim

end Go.Proofs.YthhkmihjnnfpgaaGreatDoor

/- Potentials: the least costs up to each position, given out. -/
namespace Go.Proofs.YthhkmihjnnfpgaaGreatDoor
set_option linter.all false
open Go.RowKit

attribute [local go_sem] Oper.semAt_some

set_option maxRecDepth 100000 in
set_option maxHeartbeats 8000000 in
theorem potPub_any (q:CQ) (ok:OkQ q) (sl sr:Value) (w:World) (he:Env w) (hq:QAt w sl sr q) :
  Calls Tryz.prog 34 #[.agg #[sl,sr,.string (qT (2 * q.ch)),.string (qT (2 * q.mi)),.string (qT (2 * q.ga)),.string (qT (2 * q.re))]] w fun e w'=>∃ ob rb,e=.returned (.tuple #[.slice (some ⟨ob,0,none⟩) (q.L.length + 1) (q.L.length + 1),.int .i64 0])∧rb.length=q.L.length + 1 ∧
   TabT w' ob rb (q.R.length + 1) (frnT q) 71 28 ∧ w.heap.size≤ob∧(∀ g ∈ rb,w.heap.size≤g)∧Below w.heap.size w w':=by
 have hll:=ok.hl
 have hrr:=ok.hr
 have HQ:=Lib.hid hq
 obtain ⟨A1,n1,rfl,_⟩:=hq.l
 obtain ⟨A2,n2,rfl,_⟩:=hq.r
 have HE:=Lib.hid he
 have OK:=Lib.hid ok
 have B:=Lib.hid (Below.refl w.heap.size w)
 clear hq he ok
 go_enter Tryz.func34, Tryz.ntmps34
 go_upto_region 1 with (fail)
 have K1:=Lib.hid (Blk.fresh w #[.slice A1 q.L.length n1,.slice A2 q.R.length n2,.string (qT (2 * q.ch)),.string (qT (2 * q.mi)),.string (qT (2 * q.ga)),.string (qT (2 * q.re))] 32)
 have q1:=below_new w (.cells #[.slice A1 q.L.length n1,.slice A2 q.R.length n2,.string (qT (2 * q.ch)),.string (qT (2 * q.mi)),.string (qT (2 * q.ga)),.string (qT (2 * q.re))] 32)
 replace B:=Lib.hid (B.out.trans (q1.mono B.out.size))
 generalize (w.alloc (.cells #[.slice A1 q.L.length n1,.slice A2 q.R.length n2,.string (qT (2 * q.ch)),.string (qT (2 * q.mi)),.string (qT (2 * q.ga)),.string (qT (2 * q.re))] 32))=W1 at *
 clear q1
 have y0:=K1.out.at_ 0 _ rfl
 have y1:=K1.out.at_ 1 _ rfl
 have y2:=K1.out.at_ 2 _ rfl
 have y3:=K1.out.at_ 3 _ rfl
 have y4:=K1.out.at_ 4 _ rfl
 have y5:=K1.out.at_ 5 _ rfl
 go_upto_region 4 with (first
  | (go_at_call 44; with_reducible refine (check_ok q OK.out _ _ W1 (HE.out.below B.out) (HQ.out.below B.out)).mono ?_; rintro e W2 ⟨rfl,q2⟩)
  | fail "arm")
 clear y0 y1 y2 y3 y4 y5
 replace K1:=Lib.hid (K1.out.below q2)
 replace B:=Lib.hid (B.out.trans (q2.mono B.out.size))
 clear q2
 have y0:=K1.out.at_ 0 _ rfl
 have y1:=K1.out.at_ 1 _ rfl
 have y2:=K1.out.at_ 2 _ rfl
 have y3:=K1.out.at_ 3 _ rfl
 have y4:=K1.out.at_ 4 _ rfl
 have y5:=K1.out.at_ 5 _ rfl
 go_upto_region 5 with (first
  | (go_at_call 69; with_reducible refine (potentials_any q OK.out _ _ W2 (HE.out.below B.out) (HQ.out.below B.out)).mono ?_; rintro e W3 ⟨ob,rb,rfl,hrb,htab,hlo,hlr,q3⟩)
  | fail "arm")
 clear y0 y1 y2 y3 y4 y5 K1
 have HLO:Hid (w.heap.size≤ob∧∀ g ∈ rb,w.heap.size≤g):=Lib.hid (by
  have:=B.out.size
  exact ⟨by omega,fun g hg=>by have:=hlr g hg; omega⟩)
 replace B:=Lib.hid (B.out.trans (q3.mono B.out.size))
 have TAB:=Lib.hid htab
 have HRB:=Lib.hid hrb
 clear htab hlo hlr q3 hrb
 obtain ⟨N,hN⟩:∃ n,q.L.length + 1=n:=⟨_,rfl⟩
 obtain ⟨M,hM⟩:∃ n,q.R.length + 1=n:=⟨_,rfl⟩
 have HN:=Lib.hid hN
 have HM:=Lib.hid hM
 rw [hN]
 clear hN hM
 go_wp2
 go_loopw [21] (fun iv wr=>∃ i:Nat,i≤N∧iv=.int .i64 i∧Below W3.heap.size W3 wr∧Below w.heap.size w wr) (fun iv _=>N - (intOf iv).toNat)
 case atStart=>exact ⟨0,Nat.zero_le _,rfl,Below.refl _ _,B.out⟩
 case round =>
  clear B
  obtain ⟨i,hi,rfl,b3,b⟩:=hrel
  have B3:=Lib.hid b3
  have B:=Lib.hid b
  clear b3 b
  by_cases hlt:i < N
  ·have hz1:(i:Int) < (N:Int):=by omega
   have l1:i < rb.length:=by have:=HRB.out; have:=HN.out; omega
   have x1:=(TAB.out.below B3.out).cell1 i l1
   rw [HM.out] at x1
   have hr1:∃ r,rb[i]=r:=⟨_,rfl⟩
   obtain ⟨r1,hr1⟩:=hr1
   rw [hr1] at x1
   have HC2:Hid (∀ W j,Below W3.heap.size W3 W→j < M→W.cell? ⟨r1,j,none⟩=some (.string (qT (frn q i j)))):=Lib.hid (fun W j hW hj=>by
    have h:=(TAB.out.below hW).cell2 i j l1 (by have:=HM.out; omega)
    rw [hr1] at h
    exact h)
   have HII:Hid (i≤q.L.length):=Lib.hid (by have:=HN.out; omega)
   clear hr1 l1
   have hwi:IntKind.i64.wrap ((i:Int) + 1)=(i:Int) + 1:=IntWalk.i64_in _ (by have:=HN.out; omega)
   go_wp2
   clear x1
   go_loopw [27] (fun jv wx=>∃ j:Nat,j≤M∧jv=.int .i64 j∧Below W3.heap.size W3 wx∧Below w.heap.size w wx) (fun jv _=>M - (intOf jv).toNat)
   case atStart=>exact ⟨0,Nat.zero_le _,rfl,B3.out,B.out⟩
   case round =>
    clear B B3
    obtain ⟨j,hj,rfl,b3,b⟩:=hrel
    have B3:=Lib.hid b3
    have B:=Lib.hid b
    clear b3 b
    by_cases hlj:j < M
    ·have hz3:(j:Int) < (M:Int):=by omega
     have hwj:IntKind.i64.wrap ((j:Int) + 1)=(j:Int) + 1:=IntWalk.i64_in _ (by have:=HM.out; omega)
     have x2:=HC2.out _ j B3.out hlj
     have hfb:0≤frn q i j∧frn q i j≤720000:=by
      have h:=frn_some (cst_bdS q OK.out) HII.out (show j≤q.R.length by have:=HM.out; omega)
      exact inv_bd OK.out (potA_bd q OK.out _ (Nat.le_refl _)) i j _ h
     have HRT:=Lib.hid (cright_any (frn q i j) (by omega) w HE.out)
     clear hfb
     generalize qT (frn q i j)=tx at *
     go_wp2_with (first
      | (go_at_call 49; with_reducible refine (HRT.out _ B.out).mono ?_; rintro e W9 ⟨rfl,q9⟩; replace B:=Lib.hid (B.out.trans (q9.mono B.out.size)); replace B3:=Lib.hid (B3.out.trans (q9.mono B3.out.size)); clear q9)
      | fail "arm")
     exact ⟨⟨j + 1,by omega,by go_num,B3.out,B.out⟩,by simp [intOf]; omega⟩
    ·have hz3:¬ (j:Int) < (M:Int):=by omega
     have hz4:decide ((j:Int) < (M:Int))=false:=decide_eq_false hz3
     go_wp2
     exact ⟨⟨i + 1,by omega,by go_num,B3.out,B.out⟩,by simp [intOf]; omega⟩
  ·have hz3:¬ (i:Int) < (N:Int):=by omega
   have hz4:decide ((i:Int) < (N:Int))=false:=decide_eq_false hz3
   go_wp2
   go_ret2
   exact ⟨ob,(by rw [HN.out]; rfl),rb,HRB.out,TAB.out.below B3.out,HLO.out.1,HLO.out.2,B.out⟩

end Go.Proofs.YthhkmihjnnfpgaaGreatDoor
