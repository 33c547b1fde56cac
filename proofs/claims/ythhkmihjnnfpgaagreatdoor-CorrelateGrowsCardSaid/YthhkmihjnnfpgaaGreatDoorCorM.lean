/- The iterator of the good steps. -/
import Derived.Test.YthhkmihjnnfpgaaGreatDoorGCorJ
namespace Go.Proofs.YthhkmihjnnfpgaaGreatDoor
set_option linter.all false
open Go.RowKit

attribute [local go_sem] Oper.semAt_some

def fltS (q:CQ) (i j:Nat) (l:List (SK q i j)):List (SK q i j):=l.filter (fun x=>decide (goodS q i j x.k))
def gdS (q:CQ) (i j:Nat):List (SK q i j):=fltS q i j (upS q i j 5)
noncomputable def encG (q:CQ) (i j:Nat) (x:SK q i j):Array Value:=#[.agg #[.int .i64 x.k,.int .i64 i,.int .i64 j]]
theorem fltS_snoc (q:CQ) (i j:Nat) (l:List (SK q i j)) (x:SK q i j):fltS q i j (l ++ [x])=fltS q i j l ++ (if goodS q i j x.k then [x] else []):=by
 unfold fltS
 rw [List.filter_append]
 congr 1
 by_cases h:goodS q i j x.k
 ·rw [if_pos h,List.filter_cons_of_pos (by simpa using h)]; rfl
 ·rw [if_neg h,List.filter_cons_of_neg (by simpa using h)]; rfl
theorem fltS_len (q:CQ) (i j:Nat) (l:List (SK q i j)):(fltS q i j l).length≤l.length:=List.length_filter_le _ _
theorem fltS_pre {q:CQ} {i j:Nat} {l m:List (SK q i j)} (h:l <+: m):fltS q i j l <+: fltS q i j m:=by
 obtain ⟨r,rfl⟩:=h
 unfold fltS
 rw [List.filter_append]
 exact List.prefix_append _ _
structure StG (w0:World) (bq br bi bj ob:Nat) (rb:List Nat) (q:CQ) (sl sr:Value) (i j:Nat) (W:World):Prop where
 kept:KeptC (fun g _=>g < w0.heap.size) w0 W
 hb:w0.heap.size≤bq
 kq:Blk W bq #[sl,sr,.string (qT (2 * q.ch)),.string (qT (2 * q.mi)),.string (qT (2 * q.ga)),.string (qT (2 * q.re))] 32
 kr:Blk W br #[.slice (some ⟨ob,0,none⟩) rb.length rb.length] 99
 ki:Blk W bi #[.int .i64 i] 3
 kj:Blk W bj #[.int .i64 j] 3
 tab:TabT W ob rb (q.R.length + 1) (rstT q) 71 28
section
variable {w0 W W':World} {bq br bi bj ob:Nat} {rb:List Nat} {q:CQ} {sl sr:Value} {i j:Nat}
theorem StG.size (h:StG w0 bq br bi bj ob rb q sl sr i j W):w0.heap.size≤W.heap.size:=Nat.le_trans h.hb (Nat.le_of_lt h.kq.lt)
theorem StG.keep {M:Nat→TypeId→Prop} (h:StG w0 bq br bi bj ob rb q sl sr i j W) (hM:FarM w0 M ([bq,br,bi,bj,ob] ++ rb) [32, 99, 3, 71, 28]) (k:KeptC (fun g t=>¬ M g t) W W'):StG w0 bq br bi bj ob rb q sl sr i j W' :=
 ⟨fun g cs t fz hg e=>k g cs t fz (fun hm=>by have:=hM.low g t hm; omega) (h.kept g cs t fz hg e),h.hb,h.kq.keptC k (hM.far _ (by simp) _ (by simp)),h.kr.keptC k (hM.far _ (by simp) _ (by simp)),h.ki.keptC k (hM.far _ (by simp) _ (by simp)),h.kj.keptC k (hM.far _ (by simp) _ (by simp)),
  h.tab.keptC k (hM.far _ (by simp) _ (by simp)) (fun g hg=>hM.far _ (List.mem_append_right _ hg) _ (by simp))⟩
theorem StG.below (h:StG w0 bq br bi bj ob rb q sl sr i j W) (k:Below W.heap.size W W'):StG w0 bq br bi bj ob rb q sl sr i j W' :=
 ⟨h.kept.trans (KeptC.below k),h.hb,h.kq.below k,h.kr.below k,h.ki.below k,h.kj.below k,h.tab.below k⟩
theorem StG.put {l:Nat} {o:Obj} (h:StG w0 bq br bi bj ob rb q sl sr i j W) (o':Obj) (hl:W.heap[l]?=some o) (ho:o.isCells=false):StG w0 bq br bi bj ob rb q sl sr i j (W.putObj l o'):=by
 have k:KeptC (fun _ _=>True) W (W.putObj l o'):=KeptC.put o' hl ho
 exact ⟨h.kept.trans (k.mono (fun _ _ _=>trivial)),h.hb,h.kq.keptC k trivial,h.kr.keptC k trivial,h.ki.keptC k trivial,h.kj.keptC k trivial,h.tab.keptC k trivial (fun _ _=>trivial)⟩
end
theorem StG.keepT {w0 W W':World} {bq br bi bj ob:Nat} {rb:List Nat} {q:CQ} {sl sr:Value} {i j:Nat} (h:StG w0 bq br bi bj ob rb q sl sr i j W) (k:KeptC (fun _ _=>True) W W'):StG w0 bq br bi bj ob rb q sl sr i j W' :=
 ⟨h.kept.trans (k.mono (fun _ _ _=>trivial)),h.hb,h.kq.keptC k trivial,h.kr.keptC k trivial,h.ki.keptC k trivial,h.kj.keptC k trivial,h.tab.keptC k trivial (fun _ _=>trivial)⟩
theorem ownFrom_cells {β:Type} {I:β→World→Prop} (h:∀ s W W',I s W→KeptC (fun _ _=>True) W W'→W.heap.size≤W'.heap.size→I s W') (B:Nat):OwnFrom B I:=fun s W W' row hs hg hr =>
 h s W W' hs (fun g cs t fz _ e=>(hg.block g (Array.getElem?_eq_some_iff.1 e).1 (fun e2=>by
  obtain ⟨o,ho,hc⟩:=(hr g e2.symm).2
  rw [e] at ho
  injection ho with ho
  subst ho
  cases hc)).trans e) hg.size
theorem ownFrom_mono {β:Type} {B B':Nat} {I:β→World→Prop} (h:OwnFrom B I) (hb:B≤B'):OwnFrom B' I:=fun s W W' row hs hg hr=>h s W W' row hs hg (fun r e=>⟨Nat.le_trans hb (hr r e).1,(hr r e).2⟩)
theorem ownFrom_belowW {β:Type} {B:Nat} {J:β→World→Prop} (h:OwnFrom B J) {s:β} {W W':World} (hs:J s W) (k:Below W.heap.size W W'):J s W' :=
 h s W W' none hs ⟨k.os,k.tape,k.output,k.size,fun g hg _=>k.block g hg⟩ (fun r e=>by cases e)

theorem thk_bd (l:List IV) (ok:OkLog l) (i:Nat):0≤thk l i∧thk l i≤1000:=by
 unfold thk
 by_cases h:i < l.length
 ·rw [List.getElem?_eq_getElem h]
  obtain ⟨_,h1,h2,h3,_,_⟩:=ok i h
  dsimp only
  omega
 ·rw [List.getElem?_eq_none (by omega)]
  dsimp only
  omega
theorem mul_bd {a b:Int} {m k:Nat} (ha:0≤a∧a≤m) (hb:0≤b∧b≤k):0≤a * b∧a * b≤m * k:=by
 refine ⟨Int.mul_nonneg ha.1 hb.1,?_⟩
 have h1:=Int.mul_le_mul ha.2 hb.2 hb.1 (by omega)
 exact h1
theorem cst_bd (q:CQ) (ok:OkQ q) (k i j:Nat):0≤cst q k i j∧cst q k i j≤60000:=by
 have h1:=thk_bd q.L ok.okl i
 have h2:=thk_bd q.R ok.okr j
 unfold cst
 generalize thk q.L i=a at *
 generalize thk q.R j=b at *
 have e1:=mul_bd (m:=20) (k:=1000) ok.ch (show 0≤((a - b).natAbs:Int)∧((a - b).natAbs:Int)≤(1000:Nat) by omega)
 have e2:=mul_bd (m:=20) (k:=2000) ok.mi (show 0≤a + b∧a + b≤(2000:Nat) by omega)
 have e3:=mul_bd (m:=20) (k:=1000) ok.ga (show 0≤a∧a≤(1000:Nat) by omega)
 have e4:=mul_bd (m:=20) (k:=1000) ok.ga (show 0≤b∧b≤(1000:Nat) by omega)
 have e5:=mul_bd (m:=20) (k:=1000) ok.re (show 0≤a∧a≤(1000:Nat) by omega)
 have e6:=mul_bd (m:=20) (k:=1000) ok.re (show 0≤b∧b≤(1000:Nat) by omega)
 generalize q.ch * ((a - b).natAbs:Int)=p1 at *
 generalize q.mi * (a + b)=p2 at *
 generalize q.ga * a=p3 at *
 generalize q.ga * b=p4 at *
 generalize q.re * a=p5 at *
 generalize q.re * b=p6 at *
 split
 ·split <;> omega
 ·split
  ·omega
  ·split
   ·omega
   ·split <;> omega

set_option maxRecDepth 100000 in
set_option maxHeartbeats 8000000 in
theorem good_make (q:CQ) (sl sr:Value) (tA:Option Addr) (tn tc i j:Nat) (w:World) :
  Calls Tryz.prog 50 #[.agg #[sl,sr,.string (qT (2 * q.ch)),.string (qT (2 * q.mi)),.string (qT (2 * q.ga)),.string (qT (2 * q.re))],.slice tA tn tc,.int .i64 i,.int .i64 j] w fun e w'=>e=.returned (.func (.func 79) #[] #[.pointer (some ⟨w.heap.size,0,none⟩),.pointer (some ⟨w.heap.size + 2,0,none⟩),.pointer (some ⟨w.heap.size + 3,0,none⟩),.pointer (some ⟨w.heap.size + 1,0,none⟩)])∧Below w.heap.size w w'∧w'.heap.size=w.heap.size + 4 ∧
   Blk w' w.heap.size #[sl,sr,.string (qT (2 * q.ch)),.string (qT (2 * q.mi)),.string (qT (2 * q.ga)),.string (qT (2 * q.re))] 32 ∧ Blk w' (w.heap.size + 1) #[.slice tA tn tc] 99 ∧ Blk w' (w.heap.size + 2) #[.int .i64 i] 3 ∧ Blk w' (w.heap.size + 3) #[.int .i64 j] 3 := by
 have fr:∀ (W:World) (n:Nat) (cs:Array Value) (T:TypeId),W.heap.size=n→Blk (W.alloc (.cells cs T)) n cs T:=fun W n cs T h=>by subst h; exact Blk.fresh W cs T
 go_enter Tryz.func50, Tryz.ntmps50
 go_wp2
 go_ret
 refine ⟨rfl,?_,by simp,?_,?_,?_,?_⟩
 ·exact (((below_new w _).trans ((below_new _ _).mono (by first | exact Nat.le_refl _ | (simp; done) | (simp; omega)))).trans ((below_new _ _).mono (by first | exact Nat.le_refl _ | (simp; done) | (simp; omega)))).trans ((below_new _ _).mono (by first | exact Nat.le_refl _ | (simp; done) | (simp; omega)))
 ·exact (((fr _ _ _ _ rfl).below (below_new _ _)).below (below_new _ _)).below (below_new _ _)
 ·exact ((fr _ _ _ _ (by simp)).below (below_new _ _)).below (below_new _ _)
 ·exact (fr _ _ _ _ (by simp)).below (below_new _ _)
 ·exact fr _ _ _ _ (by simp)

set_option maxRecDepth 100000 in
set_option maxHeartbeats 8000000 in
theorem good1_in (n:Nat) (q:CQ) (ok:OkQ q) (sl sr:Value) (i j:Nat) (hi:i≤q.L.length) (hj:j≤q.R.length) (w0:World) (he:Env w0) (hq:QAt w0 sl sr q) (bq br bi bj ob:Nat) (rb:List Nat) (hrb:rb.length=q.L.length + 1) (hbd:∀ a b,a≤q.L.length→b≤q.R.length→(rst q a b).natAbs < 800000) (l B0:Nat) (M:Nat→TypeId→Prop) (hM:FarM w0 M ([bq,br,bi,bj,ob] ++ rb) [32, 99, 3, 71, 28]) (J Jx:List (SK q i j)→World→Prop) (W:World) (hB0:B0≤W.heap.size) (hMn:∀ g t,W.heap.size≤g→t ∈ ([32, 3, 138]:List TypeId)→¬ M g t) (hJ:OwnFrom W.heap.size J) (hJx:OwnFrom W.heap.size Jx)
  (hY:∀ pre x W1,J pre W1→pre.length < 5→YieldAt Fence.wide (n - 1) Tryz.prog l (encG q i j x) W1 fun e W'=>KeepsFrom B0 W1 W'∧((e=.returned (.bool true)∧J (pre ++ [x]) W'∧KeptC (fun g t=>¬ M g t) W1 W') ∨ (e=.returned (.bool false)∧Jx (pre ++ [x]) W')))
  (hS:StG w0 bq br bi bj ob rb q sl sr i j W) (h0:J [] W) :
  CallsIn Fence.wide n Tryz.prog 79 #[.func (.yield l) #[] #[],.pointer (some ⟨bq,0,none⟩),.pointer (some ⟨bi,0,none⟩),.pointer (some ⟨bj,0,none⟩),.pointer (some ⟨br,0,none⟩)] W fun e W'=>(∃ v,e=.returned v) ∧
   ((∃ ys,ys=gdS q i j∧J ys W') ∨ (∃ pre,pre <+: gdS q i j∧Jx pre W')):=by
 have hii:i≤6:=Nat.le_trans hi ok.hl
 have hjj:j≤6:=Nat.le_trans hj ok.hr
 refine callsIn_of_wp_marks Tryz.func79 rfl trivial ?_ rfl
 simp only [Tryz.ntmps79, List.size_toArray,List.length_cons,List.length_nil,Nat.reduceAdd,Nat.reduceSub,Array.replicate_succ,Array.replicate_zero,List.push_toArray,List.append_toArray,List.nil_append,List.cons_append]
 refine wpIn_wide.2 ?_
 go_upto_region 1 with (fail)
 have ky:=Blk.fresh W #[.func (.yield l) #[] #[]] 138
 have qq:=below_new W (.cells #[.func (.yield l) #[] #[]] 138)
 have hsz1:(W.alloc (.cells #[.func (.yield l) #[] #[]] 138)).heap.size=W.heap.size + 1:=by simp
 have s1:=hS.below qq
 have j1:=ownFrom_belowW hJ h0 qq
 clear qq h0 hS
 generalize (W.alloc (.cells #[.func (.yield l) #[] #[]] 138))=W1 at *
 obtain ⟨by0,hby0⟩:∃ b,W.heap.size=b:=⟨_,rfl⟩
 rw [hby0] at ky hsz1 ⊢
 have a0:=s1.kq.at_ 0 _ rfl
 have a1:=s1.kq.at_ 1 _ rfl
 have a2:=s1.kq.at_ 2 _ rfl
 have a3:=s1.kq.at_ 3 _ rfl
 have a4:=s1.kq.at_ 4 _ rfl
 have a5:=s1.kq.at_ 5 _ rfl
 have b0:=s1.ki.at_ 0 _ rfl
 have c0:=s1.kj.at_ 0 _ rfl
 have HSZ:=Lib.hid hsz1
 have S1:=Lib.hid s1
 have HBY:=Lib.hid hby0
 clear hsz1 s1 hby0
 go_wp2_with (first
  | (go_at_call 73; refine (steps_make q sl sr i j _).mono ?_; rintro e W2 ⟨rfl,qb,hsz2,k1,k2,k3⟩)
  | fail "arm")
 clear a0 a1 a2 a3 a4 a5 b0 c0
 have s2:=S1.out.below qb
 have j2:=ownFrom_belowW hJ j1 qb
 have ky2:=ky.below qb
 have hw0:=S1.out.size
 rw [HSZ.out] at k1 k2 k3 hsz2 hw0
 have hby0:=HBY.out
 clear j1 ky S1 qb
 obtain ⟨bqq,hbqq⟩:∃ b,by0 + 1=b:=⟨_,rfl⟩
 simp only [HSZ.out,hbqq] at k1 k2 k3 hsz2 hw0 ⊢
 clear HSZ HBY
 have hStW:StW w0 bqq (bqq + 1) (bqq + 2) q sl sr i j W2:=⟨s2.kept,hw0,k1,k2,k3⟩
 have hM2:FarM w0 M [bqq,bqq + 1,bqq + 2] [32, 3]:=⟨hM.low,fun g hg t ht=>hMn g t (by simp at hg; omega) (by simp at ht ⊢; rcases ht with rfl | rfl <;> simp)⟩
 have hMy:¬ M by0 138 := hMn _ _ (by omega) (by simp)
 have hW2:W.heap.size≤W2.heap.size:=by omega
 have hJ2:=ownFrom_mono hJ hW2
 have hJx2:=ownFrom_mono hJx hW2
 have hI:OwnFrom W2.heap.size (fun (pre:List (SK q i j)) V=>J (fltS q i j pre) V∧StG w0 bq br bi bj ob rb q sl sr i j V∧Blk V by0 #[.func (.yield l) #[] #[]] 138):=fun s A B row h hg hr =>
  ⟨hJ2 _ A B row h.1 hg hr,ownFrom_cells (I:=fun (_:Unit) V=>StG w0 bq br bi bj ob rb q sl sr i j V∧Blk V by0 #[.func (.yield l) #[] #[]] 138) (fun _ V V' h k _=>⟨h.1.keepT k,h.2.keptC k trivial⟩) _ () A B row h.2 hg hr⟩
 refine wide_loop (n:=n) (gf := 100) (lb:=#[.pointer (some ⟨bqq + 1,0,none⟩),.pointer (some ⟨bqq + 2,0,none⟩),.pointer (some ⟨bqq,0,none⟩)]) rfl (enters_of Tryz.func100 (by kernel_rfl) rfl)
  (SeqJ.of (steps_stops (n - 1) q ok sl sr i j hi hj w0 he hq bqq (bqq + 1) (bqq + 2) M hM2 W2 hStW)) (fun h k=>KeptC.trans h k) (fun V o o' h ho=>KeptC.put _ h ho) (fun _=>rfl)
  (fun pre V=>J (fltS q i j pre) V∧StG w0 bq br bi bj ob rb q sl sr i j V∧Blk V by0 #[.func (.yield l) #[] #[]] 138)
  (fun c pre V=>c=.ret∧Jx (fltS q i j pre) V)
  hI (fun c s A B row h hg hr=>⟨h.1,hJx2 _ A B row h.2 hg hr⟩)
  ⟨j2,s2,ky2⟩
  (fun pre x a' V=>∃ bs,(J (fltS q i j pre) V∧StG w0 bq br bi bj ob rb q sl sr i j V∧Blk V by0 #[.func (.yield l) #[] #[]] 138)∧Blk V bs #[.int .i64 x.k,.int .i64 i,.int .i64 j] 56 ∧ a'={ tmps:=#[.func (.yield l) #[] #[],.pointer (some ⟨bq,0,none⟩),.pointer (some ⟨bi,0,none⟩),.pointer (some ⟨bj,0,none⟩),.pointer (some ⟨br,0,none⟩),.pointer (some ⟨by0,0,none⟩),.pointer (some ⟨bs,0,none⟩),.string (qT (cst q x.k i j)),undef,undef,.agg #[sl,sr,.string (qT (2 * q.ch)),.string (qT (2 * q.mi)),.string (qT (2 * q.ga)),.string (qT (2 * q.re))],.int .i64 i,.int .i64 j,.func (.func 100) #[] #[.pointer (some ⟨bqq + 1,0,none⟩),.pointer (some ⟨bqq + 2,0,none⟩),.pointer (some ⟨bqq,0,none⟩)],.agg #[.int .i64 x.k,.int .i64 i,.int .i64 j],.string (qT (cst q x.k i j)),undef,undef,undef,undef,undef,undef,undef,undef,undef,undef,undef,undef,undef,undef,undef,undef,undef,undef,undef,undef,undef,undef,undef,undef,undef,undef,undef,undef],defers:=[] })
  (fun pre x a' s A B row h hg hr=>by
   obtain ⟨bs,h1,h2,h3⟩:=h
   exact ⟨bs,hI _ A B row h1 hg hr,ownFrom_cells (I:=fun (_:Unit) V=>Blk V bs #[.int .i64 x.k,.int .i64 i,.int .i64 j] 56) (fun _ V V' h k _=>h.keptC k trivial) _ () A B row h2 hg hr,h3⟩)
  ?assign ?body ?done ?stop
 case assign =>
  rintro l2 pre x V K ⟨h1,h2,h3⟩ hK
  have qv:=below_new V (.cells #[.int .i64 x.k,.int .i64 i,.int .i64 j] 56)
  have kv:=Blk.fresh V #[.int .i64 x.k,.int .i64 i,.int .i64 j] 56
  dsimp only [encS]
  gi_wp2
  exact hK _ _ (keepsFrom_below qv) (KeptC.below qv) ⟨V.heap.size,⟨ownFrom_belowW hJ h1 qv,h2.below qv,h3.below qv⟩,kv,rfl⟩
 case body =>
  rintro l2 pre x a' V ⟨bs,⟨h1,h2,h3⟩,hb,rfl⟩ hlen
  have HNX:Hid (Ret Tryz.prog V 51 #[.agg #[.int .i64 x.k,.int .i64 i,.int .i64 j]] (.tuple #[.int .i64 (nxI x.k i:Nat),.int .i64 (nxJ x.k j:Nat)])):=Lib.hid (by
   have h:=cnext_any x.k i j (by omega) (by omega) V
   rw [nzI_nat,nzJ_nat x.k j x.h1] at h
   exact h)
  have d0:=hb.at_ 0 _ rfl
  have d1:=hb.at_ 1 _ rfl
  have d2:=hb.at_ 2 _ rfl
  gi_wp2_with (first
   | (refine ⟨trivial,fun h=>(by cases h),?_⟩; with_reducible refine (CallsIn.inRound l2 (callsIn_wide.2 (HNX.out _ (Below.refl _ _)))).mono ?_; rintro e V1 ⟨rfl,qv⟩)
   | fail "arm")
  have j1:=ownFrom_belowW hJ h1 qv
  have s1:=h2.below qv
  have ky1:=h3.below qv
  have kb1:=hb.below qv
  have hks:=x.h2
  have hmi:nxI x.k i≤q.L.length:=hks.1
  have hmj:nxJ x.k j≤q.R.length:=hks.2.1
  have l1:nxI x.k i < rb.length:=by omega
  have l2':i < rb.length:=by omega
  have C1:=Lib.hid (s1.tab.cell1 (nxI x.k i) l1)
  have C2:=Lib.hid (s1.tab.cell2 (nxI x.k i) (nxJ x.k j) l1 (by omega))
  have C3:=Lib.hid (s1.tab.cell1 i l2')
  have C4:=Lib.hid (s1.tab.cell2 i j l2' (by omega))
  have LC1:=Lib.hid s1.tab.lt1
  have LC3:=Lib.hid s1.tab.lt1
  have LC2:=Lib.hid (s1.tab.lt2 rb[nxI x.k i] (List.getElem_mem l1))
  have LC4:=Lib.hid (s1.tab.lt2 rb[i] (List.getElem_mem l2'))
  have t1:(nxI x.k i:Int) < (rb.length:Int):=by omega
  have t2:(nxJ x.k j:Int) < ((q.R.length + 1:Nat):Int):=by omega
  have t3:(i:Int) < (rb.length:Int):=by omega
  have t4:(j:Int) < ((q.R.length + 1:Nat):Int):=by omega
  have hbc:=cst_bd q ok x.k i j
  have hb1:=hbd _ _ hmi hmj
  have HAD:=Lib.hid (rAddQ (cst q x.k i j) (rst q (nxI x.k i) (nxJ x.k j)) (by omega) (by omega) V1 (he.kept s1.kept))
  have heq:((qT (cst q x.k i j + rst q (nxI x.k i) (nxJ x.k j))).toList == (rstT q i j).toList)=decide (goodS q i j x.k):=by
   rw [ba_beq,decide_eq_decide]
   unfold rstT goodS
   exact ⟨fun h=>⟨hks,qT_inj h⟩,fun h=>by rw [h.2]⟩
  have KR:=Lib.hid s1.kr
  have KI:=Lib.hid s1.ki
  have KJ:=Lib.hid s1.kj
  have KY:=Lib.hid ky1
  have KS:=Lib.hid kb1
  have S1:=Lib.hid s1
  have QV:=Lib.hid qv
  have J1:=Lib.hid j1
  have HF:=Lib.hid (fltS_snoc q i j pre x)
  have hfl:=fltS_len q i j pre
  have HYY:=Lib.hid (fun V9 (h:J (fltS q i j pre) V9)=>YieldAt.any (n - 1 - 1 - 1) l2 (hY (fltS q i j pre) x V9 h (by omega)))
  unfold encG at HYY
  have hcn:rstT q (nxI x.k i) (nxJ x.k j)=qT (rst q (nxI x.k i) (nxJ x.k j)):=rfl
  rw [hcn] at C2
  have hxk:Hid (x.k=x.k):=Lib.hid rfl
  clear hcn hxk qv j1 s1 ky1 kb1 h1 h2 h3 hb hY hks hbc hb1
  generalize qT (cst q x.k i j + rst q (nxI x.k i) (nxJ x.k j))=tS at *
  generalize qT (rst q (nxI x.k i) (nxJ x.k j))=tA at *
  generalize rstT q i j=tB at *
  generalize qT (cst q x.k i j)=co at *
  generalize rb[nxI x.k i]=r1 at *
  generalize rb[i]=r2 at *
  generalize nxI x.k i=mi at *
  generalize nxJ x.k j=mj at *
  clear hrb hbd
  generalize rb.length=N at *
  generalize q.R.length + 1=M1 at *
  obtain ⟨xk,hxk⟩:∃ xk,x.k=xk:=⟨_,rfl⟩
  rw [hxk] at HF heq
  simp only [hxk] at KS HYY ⊢
  by_cases hg:goodS q i j xk
  ·rw [decide_eq_true hg] at heq
   rw [if_pos hg] at HF
   refine wpIn_phase (.inr ⟨l2,rfl⟩) 24 20 (.v 21 (.string co) :: .v 22 (.slice (some ⟨ob,0,none⟩) N N) :: .v 23 (.int .i64 mi) :: .v 24 (.pointer (some ⟨ob,mi,none⟩)) :: .v 25 (.slice (some ⟨r1,0,none⟩) M1 M1) :: .v 26 (.int .i64 mj) :: .v 27 (.pointer (some ⟨r1,mj,none⟩)) :: .v 28 (.string tA) :: .v 29 (.string tS) :: .v 30 (.slice (some ⟨ob,0,none⟩) N N) :: .v 31 (.int .i64 i) :: .v 32 (.pointer (some ⟨ob,i,none⟩)) :: .v 33 (.slice (some ⟨r2,0,none⟩) M1 M1) :: .v 34 (.int .i64 j) :: .v 35 (.pointer (some ⟨r2,j,none⟩)) :: .v 36 (.string tB) :: .v 37 (.bool true) :: .v 38 (.bool true) :: .v 39 (.func (.yield l) #[] #[]) :: .v 40 (.agg #[.int .i64 xk,.int .i64 i,.int .i64 j]) :: []) [] [⟨br,#[.slice (some ⟨ob,0,none⟩) N N], 99, none⟩,⟨bi,#[.int .i64 i], 3, none⟩,⟨bj,#[.int .i64 j], 3, none⟩,⟨by0,#[.func (.yield l) #[] #[]], 138, none⟩,⟨bs,#[.int .i64 xk,.int .i64 i,.int .i64 j], 56, none⟩] [] [] [] [] [] (by kernel_rfl) (by intro hL; obtain ⟨_,_,hL⟩:=hL; exact hL.elim) (Below.refl _ _) ⟨KR.out,KI.out,KJ.out,KY.out,KS.out,trivial⟩ trivial ⟨pu,ld 0 0,pu,?_,?_,pu,?_,?_,cl HAD.out,ld 0 0,ld 1 0,?_,?_,ld 2 0,?_,?_,?_,pu,ld 3 0,ld 4 0,trivial⟩ ?_
   ·intro L a U ho J hn dd KK kk; refine .free rfl ?_; have r1:=J.read 1 rfl (dd.get 1 rfl); have r2:=J.read 2 rfl (dd.get 2 rfl); go_simp; exact kk.out _ _ (J.st 3 rfl rfl)
   ·intro L a U ho J hn dd KK kk; refine .free rfl ?_; have r3:=J.read 3 rfl (dd.get 3 rfl); have e0:=(J.bb.cell (p:=⟨ob,mi,none⟩) LC1.out).trans C1.out; go_simp; exact kk.out _ _ (J.st 4 rfl rfl)
   ·intro L a U ho J hn dd KK kk; refine .free rfl ?_; have r4:=J.read 4 rfl (dd.get 4 rfl); have r5:=J.read 5 rfl (dd.get 5 rfl); go_simp; exact kk.out _ _ (J.st 6 rfl rfl)
   ·intro L a U ho J hn dd KK kk; refine .free rfl ?_; have r6:=J.read 6 rfl (dd.get 6 rfl); have e0:=(J.bb.cell (p:=⟨r1,mj,none⟩) LC2.out).trans C2.out; go_simp; exact kk.out _ _ (J.st 7 rfl rfl)
   ·intro L a U ho J hn dd KK kk; refine .free rfl ?_; have r9:=J.read 9 rfl (dd.get 9 rfl); have r10:=J.read 10 rfl (dd.get 10 rfl); go_simp; exact kk.out _ _ (J.st 11 rfl rfl)
   ·intro L a U ho J hn dd KK kk; refine .free rfl ?_; have r11:=J.read 11 rfl (dd.get 11 rfl); have e0:=(J.bb.cell (p:=⟨ob,i,none⟩) LC3.out).trans C3.out; go_simp; exact kk.out _ _ (J.st 12 rfl rfl)
   ·intro L a U ho J hn dd KK kk; refine .free rfl ?_; have r12:=J.read 12 rfl (dd.get 12 rfl); have r13:=J.read 13 rfl (dd.get 13 rfl); go_simp; exact kk.out _ _ (J.st 14 rfl rfl)
   ·intro L a U ho J hn dd KK kk; refine .free rfl ?_; have r14:=J.read 14 rfl (dd.get 14 rfl); have e0:=(J.bb.cell (p:=⟨r2,j,none⟩) LC4.out).trans C4.out; go_simp; exact kk.out _ _ (J.st 15 rfl rfl)
   ·intro L a U ho J hn dd KK kk; refine .free rfl ?_; have r8:=J.read 8 rfl (dd.get 8 rfl); have r15:=J.read 15 rfl (dd.get 15 rfl); go_simp; exact kk.out _ _ (J.st 16 rfl rfl)
   rintro σ V9 _ ⟨_,_,_,KY9,_⟩ _ _ B9
   simp only [slotsOf,finX,nval,nvalN,nvalA,Nat.reduceBEq,cond_true,cond_false,putAll,Act.put,List.setIfInBounds_toArray,List.set_cons_succ,List.set_cons_zero]
   simp only [List.drop_succ_cons,List.drop_zero]
   obtain ⟨fn,tmps,assign,body,hy,hR⟩:=HYY.out V9 (ownFrom_belowW hJ J1.out B9.out)
   have S9:=Lib.hid (S1.out.below B9.out)
   have QQ:=Lib.hid (QV.out.trans (B9.out.mono QV.out.size))
   clear HYY KR KI KJ KY KS S1 J1 B9 QV C1 C2 C3 C4 LC1 LC2 LC3 LC4 HAD
   gi_wp2
   refine ⟨fun h=>(by cases h),hR.mono ?_⟩
   clear hy hR
   rintro e V3 ⟨kf,(⟨rfl,hJ3,hk3⟩ | ⟨rfl,hJx3⟩)⟩
   ·have HK3:=Lib.hid hk3
    have HKF:=Lib.hid kf
    rw [← HF.out] at hJ3
    clear hk3 kf
    gi_wp2
    exact ⟨(keepsFrom_below QQ.out).trans (KeepsFrom.mono HKF.out (by omega)),(KeptC.below QQ.out).trans HK3.out,hJ3,S9.out.keep hM HK3.out,KY9.out.keptC HK3.out hMy⟩
   ·have HKF:=Lib.hid kf
    rw [← HF.out] at hJx3
    clear kf
    gi_wp2
    exact ⟨(keepsFrom_below QQ.out).trans (KeepsFrom.mono HKF.out (by omega)),rfl,hJx3⟩
  ·rw [decide_eq_false hg] at heq
   rw [if_neg hg,List.append_nil] at HF
   refine wpIn_tab (.v 21 (.string co) :: .v 22 (.slice (some ⟨ob,0,none⟩) N N) :: .v 23 (.int .i64 mi) :: .v 24 (.pointer (some ⟨ob,mi,none⟩)) :: .v 25 (.slice (some ⟨r1,0,none⟩) M1 M1) :: .v 26 (.int .i64 mj) :: .v 27 (.pointer (some ⟨r1,mj,none⟩)) :: .v 28 (.string tA) :: .v 29 (.string tS) :: .v 30 (.slice (some ⟨ob,0,none⟩) N N) :: .v 31 (.int .i64 i) :: .v 32 (.pointer (some ⟨ob,i,none⟩)) :: .v 33 (.slice (some ⟨r2,0,none⟩) M1 M1) :: .v 34 (.int .i64 j) :: .v 35 (.pointer (some ⟨r2,j,none⟩)) :: .v 36 (.string tB) :: .v 37 (.bool false) :: .v 38 (.bool false) :: .v 39 undef :: .v 40 undef :: .v 41 undef :: .v 42 undef :: .v 43 (.bool false) :: []) [] [⟨br,#[.slice (some ⟨ob,0,none⟩) N N], 99, none⟩,⟨bi,#[.int .i64 i], 3, none⟩,⟨bj,#[.int .i64 j], 3, none⟩,⟨by0,#[.func (.yield l) #[] #[]], 138, none⟩,⟨bs,#[.int .i64 xk,.int .i64 i,.int .i64 j], 56, none⟩] [] [] [] [] [] (by kernel_rfl) (by intro hL; obtain ⟨_,_,hL⟩:=hL; exact hL.elim) (Below.refl _ _) ⟨KR.out,KI.out,KJ.out,KY.out,KS.out,trivial⟩ trivial ⟨pu,ld 0 0,pu,?_,?_,pu,?_,?_,cl HAD.out,ld 0 0,ld 1 0,?_,?_,ld 2 0,?_,?_,?_,pu,sk,sk,sk,sk,pu,trivial⟩ ?_
   ·intro L a U ho J hn dd KK kk; refine .free rfl ?_; have r1:=J.read 1 rfl (dd.get 1 rfl); have r2:=J.read 2 rfl (dd.get 2 rfl); go_simp; exact kk.out _ _ (J.st 3 rfl rfl)
   ·intro L a U ho J hn dd KK kk; refine .free rfl ?_; have r3:=J.read 3 rfl (dd.get 3 rfl); have e0:=(J.bb.cell (p:=⟨ob,mi,none⟩) LC1.out).trans C1.out; go_simp; exact kk.out _ _ (J.st 4 rfl rfl)
   ·intro L a U ho J hn dd KK kk; refine .free rfl ?_; have r4:=J.read 4 rfl (dd.get 4 rfl); have r5:=J.read 5 rfl (dd.get 5 rfl); go_simp; exact kk.out _ _ (J.st 6 rfl rfl)
   ·intro L a U ho J hn dd KK kk; refine .free rfl ?_; have r6:=J.read 6 rfl (dd.get 6 rfl); have e0:=(J.bb.cell (p:=⟨r1,mj,none⟩) LC2.out).trans C2.out; go_simp; exact kk.out _ _ (J.st 7 rfl rfl)
   ·intro L a U ho J hn dd KK kk; refine .free rfl ?_; have r9:=J.read 9 rfl (dd.get 9 rfl); have r10:=J.read 10 rfl (dd.get 10 rfl); go_simp; exact kk.out _ _ (J.st 11 rfl rfl)
   ·intro L a U ho J hn dd KK kk; refine .free rfl ?_; have r11:=J.read 11 rfl (dd.get 11 rfl); have e0:=(J.bb.cell (p:=⟨ob,i,none⟩) LC3.out).trans C3.out; go_simp; exact kk.out _ _ (J.st 12 rfl rfl)
   ·intro L a U ho J hn dd KK kk; refine .free rfl ?_; have r12:=J.read 12 rfl (dd.get 12 rfl); have r13:=J.read 13 rfl (dd.get 13 rfl); go_simp; exact kk.out _ _ (J.st 14 rfl rfl)
   ·intro L a U ho J hn dd KK kk; refine .free rfl ?_; have r14:=J.read 14 rfl (dd.get 14 rfl); have e0:=(J.bb.cell (p:=⟨r2,j,none⟩) LC4.out).trans C4.out; go_simp; exact kk.out _ _ (J.st 15 rfl rfl)
   ·intro L a U ho J hn dd KK kk; refine .free rfl ?_; have r8:=J.read 8 rfl (dd.get 8 rfl); have r15:=J.read 15 rfl (dd.get 15 rfl); go_simp; exact kk.out _ _ (J.st 16 rfl rfl)
   rintro σ V9 _ ⟨_,_,_,KY9,_⟩ _ _ B9
   simp only [slotsOf,finX,nval,nvalN,nvalA,Nat.reduceBEq,cond_true,cond_false,putAll,Act.put,List.setIfInBounds_toArray,List.set_cons_succ,List.set_cons_zero]
   have J9:=ownFrom_belowW hJ J1.out B9.out
   rw [← HF.out] at J9
   have S9:=Lib.hid (S1.out.below B9.out)
   have QQ:=Lib.hid (QV.out.trans (B9.out.mono QV.out.size))
   clear HYY KR KI KJ KY KS S1 J1 B9 QV C1 C2 C3 C4 LC1 LC2 LC3 LC4 HAD
   gi_wp2
   exact ⟨keepsFrom_below QQ.out,KeptC.below QQ.out,J9,S9.out,KY9.out⟩
 case done =>
  rintro D ys V hD rfl ⟨h1,h2,h3⟩ hK
  go_wp2
  refine ⟨by simp,.inl ⟨_,_,rfl,run_takeDeferred hK,?_⟩⟩
  exact ⟨_,results_none rfl _ _ _,⟨_,rfl⟩,.inl ⟨_,rfl,hJ.putObj _ h1 (by omega) hK rfl⟩⟩
 case stop =>
  rintro D c pre V hD hpre ⟨rfl,hjx⟩ hK
  go_wp2
  refine ⟨by simp,.inl ⟨_,_,rfl,run_takeDeferred hK,?_⟩⟩
  exact ⟨_,results_none rfl _ _ _,⟨_,rfl⟩,.inr ⟨_,fltS_pre hpre,hJx.putObj _ hjx (by omega) hK rfl⟩⟩
theorem good_stops (n:Nat) (q:CQ) (ok:OkQ q) (sl sr:Value) (i j:Nat) (hi:i≤q.L.length) (hj:j≤q.R.length) (w0:World) (he:Env w0) (hq:QAt w0 sl sr q) (bq br bi bj ob:Nat) (rb:List Nat) (hrb:rb.length=q.L.length + 1) (hbd:∀ a b,a≤q.L.length→b≤q.R.length→(rst q a b).natAbs < 800000) (M:Nat→TypeId→Prop) (hM:FarM w0 M ([bq,br,bi,bj,ob] ++ rb) [32, 99, 3, 71, 28]) (w:World) (hMn:∀ g t,w.heap.size≤g→t ∈ ([32, 3, 138]:List TypeId)→¬ M g t) (hS:StG w0 bq br bi bj ob rb q sl sr i j w) :
  SeqJ n Tryz.prog 79 #[.pointer (some ⟨bq,0,none⟩),.pointer (some ⟨bi,0,none⟩),.pointer (some ⟨bj,0,none⟩),.pointer (some ⟨br,0,none⟩)] (encG q i j) (KeptC (fun g t=>¬ M g t)) (fun ys=>ys=gdS q i j) (fun pre=>pre <+: gdS q i j) 5 w :=
 fun l J Jx W hW hsz hJ hJx hY h0=>good1_in n q ok sl sr i j hi hj w0 he hq bq br bi bj ob rb hrb hbd l (w.heap.size + 2) M hM J Jx W hsz (fun g t h=>hMn g t (Nat.le_trans hW.size h)) hJ hJx hY (hS.below hW) h0

end Go.Proofs.YthhkmihjnnfpgaaGreatDoor
