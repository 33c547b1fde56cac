/- The walks of the division of magnitudes. -/
import Derived.Test.YthhkmihjnnfpgaaGreatDoorGMag
import Derived.Test.YthhkmihjnnfpgaaGreatDoorGText
import Derived.Deep.RegionLaw
import Derived.Laws.ResultCell
import Derived.Deep.CutRange
/- The walk of integer.divide where the divisor has one piece. -/
namespace Go.Proofs.YthhkmihjnnfpgaaGreatDoor
set_option linter.all false
open Go.RowKit Go.Shelf

attribute [local go_sem] Oper.semAt_some

set_option maxHeartbeats 1000000 in
theorem divide_less (A A':Option Addr) (c c' a b:Nat) (w:World) (ha:Sl w .u64 A c (lim9 a)) (hb:Sl w .u64 A' c' (lim9 b)) (hla:(lim9 a).length≤60000) (hlb:(lim9 b).length≤60000) (hlt:a < b) :
  Calls Tryz.prog 113 #[.slice A (lim9 a).length c,.slice A' (lim9 b).length c'] w fun e w'=>e=.returned (.tuple #[.slice none 0 0,.slice A (lim9 a).length c])∧Below w.heap.size w w':=by
 have ho:=fun W hb=>order_any A A' c c' a b W (ha.below hb) (Sl.below ‹Sl w .u64 A' c' (lim9 b)› hb) (by omega) (by omega)
 rw [cmpN_lt hlt] at ho
 have HO:=Lib.hid ho
 clear ho ha hb
 go_enter Tryz.func113, Tryz.ntmps113
 go_wp2_with (go_at_call 84; refine (HO.out _ (((Below.refl _ _).alloc (Nat.le_refl _) _).alloc (by simp) _)).mono ?_; rintro e w' ⟨rfl,n,rfl⟩)
 refine bodyPost_ret (v:=.tuple #[.slice none 0 0,.slice A (lim9 a).length c]) (by simp [results,Tryz.results113, go_sem]) rfl ⟨rfl,?_⟩
 exact (((((Below.refl _ _).alloc (Nat.le_refl _) _).alloc (by simp) _).trans ((Drew.of _ n).below _)).setCell (p:=⟨w.heap.size + 1,0,none⟩) (by simp) _)

theorem heap_set0 {w:World} {g:Nat} {t:TypeId} {v:Value} (h:w.heap[g]?=some (.cells #[v] t (0,0))) (u:Value):(w.setCell ⟨g,0,none⟩ u).heap[g]?=some (.cells #[u] t (0,0)):=by
 simp [World.setCell,Array.getElem?_modify,h]
theorem heap_far {w:World} {g:Nat} {o:Obj} (h:w.heap[g]?=some o) {p:Addr} (hp:g ≠ p.block) (u:Value):(w.setCell p u).heap[g]?=some o:=(Below.heap_setCell w p u g hp).trans h
theorem heap_more {w:World} {g:Nat} {o:Obj} (h:w.heap[g]?=some o) (o':Obj):(w.alloc o').heap[g]?=some o:=(Below.heap_alloc w o' g (Array.getElem?_eq_some_iff.1 h).1).trans h
theorem heap_drewN {w:World} {g:Nat} {o:Obj} (h:w.heap[g]?=some o) (n:Nat):(w.drewN n).heap[g]?=some o:=h

theorem heap_put {w:World} {g D:Nat} {o:Obj} (h:w.heap[g]?=some o) (hne:g ≠ D) (o':Obj):(w.putObj D o').heap[g]?=some o:=by
 simp [World.putObj,h,Ne.symm hne]

theorem Tab.put {w:World} {g D:Nat} {e:TypeId} {k:IntKind} {l:List Int} (h:Tab w g e k l) (hne:g ≠ D) (o':Obj):Tab (w.putObj D o') g e k l :=
 heap_put h hne o'

theorem sl_one {W:World} {g:Nat} {r:Int} (hc:W.cell? ⟨g,0,none⟩=some (.int .u64 r)) (hg:g < W.heap.size):Sl W .u64 (some ⟨g,0,none⟩) 1 [r] :=
 ⟨by simp,by simp only [maxLen]; omega,fun _=>⟨g,0,rfl,hg,fun j hj=>by
  have:j=0:=by simpa using hj
  subst this
  exact hc⟩⟩

def dstep (b0:Int) (s:List Int × Int) (x:Int × Int):List Int × Int:=(s.1.set x.1.toNat ((s.2 * 1000000000 + x.2) / b0),(s.2 * 1000000000 + x.2) % b0)

def DivW {β:Type} (w:World) (Bs Q R:Nat) (A:Option Addr) (L c:Nat) (V2:Value) (b0:Int) (f:β→List Int × Int) (s:β) (W:World):Prop :=
 (Tab W Q 165 .u64 (f s).1∧(f s).1.length=L)∧(W.heap[R]?=some (.cells #[.int .u64 (f s).2] 165 (0,0))∧0≤(f s).2∧(f s).2 < b0)∧W.heap[w.heap.size + 1]?=some (.cells #[.slice (some ⟨Q,0,none⟩) L L] 141 (0,0)) ∧
  W.heap[w.heap.size]?=some (.cells #[V2] 141 (0,0))∧W.heap[Bs]?=some (.cells #[.slice A L c] 141 (0,0))∧Below w.heap.size w W

theorem divW_turn {β:Type} {w:World} {Bs Q R:Nat} {A:Option Addr} {L c:Nat} {V2:Value} {b0:Int} {f:β→List Int × Int} (B:Nat) (hB:w.heap.size≤B):OwnFrom B (DivW w Bs Q R A L c V2 b0 f):=by
 rintro s W W' row ⟨⟨h1,h1'⟩,⟨h2,h2'⟩,h3,h4,h5,h6⟩ hg hr
 have hnc:∀ {g:Nat} {cs:Array Value} {t:TypeId},W.heap[g]?=some (.cells cs t (0,0))→W'.heap[g]?=some (.cells cs t (0,0)):=fun {g cs t} hgc=>by
  rw [hg.block g (Array.getElem?_eq_some_iff.1 hgc).1 (fun e=>by
   obtain ⟨_,_,ho,hc⟩:=hr g e.symm
   rw [hgc] at ho
   injection ho with ho
   subst ho
   cases hc)]
  exact hgc
 refine ⟨⟨hnc h1,h1'⟩,⟨hnc h2,h2'⟩,hnc h3,hnc h4,hnc h5,h6.grown hg h6.size (fun r e=>?_)⟩
 have:=(hr r e).1
 omega

theorem dstep_all (Z:List Int) (hd:Digs 1000000000 Z) (hl:0 < Z.length) (b:Int) (hb:0 < b):∀ k,k≤Z.length →
  ∃ ql r,((uptoF (backP Z hd hl) k).map P9.v).foldl (dstep b) (List.replicate Z.length 0,0)=(ql,r)∧ql.length=Z.length∧Digs 1000000000 ql∧0≤r∧r < b ∧
   valB 1000000000 (Z.drop (Z.length - k))=valB 1000000000 (ql.drop (Z.length - k)) * b + r:=by
 intro k
 induction k with
 | zero =>
  intro _
  refine ⟨_,_,rfl,by simp,Digs.zeros (by omega) _,by simp,by simpa using hb,?_⟩
  rw [Nat.sub_zero,List.drop_length,List.drop_of_length_le (by simp)]
  simp [valB]
 | succ k ih =>
  intro hk
  obtain ⟨ql,r,e,h1,h2,h3,h4,h5⟩:=ih (by omega)
  have hz:=hd.at_ (by omega) (Z.length - 1 - k)
  have hx:(backF Z k).1.toNat=Z.length - 1 - k:=by simp only [backF]; omega
  have hx2:(backF Z k).2=Z[Z.length - 1 - k]?.getD 0:=rfl
  rw [uptoF_succ,List.map_append,List.foldl_append,e]
  simp only [List.map_cons,List.map_nil,List.foldl_cons,List.foldl_nil,dstep,backP_eq hd hl (show k < Z.length by omega),hx,hx2]
  obtain ⟨m,hm⟩:∃ m,Z.length - 1 - k=m:=⟨_,rfl⟩
  rw [hm] at hz ⊢
  have hsub:Z.length - (k + 1)=m:=by omega
  have hsub2:Z.length - k=m + 1:=by omega
  rw [hsub2] at h5
  rw [hsub]
  generalize hzz:Z[m]?.getD 0=z at *
  have q0:0≤(r * 1000000000 + z) / b:=Int.ediv_nonneg (by omega) (by omega)
  have q1:(r * 1000000000 + z) / b < 1000000000:=by
   refine Int.ediv_lt_of_lt_mul hb ?_
   have:(r + 1) * 1000000000≤b * 1000000000:=Int.mul_le_mul_of_nonneg_right (by omega) (by omega)
   rw [Int.mul_comm 1000000000 b]
   omega
  refine ⟨_,_,rfl,by simpa using h1,h2.set _ q0 q1,Int.emod_nonneg _ (by omega),Int.emod_lt_of_pos _ hb,?_⟩
  have hml:m < Z.length:=by omega
  rw [drop_getD Z m hml,hzz]
  have e2:(ql.set m ((r * 1000000000 + z) / b)).drop m=((r * 1000000000 + z) / b) :: ql.drop (m + 1):=by
   rw [drop_getD _ m (by simp; omega),List.drop_set_of_lt (by omega)]
   simp [h1,hml]
  rw [e2]
  simp only [valB,h5]
  have e3:=Int.emod_add_mul_ediv (r * 1000000000 + z) b
  generalize (r * 1000000000 + z) % b=rr at *
  generalize (r * 1000000000 + z) / b=q at *
  generalize valB 1000000000 (ql.drop (m + 1))=t at *
  grind

theorem dstep_end (a b:Nat) (hb:0 < b) (Z:List Int) (hZ:lim9 a=Z) (hd:Digs 1000000000 Z) (hl:0 < Z.length) :
  ∃ ql r,((uptoF (backP Z hd hl) Z.length).map P9.v).foldl (dstep b) (List.replicate Z.length 0,0)=(ql,r)∧ql.length=Z.length∧Digs 1000000000 ql∧valB 1000000000 ql=((a / b:Nat):Int)∧r=((a % b:Nat):Int):=by
 obtain ⟨ql,r,e,h1,h2,h3,h4,h5⟩:=dstep_all Z hd hl b (by omega) Z.length (Nat.le_refl _)
 refine ⟨ql,r,e,h1,h2,?_⟩
 rw [Nat.sub_self,List.drop_zero,List.drop_zero,← hZ,lim9_val] at h5
 have h6:(a:Int) / b=valB 1000000000 ql∧(a:Int) % b=r:=by
  refine (Int.ediv_emod_unique (by omega)).2 ⟨?_,h3,h4⟩
  rw [h5,Int.mul_comm,Int.add_comm]
 exact ⟨by rw [← h6.1]; simp,by rw [← h6.2]; simp⟩

set_option maxRecDepth 100000 in
set_option maxHeartbeats 4000000 in
theorem divide_one (A A':Option Addr) (c c' a b:Nat) (w:World) (ha:Sl w .u64 A c (lim9 a)) (hb:Sl w .u64 A' c' [(b:Int)]) (hla:(lim9 a).length≤60000) (hb0:0 < b) (hb9:b < 1000000000) (hge:b≤a) :
  Calls Tryz.prog 113 #[.slice A (lim9 a).length c,.slice A' 1 c'] w fun e w'=>∃ A1 c1 A2 c2,e=.returned (.tuple #[.slice A1 (lim9 (a / b)).length c1,.slice A2 (lim9 (a % b)).length c2]) ∧
   Sl w' .u64 A1 c1 (lim9 (a / b))∧Sl w' .u64 A2 c2 (lim9 (a % b))∧Below w.heap.size w w':=by
 have hl:0 < (lim9 a).length:=by
  rcases Nat.eq_zero_or_pos (lim9 a).length with h | h
  ·have:=(lim_len_zero 1000000000 (by omega) a).1 h
   omega
  ·exact h
 have hbl:lim9 b=[(b:Int)]:=by
  unfold lim9
  rw [lim_pos 1000000000 (by omega) b hb0,Nat.mod_eq_of_lt hb9,Nat.div_eq_of_lt hb9,lim_zero]
 obtain ⟨r0,hr0⟩:∃ r,cmpN a b=r:=⟨_,rfl⟩
 have hr1:0≤r0:=by rw [← hr0]; unfold cmpN; rw [if_neg (by omega)]; split <;> omega
 have ho:=fun W hW=>order_any A A' c c' a b W (ha.below hW) (by rw [hbl]; exact hb.below hW) (by omega) (by rw [hbl]; simp)
 rw [hr0,hbl] at ho
 have HO:=Lib.hid ho
 clear ho hr0 hbl
 obtain ⟨bb,ob,rfl,hbb,hcb⟩:=hb.at_ (by simp)
 have gb:w.cell? ⟨bb,ob + 0,none⟩=some (.int .u64 (b:Int)):=hcb 0 (by simp)
 obtain ⟨Z,hZ⟩:∃ Z,lim9 a=Z:=⟨_,rfl⟩
 have hd:Digs 1000000000 Z:=by rw [← hZ]; exact lim9_digs a
 rw [hZ] at ha hla hl HO ⊢
 have HZ:=Lib.hid hZ
 have GB:=Lib.hid gb
 clear hZ hcb gb
 have hmk:=run_mkn Elem64 Z.length (by omega) (Z.length:Int) rfl
 refine (callsIn_wide (n:=9)).1 ?_
 have hro:Fence.wide.round=none:=rfl
 refine callsIn_of_wp_marks Tryz.func113 rfl trivial ?_ hro
 simp only [Tryz.ntmps113, List.size_toArray,List.length_cons,List.length_nil,Nat.reduceAdd,Nat.reduceSub,Array.replicate_succ,Array.replicate_zero,List.push_toArray,List.append_toArray,List.nil_append,List.cons_append]
 gi_wp2_with (first
  | (refine ⟨trivial,?_⟩; gi_at_call 84; refine (callsIn_wide.2 (HO.out _ (((Below.refl _ _).alloc (Nat.le_refl _) _).alloc (by simp) _))).mono ?_; rintro e w' ⟨rfl,n0,rfl⟩)
  | (refine ⟨trivial,?_⟩; gi_at_call 105; refine (back_in Fence.wide _ trivial hro _ _ _ _).mono ?_; rintro e w' ⟨rfl,rfl⟩))
 obtain ⟨W1,hW1⟩:∃ W1,((((((w.alloc (Obj.cells #[Value.slice (some { block:=bb,off:=ob }) 1 c'] 141)).alloc (Obj.cells #[Value.slice none 0 0] 141)).drewN n0).setCell { block:=w.heap.size + 1,off:=0 } (Value.slice (some { block:=w.heap.size + 1 + 1,off:=0 }) Z.length Z.length)).alloc (Obj.cells (zrow IntKind.u64 Z.length) 165)).alloc (Obj.cells #[Value.int IntKind.u64 0] 165))=W1:=⟨_,rfl⟩
 rw [hW1]
 have hs1:W1.heap.size=w.heap.size + 1 + 1 + 1 + 1:=by rw [← hW1]; simp [World.setCell]
 have e1:((w.alloc (Obj.cells #[Value.slice (some { block:=bb,off:=ob }) 1 c'] 141)).alloc (Obj.cells #[Value.slice none 0 0] 141)).heap[w.heap.size + 1]?=some (.cells #[.slice none 0 0] 141 (0,0)):=by
  have:=heap_alloc_new (w.alloc (Obj.cells #[Value.slice (some { block:=bb,off:=ob }) 1 c'] 141)) (Obj.cells #[Value.slice none 0 0] 141)
  rw [World.size_alloc] at this
  exact this
 have e2:(w.alloc (Obj.cells #[Value.slice (some { block:=bb,off:=ob }) 1 c'] 141)).heap[w.heap.size]?=some (.cells #[.slice (some { block:=bb,off:=ob }) 1 c'] 141 (0,0)):=heap_alloc_new w _
 have f1:W1.heap[w.heap.size + 1]?=some (.cells #[.slice (some ⟨w.heap.size + 1 + 1,0,none⟩) Z.length Z.length] 141 (0,0)):=by
  rw [← hW1]; exact heap_more (heap_more (heap_set0 (heap_drewN e1 n0) _) _) _
 have f2:W1.heap[w.heap.size]?=some (.cells #[.slice (some ⟨bb,ob,none⟩) 1 c'] 141 (0,0)):=by
  rw [← hW1]; exact heap_more (heap_more (heap_far (heap_drewN (heap_more e2 _) n0) (by simp) _) _) _
 have f3:Tab W1 (w.heap.size + 1 + 1) 165 .u64 (List.replicate Z.length 0):=by
  rw [← hW1]
  refine Tab.alloc ?_ _
  have:=Tab.made ((((w.alloc (Obj.cells #[Value.slice (some { block:=bb,off:=ob }) 1 c'] 141)).alloc (Obj.cells #[Value.slice none 0 0] 141)).drewN n0).setCell { block:=w.heap.size + 1,off:=0 } (Value.slice (some { block:=w.heap.size + 1 + 1,off:=0 }) Z.length Z.length)) 165 .u64 Z.length
  have hz:((((w.alloc (Obj.cells #[Value.slice (some { block:=bb,off:=ob }) 1 c'] 141)).alloc (Obj.cells #[Value.slice none 0 0] 141)).drewN n0).setCell { block:=w.heap.size + 1,off:=0 } (Value.slice (some { block:=w.heap.size + 1 + 1,off:=0 }) Z.length Z.length)).heap.size=w.heap.size + 1 + 1:=by simp [World.setCell]
  rw [hz] at this
  exact this
 have f4:W1.heap[w.heap.size + 1 + 1 + 1]?=some (.cells #[.int .u64 0] 165 (0,0)):=by
  rw [← hW1]
  have:=heap_alloc_new (((((w.alloc (Obj.cells #[Value.slice (some { block:=bb,off:=ob }) 1 c'] 141)).alloc (Obj.cells #[Value.slice none 0 0] 141)).drewN n0).setCell { block:=w.heap.size + 1,off:=0 } (Value.slice (some { block:=w.heap.size + 1 + 1,off:=0 }) Z.length Z.length)).alloc (Obj.cells (zrow IntKind.u64 Z.length) 165)) (Obj.cells #[Value.int IntKind.u64 0] 165)
  simpa [World.setCell] using this
 have f5:Below w.heap.size w W1:=by
  rw [← hW1]
  refine Below.alloc (Below.alloc ?_ (by simp [World.setCell]; omega) _) (by simp [World.setCell]; omega) _
  exact (((((Below.refl _ _).alloc (Nat.le_refl _) _).alloc (by simp) _).trans ((Drew.of _ n0).below _)).setCell (p:=⟨w.heap.size + 1,0,none⟩) (by simp) _)
 rw [show w.heap.size + 1 + 1 + 1 + 1=W1.heap.size from hs1.symm]
 have F1:=Lib.hid f1
 have F2:=Lib.hid f2
 have F3:=Lib.hid f3
 have F4:=Lib.hid f4
 have F5:=Lib.hid f5
 have hsz:w.heap.size + 3 < W1.heap.size:=by omega
 clear e1 e2 f1 f2 f3 f4 f5 hs1 hW1 HO
 refine wpIn_rangeFunc_ownG hro (by omega) (gf := 120) (lb:=#[.pointer (some ⟨W1.heap.size,0,none⟩)]) rfl trivial (enters_of Tryz.func120 (by kernel_rfl) rfl)
  (back_stops (α:=P9 Z.length) P9.v (backP Z hd hl) Fence.wide _ trivial hro (by omega) W1.heap.size w.heap.size A c Z (by omega) (fun j hj=>backP_eq hd hl hj) (W1.alloc (.cells #[.slice A Z.length c] 141)) (by simp) (by simp; omega) (World.cell?_alloc_at _ _ _ _ rfl) (fun h=>?hcells))
  KeptAt.trans (KeptAt.put (fun g hg=>by simp; rcases hg with h | h <;> omega)) (Below.refl _ _) (fun _=>rfl)
  (DivW w W1.heap.size (w.heap.size + 1 + 1) (w.heap.size + 1 + 1 + 1) A Z.length c (.slice (some ⟨bb,ob,none⟩) 1 c') b (fun pre:List (P9 Z.length)=>(pre.map P9.v).foldl (dstep b) (List.replicate Z.length 0,0))) (fun _ _ _=>False) (divW_turn _ (by simp; omega)) (fun _ _ _ _ _ hs _ _=>hs)
  ⟨⟨F3.out.alloc _,by simp⟩,⟨heap_more F4.out _,by simp,by simp; omega⟩,heap_more F1.out _,heap_more F2.out _,heap_alloc_new W1 _,F5.out.alloc (by omega) _⟩ ?a₁ ?assign ?body ?done ?stop
 case hcells =>
  obtain ⟨b,o,e,hb,hc⟩:=ha.at_ h
  exact ⟨b,o,e,hb,fun j hj=>((F5.out.alloc (by omega) _).cell (p:=⟨b,o + j,none⟩) hb).trans (hc j hj)⟩
 case assign =>
  intro l x W K hK
  gi_wp2
  exact hK
 case body =>
  rintro l pre ⟨⟨i,xv⟩,hx1,hx2,hx3,hx4⟩ W hdw hlt
  obtain ⟨j,rfl⟩:=Int.eq_ofNat_of_zero_le hx1
  dsimp only at hx2 hx3 hx4 ⊢
  unfold DivW at hdw
  dsimp only at hdw
  generalize hst:(pre.map P9.v).foldl (dstep b) (List.replicate Z.length 0,0)=st at *
  obtain ⟨ql,r⟩:=st
  have HST:=Lib.hid hst
  clear hst
  obtain ⟨⟨t1,t2⟩,⟨r1,r2,r3⟩,q1,b1,s1,bel⟩:=hdw
  dsimp only at t1 t2 r1 r2 r3
  have hj:j < Z.length:=by omega
  have cR:W.cell? ⟨w.heap.size + 1 + 1 + 1,0,none⟩=some (.int .u64 r):=by rw [Lib.cell_of_heap r1]; rfl
  have fR:=Lib.frozen_of_heap r1 0
  have cQ:W.cell? ⟨w.heap.size + 1,0,none⟩=some (.slice (some ⟨w.heap.size + 1 + 1,0,none⟩) Z.length Z.length):=by rw [Lib.cell_of_heap q1]; rfl
  have cB:W.cell? ⟨w.heap.size,0,none⟩=some (.slice (some ⟨bb,ob,none⟩) 1 c'):=by rw [Lib.cell_of_heap b1]; rfl
  have cb:W.cell? ⟨bb,ob,none⟩=some (.int .u64 (b:Int)):=(bel.cell (p:=⟨bb,ob,none⟩) hbb).trans GB.out
  have cJ:=t1.cell j (by omega)
  have fJ:=t1.frozen j
  generalize ql[j]?.getD 0=oj at *
  have T1:=Lib.hid t1
  have T2:=Lib.hid t2
  have R1:=Lib.hid r1
  have Q1:=Lib.hid q1
  have B1:=Lib.hid b1
  have S1:=Lib.hid s1
  have BEL:=Lib.hid bel
  clear t1 t2 r1 q1 b1 s1 bel
  have hrr0:0≤r * 1000000000 + xv:=by omega
  have hrr1:r * 1000000000 + xv < 2000000000000000000:=by omega
  gi_wp2
  obtain ⟨rr,hrr⟩:∃ rr,r * 1000000000 + xv=rr:=⟨_,rfl⟩
  rw [hrr] at hrr0 hrr1 ⊢
  have HRR:=Lib.hid hrr
  refine wpIn_region_any (by kernel_rfl) (anyIn_of_any (by kernel_rfl) (by rintro ⟨_,_,h⟩; exact h) _ _ _ _
   (two_region (by kernel_rfl) (by kernel_rfl) _ _ w.heap.size (w.heap.size + 1) (w.heap.size + 1 + 1) (w.heap.size + 1 + 1 + 1) bb ob c' Z.length j rr b (.int .u64 oj)
    (by simp) rfl rfl rfl rfl ?d1 ?d2 ?d3 ?d4 ?d5 ?d6 ?d7 hj (by omega) hrr0 hrr1 (by omega) (by omega) (by omega) (by omega) (by omega) ?fin))
  case d1=>exact (World.cell?_setCell_other _ _ _ _ (by simp)).trans cB
  case d2=>exact (World.cell?_setCell_other _ _ _ _ (by simp)).trans cQ
  case d3=>exact World.cell?_setCell_same _ _ _ cR
  case d4=>exact (World.frozen?_setCell ..).trans fR
  case d5=>exact (World.cell?_setCell_other _ _ _ _ (fun e=>by injection e with e; omega)).trans cb
  case d6=>exact (World.cell?_setCell_other _ _ _ _ (by simp)).trans cJ
  case d7=>exact (World.frozen?_setCell ..).trans fJ
  case fin =>
   intro a
   have hk:KeepsOthers W ((((W.setCell ⟨w.heap.size + 1 + 1 + 1,0,none⟩ (.int .u64 rr)).drew).setCell ⟨w.heap.size + 1 + 1,j,none⟩ (.int .u64 (rr / b))).setCell ⟨w.heap.size + 1 + 1 + 1,0,none⟩ (.int .u64 (rr % b))) :=
    (((KeepsOthers.setCell _ _ _).trans (KeepsOthers.drew _)).trans (KeepsOthers.setCell _ _ _)).trans (KeepsOthers.setCell _ _ _)
   refine ⟨hk.from _,fun g hg=>?_,?_⟩
   ·have hgl:g ≠ w.heap.size + 1 + 1∧g ≠ w.heap.size + 1 + 1 + 1:=by rcases hg with h | h <;> omega
    rw [Below.heap_setCell _ _ _ _ hgl.2,Below.heap_setCell _ _ _ _ hgl.1]
    exact Below.heap_setCell _ _ _ _ hgl.2
   ·unfold DivW
    have hne:∀ {g:Nat} {o:Obj},W.heap[g]?=some o→g ≠ w.heap.size + 1 + 1→g ≠ w.heap.size + 1 + 1 + 1 →
      ((((W.setCell ⟨w.heap.size + 1 + 1 + 1,0,none⟩ (.int .u64 rr)).drew).setCell ⟨w.heap.size + 1 + 1,j,none⟩ (.int .u64 (rr / b))).setCell ⟨w.heap.size + 1 + 1 + 1,0,none⟩ (.int .u64 (rr % b))).heap[g]?=some o:=fun {g o} hgo h1 h2=>by
     rw [Below.heap_setCell _ _ _ _ h2,Below.heap_setCell _ _ _ _ h1]
     exact (Below.heap_setCell _ _ _ _ h2).trans hgo
    simp only [List.map_append,List.map_cons,List.map_nil,List.foldl_append,List.foldl_cons,List.foldl_nil,HST.out,dstep,Int.toNat_natCast,HRR.out]
    refine ⟨⟨?_,by simp [T2.out]⟩,⟨?_,Int.emod_nonneg _ (by omega),Int.emod_lt_of_pos _ (by omega)⟩,hne Q1.out (by omega) (by omega),hne B1.out (by omega) (by omega),hne S1.out (by omega) (by omega),?_⟩
    ·exact ((Tab.far T1.out (by simp) _:Tab (W.setCell ⟨w.heap.size + 1 + 1 + 1,0,none⟩ (.int .u64 rr)) _ _ _ _).set j (rr / b):Tab ((W.setCell ⟨w.heap.size + 1 + 1 + 1,0,none⟩ (.int .u64 rr)).setCell _ _) _ _ _ _).far (by simp) _
    ·exact heap_set0 (heap_far (heap_set0 R1.out (.int .u64 rr)) (by simp) _) _
    ·exact (((BEL.out.setCell (p:=⟨w.heap.size + 1 + 1 + 1,0,none⟩) (by simp; omega) _).drew).setCell (p:=⟨w.heap.size + 1 + 1,j,none⟩) (by simp; omega) _).setCell (p:=⟨w.heap.size + 1 + 1 + 1,0,none⟩) (by simp; omega) _
 case done =>
  rintro D ys W hD rfl hdw hK
  obtain ⟨ql,r,e,g1,g2,g3,g4⟩:=dstep_end a b hb0 Z HZ.out hd hl
  unfold DivW at hdw
  dsimp only at hdw
  rw [e] at hdw
  obtain ⟨⟨t1,_⟩,⟨r1,r2,r3⟩,q1,b1,s1,bel⟩:=hdw
  dsimp only at t1 r1 r2 r3
  have cR:W.cell? ⟨w.heap.size + 1 + 1 + 1,0,none⟩=some (.int .u64 r):=by rw [Lib.cell_of_heap r1]; rfl
  have cQ:W.cell? ⟨w.heap.size + 1,0,none⟩=some (.slice (some ⟨w.heap.size + 1 + 1,0,none⟩) Z.length Z.length):=by rw [Lib.cell_of_heap q1]; rfl
  have fQ:=Lib.frozen_of_heap q1 0
  clear e ha hb hmk
  gi_wp2
  refine wpIn_wide.2 ?_
  have hT1:=fun W' hb=>trim_to (some ⟨w.heap.size + 1 + 1,0,none⟩) Z.length Z.length (a / b) ql W' ((t1.slN g1 (by omega)).below hb) g1 (by omega) g2 g3
  have hT2:=fun W' g (hc:W'.cell? ⟨g,0,none⟩=some (.int .u64 r)) (hg:g < W'.heap.size)=>trim_to (some ⟨g,0,none⟩) 1 1 (a % b) [r] W' (sl_one hc hg) rfl (by omega) (Digs.nil.cons r2 (by omega)) (by simp [valB,g4])
  have HG4:=Lib.hid g4
  clear g4
  have HT1:=Lib.hid hT1
  have HT2:=Lib.hid hT2
  have T1:=Lib.hid t1
  have BEL:=Lib.hid bel
  have HK:=Lib.hid hK
  have Q1:=Lib.hid q1
  have hqs:=(Array.getElem?_eq_some_iff.1 q1).1
  have g2':=g2
  have g3':=g3
  clear hT1 hT2 t1 q1 b1 s1 bel hK r1 g2 g3
  refine wp_mono (Q:=OnlyN _) ?_ onlyN_le
  go_region_with (first
   | ((with_reducible refine (HT1.out _ ?_).mono ?_); (first | exact (Below.refl _ _).drew | exact ((Below.refl _ _).alloc (Nat.le_refl _) _).drew | exact ((Below.refl _ _).drew.alloc (Nat.le_refl _) _)); rintro e w'' ⟨rfl,rfl⟩)
   | ((with_reducible refine (HT2.out _ _ ?_ ?_).mono ?_); (exact World.cell?_alloc_at _ _ _ _ rfl); simp; rintro e w'' ⟨rfl,rfl⟩))
  all_goals dsimp only [OnlyN]
  all_goals simp only [Act.put,List.getElem_toArray,List.getElem_cons_succ,List.getElem_cons_zero,List.setIfInBounds_toArray,List.set_cons_succ,List.set_cons_zero]
  all_goals gi_wp2
  all_goals
   obtain ⟨W5,hW5⟩:∃ W5,((W.setCell { block:=w.heap.size + 1,off:=0 } (Value.slice (some { block:=w.heap.size + 1 + 1,off:=0 }) (lim9 (a / b)).length Z.length)).alloc (Obj.cells #[Value.int IntKind.u64 r] 165)).drew=W5:=⟨_,rfl⟩
   rw [hW5]
   have hk5:W5.heap[D]?=some (.deferred (some [])):=by
    rw [← hW5]
    exact heap_more (heap_far HK.out (by simp at hD ⊢; omega) _) _
   have hq5:W5.heap[w.heap.size + 1]?=some (.cells #[.slice (some ⟨w.heap.size + 1 + 1,0,none⟩) (lim9 (a / b)).length Z.length] 141 (0,0)):=by
    rw [← hW5]
    exact heap_more (heap_set0 Q1.out _) _
   have ht5:Tab W5 (w.heap.size + 1 + 1) 165 .u64 ql:=by
    rw [← hW5]
    exact (T1.out.far (by simp) _).alloc _
   have hr5:W5.heap[W.heap.size]?=some (.cells #[.int .u64 r] 165 (0,0)):=by
    rw [← hW5]
    have:=heap_alloc_new (W.setCell { block:=w.heap.size + 1,off:=0 } (Value.slice (some { block:=w.heap.size + 1 + 1,off:=0 }) (lim9 (a / b)).length Z.length)) (Obj.cells #[Value.int IntKind.u64 r] 165)
    rw [World.size_setCell] at this
    exact this
   have hb5:Below w.heap.size w W5:=by
    rw [← hW5]
    exact ((BEL.out.setCell (p:=⟨w.heap.size + 1,0,none⟩) (by simp) _).alloc (by simp; omega) _).drew
   have hDs:D < W.heap.size:=(Array.getElem?_eq_some_iff.1 HK.out).1
   have hD2:w.heap.size + 4 < D:=by simp at hD; omega
   have hbk:=belowK_b (w:=w) (Nat.le_refl _) W5 D _ (.deferred none) (by omega) hk5 rfl rfl
   clear hW5 HK Q1 T1 BEL
   refine ⟨by simp,.inl ⟨_,_,rfl,run_takeDeferred hk5,?_⟩⟩
   have hq6:(W5.putObj D (.deferred none)).cell? ⟨w.heap.size + 1,0,none⟩=some (.slice (some ⟨w.heap.size + 1 + 1,0,none⟩) (lim9 (a / b)).length Z.length):=by
    rw [Lib.cell_of_heap (heap_put hq5 (by omega) _)]; rfl
   refine ⟨_,(by rw [results_cell_tmp Tryz.results113]; simp [go_sem,hq6]),some ⟨w.heap.size + 1 + 1,0,none⟩,Z.length,some ⟨W.heap.size,0,none⟩,1,rfl,?_,?_,hb5.trans hbk⟩
   ·exact ((ht5.put (by omega) _).slN g1 (by omega)).to9 g2' g3'
   ·refine Sl.to9 (sl_one (r:=r) ?_ ?_) (Digs.nil.cons r2 (by omega)) (by simp [valB,HG4.out])
    ·rw [Lib.cell_of_heap (heap_put hr5 (by omega) _)]; rfl
    ·exact (Array.getElem?_eq_some_iff.1 (heap_put hr5 (by omega) (.deferred none))).1
 case stop =>
  rintro D cd pre W _ _ h _
  exact h.elim

end Go.Proofs.YthhkmihjnnfpgaaGreatDoor

/- The walk of integer.small: a magnitude times a piece. -/
namespace Go.Proofs.YthhkmihjnnfpgaaGreatDoor
open Go.RowKit

set_option maxHeartbeats 1000000 in
theorem small_any (A:Option Addr) (c a d:Nat) (w:World) (ha:Sl w .u64 A c (lim9 a)) (hla:(lim9 a).length≤30000) (hd:d < 1000000000) :
  Calls Tryz.prog 128 #[.slice A (lim9 a).length c,.int .u64 (d:Int)] w fun e w'=>∃ A1 c1,e=.returned (.slice A1 (lim9 (a * d)).length c1)∧Sl w' .u64 A1 c1 (lim9 (a * d))∧Below w.heap.size w w':=by
 have hld:(lim9 d).length≤1:=lim_len_le 1000000000 (by omega) 1 d (by omega)
 have hs1:Sl (w.alloc (.cells #[.int .u64 (d:Int)] 165)) .u64 (some ⟨w.heap.size,0,none⟩) 1 [(d:Int)]:=by
  refine sl_one ?_ (by simp)
  rw [Lib.cell_of_heap (heap_alloc_new w _)]; rfl
 have hdg:Digs 1000000000 [(d:Int)]:=Digs.nil.cons (by omega) (by omega)
 have hv:valB 1000000000 [(d:Int)]=d:=by simp [valB]
 have ht:=trim_to (some ⟨w.heap.size,0,none⟩) 1 1 d [(d:Int)] (w.alloc (.cells #[.int .u64 (d:Int)] 165)) hs1 rfl (by omega) hdg hv
 have hm:=times_any A (some ⟨w.heap.size,0,none⟩) c 1 a d (w.alloc (.cells #[.int .u64 (d:Int)] 165)) (ha.below ((Below.refl _ _).alloc (Nat.le_refl _) _)) (hs1.to9 hdg hv) hla (by omega)
 have hb:Below w.heap.size w (w.alloc (.cells #[.int .u64 (d:Int)] 165)):=(Below.refl _ _).alloc (Nat.le_refl _) _
 have HM:=Lib.hid hm
 have HT:=Lib.hid ht
 have HB:=Lib.hid hb
 clear hm ht hb hs1 hdg hv ha
 go_enter Tryz.func128, Tryz.ntmps128
 go_wp2_with (first
  | (go_at_call 103; refine HT.out.mono ?_; rintro e w' ⟨rfl,rfl⟩)
  | (go_at_call 94; refine HM.out.mono ?_; rintro e w' ⟨A1,c1,rfl,h1,h2⟩))
 refine bodyPost_ret (results_tmp rfl _ _ _) rfl ⟨A1,c1,rfl,h1,(HB.out.trans (h2.mono (by simp)))⟩

end Go.Proofs.YthhkmihjnnfpgaaGreatDoor

/- The long division in pieces: what its loop keeps. No program in sight. -/
namespace Go.Proofs.YthhkmihjnnfpgaaGreatDoor
theorem drop_val (n k:Nat) (hk:k≤(lim9 n).length):valB 1000000000 ((lim9 n).drop k)=((n / 1000000000 ^ k:Nat):Int):=by
 have h1:=valB_split 1000000000 (lim9 n) k
 have h2:=((lim9_digs n).take k).val_nonneg (by omega)
 have h3:=((lim9_digs n).take k).val_lt (by omega)
 have hl:((lim9 n).take k).length=k:=by simp; omega
 rw [hl] at h1 h3
 rw [lim9_val] at h1
 have h4:(n:Int) / 1000000000 ^ k=valB 1000000000 ((lim9 n).drop k)∧(n:Int) % 1000000000 ^ k=valB 1000000000 ((lim9 n).take k):=by
  refine (Int.ediv_emod_unique (Int.pow_pos (by omega))).2 ⟨?_,h2,h3⟩
  rw [h1]
 rw [← h4.1]
 simp

theorem estimate (r b p:Nat) (hp:0 < b / p):r / b≤(r / p) / (b / p):=by
 have hp0:0 < p:=by
  rcases Nat.eq_zero_or_pos p with h | h
  ·subst h; simp at hp
  ·exact h
 rw [Nat.le_div_iff_mul_le hp,Nat.le_div_iff_mul_le hp0]
 have h1:b / p * p≤b:=Nat.div_mul_le_self b p
 have h2:r / b * b≤r:=Nat.div_mul_le_self r b
 calc r / b * (b / p) * p=r / b * (b / p * p):=by rw [Nat.mul_assoc]
  _≤r / b * b:=Nat.mul_le_mul_left _ h1
  _≤r:=h2

theorem top_val (n:Nat) (hn:0 < n):(lim9 n)[(lim9 n).length - 1]?.getD 0=((n / 1000000000 ^ ((lim9 n).length - 1):Nat):Int):=by
 have hl:0 < (lim9 n).length:=by
  rcases Nat.eq_zero_or_pos (lim9 n).length with h | h
  ·have:=(lim_len_zero 1000000000 (by omega) n).1 h; omega
  ·exact h
 rw [← drop_val n _ (by omega),drop_getD _ _ (by omega),List.drop_eq_nil_of_le (by omega)]
 simp [valB]

theorem top_val2 (n:Nat) (hl:2≤(lim9 n).length) :
  (lim9 n)[(lim9 n).length - 1]?.getD 0 * 1000000000 + (lim9 n)[(lim9 n).length - 2]?.getD 0=((n / 1000000000 ^ ((lim9 n).length - 2):Nat):Int):=by
 rw [← drop_val n _ (by omega),drop_getD _ ((lim9 n).length - 2) (by omega),show (lim9 n).length - 2 + 1=(lim9 n).length - 1 by omega,drop_getD _ ((lim9 n).length - 1) (by omega),List.drop_eq_nil_of_le (by omega)]
 simp [valB]
 omega

theorem len_cases (r b:Nat) (h1:b≤r) (h2:r < b * 1000000000):(lim9 r).length=(lim9 b).length ∨ (lim9 r).length=(lim9 b).length + 1:=by
 have h3:(lim9 b).length≤(lim9 r).length:=lim_len_mono 1000000000 (by omega) b r h1
 have h4:(lim9 r).length≤(lim9 b).length + 1:=by
  refine lim_len_le 1000000000 (by omega) _ _ ?_
  rw [Nat.pow_succ]
  exact Nat.lt_of_lt_of_le h2 (Nat.mul_le_mul_right _ (Nat.le_of_lt (lim_lt_pow 1000000000 (by omega) b)))
 omega

theorem tried (r b p d0 t:Nat) (hd:r / p=d0) (ht:b / p=t) (h0:0 < t) (h2:r < b * 1000000000):r / b≤min (d0 / t) 999999999∧min (d0 / t) 999999999 < 1000000000:=by
 subst hd ht
 have h1:=estimate r b p h0
 have hb:0 < b:=by omega
 have h3:r / b < 1000000000:=by rw [Nat.div_lt_iff_lt_mul hb]; omega
 omega

def DInv (Z:List Int) (b m:Nat) (ql:List Int) (r:Nat):Prop :=
 ql.length=Z.length∧Digs 1000000000 ql∧(∀ j:Nat,j < m→ql[j]?.getD 0=0)∧r < b∧valB 1000000000 (Z.drop m)=valB 1000000000 (ql.drop m) * b + r

theorem dinv_start (Z:List Int) (b:Nat) (hb:0 < b):DInv Z b Z.length (List.replicate Z.length 0) 0:=by
 refine ⟨by simp,Digs.zeros (by omega) _,fun j hj=>by simp [hj],hb,?_⟩
 rw [List.drop_eq_nil_of_le (Nat.le_refl _),List.drop_eq_nil_of_le (by simp)]
 simp [valB]

theorem dinv_next {Z:List Int} {b m r x:Nat} {ql:List Int} (hm:m < Z.length) (hx:Z[m]?.getD 0=(x:Int)) (hx9:x < 1000000000) (h:DInv Z b (m + 1) ql r) :
  x + 1000000000 * r < b * 1000000000∧DInv Z b m (ql.set m (((x + 1000000000 * r) / b:Nat):Int)) ((x + 1000000000 * r) % b):=by
 obtain ⟨h1,h2,h3,h4,h5⟩:=h
 have hlt:x + 1000000000 * r < b * 1000000000:=by omega
 have hb:0 < b:=by omega
 have hq:(x + 1000000000 * r) / b < 1000000000:=by rw [Nat.div_lt_iff_lt_mul hb]; omega
 have hr:=Nat.mod_lt (x + 1000000000 * r) hb
 have hdm:=Nat.div_add_mod (x + 1000000000 * r) b
 generalize (x + 1000000000 * r) / b=q at *
 generalize (x + 1000000000 * r) % b=rr at *
 refine ⟨hlt,by simpa using h1,h2.set _ (by omega) (by omega),fun j hj=>?_,hr,?_⟩
 ·rw [List.getElem?_set_ne (by omega)]
  exact h3 j (by omega)
 ·rw [drop_getD Z m hm,hx]
  have e2:(ql.set m (q:Int)).drop m=(q:Int) :: ql.drop (m + 1):=by
   rw [drop_getD _ m (by simp; omega),List.drop_set_of_lt (by omega)]
   simp [h1,hm]
  rw [e2]
  simp only [valB,h5]
  have e3:(b:Int) * q + rr=(x:Int) + 1000000000 * r:=by omega
  generalize valB 1000000000 (ql.drop (m + 1))=t at *
  grind

theorem dinv_skip {Z:List Int} {b m r x:Nat} {ql:List Int} (hm:m < Z.length) (hx:Z[m]?.getD 0=(x:Int)) (hx9:x < 1000000000) (h:DInv Z b (m + 1) ql r) (hlt:x + 1000000000 * r < b) :
  DInv Z b m ql (x + 1000000000 * r):=by
 have h1:=(dinv_next hm hx hx9 h).2
 rw [Nat.div_eq_of_lt hlt,Nat.mod_eq_of_lt hlt] at h1
 have h2:ql.set m ((0:Nat):Int)=ql:=by
  have h3:=h.2.2.1 m (by omega)
  have h4:m < ql.length:=by rw [h.1]; exact hm
  rw [List.getElem?_eq_getElem h4,Option.getD_some] at h3
  rw [show ((0:Nat):Int)=ql[m] by rw [h3]; rfl]
  exact List.set_getElem_self h4
 rwa [h2] at h1

theorem dinv_end {a b r:Nat} {ql:List Int} (h:DInv (lim9 a) b 0 ql r):valB 1000000000 ql=((a / b:Nat):Int)∧r=a % b:=by
 obtain ⟨h1,h2,h3,h4,h5⟩:=h
 rw [List.drop_zero,List.drop_zero,lim9_val] at h5
 have h6:(a:Int) / b=valB 1000000000 ql∧(a:Int) % b=r:=by
  refine (Int.ediv_emod_unique (by omega)).2 ⟨?_,by omega,by omega⟩
  rw [h5,Int.mul_comm,Int.add_comm]
 refine ⟨by rw [← h6.1]; simp,?_⟩
 have:=h6.2
 rw [← Int.natCast_emod] at this
 exact (Int.ofNat.inj this).symm

end Go.Proofs.YthhkmihjnnfpgaaGreatDoor

/- integer.divide at a multiple of one piece. -/
namespace Go.Proofs.YthhkmihjnnfpgaaGreatDoor
open Go.RowKit

theorem lim9_one (f:Nat) (hf0:0 < f) (hf9:f < 1000000000):lim9 f=[(f:Int)]:=by
 unfold lim9
 rw [lim_pos 1000000000 (by omega) f hf0,Nat.mod_eq_of_lt hf9,Nat.div_eq_of_lt hf9,lim_zero]

theorem divide_exact (A A':Option Addr) (c c' s f:Nat) (w:World) (ha:Sl w .u64 A c (lim9 (s * f))) (hb:Sl w .u64 A' c' [(f:Int)]) (hla:(lim9 (s * f)).length≤60000) (hf0:0 < f) (hf9:f < 1000000000) :
  Calls Tryz.prog 113 #[.slice A (lim9 (s * f)).length c,.slice A' 1 c'] w fun e w'=>∃ A1 c1 A2 n2 c2,e=.returned (.tuple #[.slice A1 (lim9 s).length c1,.slice A2 n2 c2]) ∧
   Sl w' .u64 A1 c1 (lim9 s)∧Below w.heap.size w w':=by
 rcases Nat.eq_zero_or_pos s with h | h
 ·subst h
  have h1:=divide_less A A' c c' (0 * f) f w ha (by rw [lim9_one f hf0 hf9]; exact hb) hla (by rw [lim9_one f hf0 hf9]; simp) (by omega)
  rw [lim9_one f hf0 hf9] at h1
  refine h1.mono fun e w' ⟨h2,h3⟩=>⟨none,0,A,_,c,h2,Sl.nil_,h3⟩
 ·have h1:=divide_one A A' c c' (s * f) f w ha hb hla hf0 hf9 (Nat.le_mul_of_pos_left f h)
  rw [Nat.mul_div_cancel s hf0] at h1
  exact h1.mono fun e w' ⟨A1,c1,A2,c2,h2,h3,_,h4⟩=>⟨A1,c1,A2,_,c2,h2,h3,h4⟩

end Go.Proofs.YthhkmihjnnfpgaaGreatDoor

/- The walk of integer.divide where the divisor has two pieces or more. -/
namespace Go.Proofs.YthhkmihjnnfpgaaGreatDoor
open Go.RowKit Go.Shelf

theorem int_u64 {a b:Int} (h:a=b):Value.int .u64 a=.int .u64 b:=by rw [h]

theorem Sl.ne_slice {w:World} {k:IntKind} {A:Option Addr} {c g n m:Nat} {a:Option Addr} {t:TypeId} {fr:Nat × Nat} {l:List Int} (h:Sl w k A c l) (hl:0 < l.length) (hg:w.heap[g]?=some (.cells #[.slice a n m] t fr)) (q:Addr) (hq:A=some q):q.block ≠ g:=by
 obtain ⟨b,o,e,hlt,hc⟩:=h.2.2 hl
 rw [hq] at e
 injection e with e
 subst e
 intro hbg
 dsimp only at hbg
 subst hbg
 have h1:=hc 0 hl
 rw [Lib.cell_of_heap hg] at h1
 rcases Nat.eq_zero_or_pos (o + 0) with h2 | h2
 ·rw [h2] at h1; simp at h1
 ·rw [Array.getElem?_eq_none (by simp; omega)] at h1; cases h1

theorem Sl.put_slice {w:World} {k:IntKind} {A:Option Addr} {c g n m:Nat} {a:Option Addr} {t:TypeId} {fr:Nat × Nat} {l:List Int} (h:Sl w k A c l) (hg:w.heap[g]?=some (.cells #[.slice a n m] t fr)) (u:Value):Sl (w.setCell ⟨g,0,none⟩ u) k A c l :=
 ⟨h.1,h.2.1,fun hl=>by
  obtain ⟨b,o,e,hlt,hc⟩:=h.2.2 hl
  have hbg:=h.ne_slice hl hg _ e
  exact ⟨b,o,e,by simpa [World.setCell] using hlt,fun j hj=>(World.cell?_setCell_other _ _ _ _ (fun e=>hbg (congrArg Addr.block e).symm)).trans (hc j hj)⟩⟩

theorem Sl.put_far {w:World} {k:IntKind} {A:Option Addr} {c:Nat} {p:Addr} {l:List Int} (h:Sl w k A c l) (hp:∀ q:Addr,A=some q→q.block ≠ p.block) (u:Value):Sl (w.setCell p u) k A c l :=
 ⟨h.1,h.2.1,fun hl=>by
  obtain ⟨b,o,e,hlt,hc⟩:=h.2.2 hl
  have hbg:b ≠ p.block:=hp _ e
  exact ⟨b,o,e,by simpa [World.setCell] using hlt,fun j hj=>(World.cell?_setCell_other _ _ _ _ (fun e=>hbg (congrArg Addr.block e).symm)).trans (hc j hj)⟩⟩

theorem Sl.belowB {w w':World} {k:IntKind} {A:Option Addr} {c B:Nat} {l:List Int} (h:Sl w k A c l) (hb:Below B w w') (hp:∀ q:Addr,A=some q→q.block < B):Sl w' k A c l :=
 ⟨h.1,h.2.1,fun hl=>by
  obtain ⟨b,o,e,hlt,hc⟩:=h.2.2 hl
  have hbB:b < B:=hp _ e
  exact ⟨b,o,e,Nat.lt_of_lt_of_le hlt hb.size,fun j hj=>(hb.cell (p:=⟨b,o + j,none⟩) hbB).trans (hc j hj)⟩⟩

theorem Sl.block_lt {w:World} {k:IntKind} {A:Option Addr} {c:Nat} {l:List Int} (h:Sl w k A c l) (hl:0 < l.length) (q:Addr) (hq:A=some q):q.block < w.heap.size:=by
 obtain ⟨b,o,e,hlt,_⟩:=h.2.2 hl
 rw [hq] at e
 injection e with e
 subst e
 exact hlt

set_option maxRecDepth 100000 in
set_option maxHeartbeats 4000000 in
theorem divide_many (A A':Option Addr) (c c' a b:Nat) (w:World) (ha:Sl w .u64 A c (lim9 a)) (hb:Sl w .u64 A' c' (lim9 b)) (hla:(lim9 a).length≤20000) (hlb:2≤(lim9 b).length) (hge:b≤a) :
  Calls Tryz.prog 113 #[.slice A (lim9 a).length c,.slice A' (lim9 b).length c'] w fun e w'=>∃ A1 c1 A2 c2,e=.returned (.tuple #[.slice A1 (lim9 (a / b)).length c1,.slice A2 (lim9 (a % b)).length c2]) ∧
   Sl w' .u64 A1 c1 (lim9 (a / b))∧Sl w' .u64 A2 c2 (lim9 (a % b))∧Below w.heap.size w w':=by
 have hb0:0 < b:=by
  rcases Nat.eq_zero_or_pos b with h | h
  ·subst h; simp [lim9,lim_zero] at hlb
  ·exact h
 have hle:(lim9 b).length≤(lim9 a).length:=lim_len_mono 1000000000 (by omega) b a hge
 obtain ⟨r0,hr0⟩:∃ r,cmpN a b=r:=⟨_,rfl⟩
 have hr1:0≤r0:=by rw [← hr0]; unfold cmpN; rw [if_neg (by omega)]; split <;> omega
 have ho:=fun W hW=>order_any A A' c c' a b W (ha.below hW) (hb.below hW) (by omega) (by omega)
 rw [hr0] at ho
 obtain ⟨t,ht⟩:∃ t,b / 1000000000 ^ ((lim9 b).length - 1)=t:=⟨_,rfl⟩
 have htv:=top_val b hb0
 have htd:=((lim9_digs b).at_ (by omega) ((lim9 b).length - 1))
 have htp:=lim_last 1000000000 (by omega) b hb0
 rw [show lim 1000000000 b=lim9 b from rfl] at htp
 rw [htv,ht] at htd htp
 rw [ht] at htv
 clear ht
 have ht0:0 < t:=by omega
 have ht1:t < 1000000000:=by omega
 obtain ⟨f,hf⟩:∃ f,1000000000 / (t + 1)=f:=⟨_,rfl⟩
 have hf0:0 < f:=by rw [← hf]; exact Nat.div_pos (by omega) (by omega)
 have hf1:f < 1000000000:=by rw [← hf]; exact Nat.div_lt_self (by omega) (by omega)
 have eF:(1000000000:Int) / ((t:Int) + 1)=(f:Int):=by rw [← hf]; simp
 clear hf
 have hs1:=fun W (hW:Below w.heap.size w W)=>small_any A c a f W (ha.below hW) (by omega) hf1
 have hs2:=fun W (hW:Below w.heap.size w W)=>small_any A' c' b f W (hb.below hW) (by omega) hf1
 obtain ⟨bb,ob,rfl,hbb,hcb⟩:=hb.at_ (by omega)
 have gb:w.cell? ⟨bb,ob + ((lim9 b).length - 1),none⟩=some (.int .u64 (t:Int)):=by rw [hcb _ (by omega),htv]
 obtain ⟨K,hK⟩:∃ K,(lim9 b).length=K + 1:=⟨(lim9 b).length - 1,by omega⟩
 have eK:((lim9 b).length:Int) - 1=(K:Int):=by omega
 have hn1:(((lim9 b).length:Int) == 1)=false:=beq_eq_false_iff_ne.2 (by omega)
 rw [show (lim9 b).length - 1=K by omega] at gb
 have hKl:K < (lim9 b).length:=by omega
 have HO:=Lib.hid ho
 have HS1:=Lib.hid hs1
 have HS2:=Lib.hid hs2
 have HK:=Lib.hid hK
 clear hs1 hs2 ho hcb htv htd htp hK hr0
 go_enter Tryz.func113, Tryz.ntmps113
 go_upto_region 13 with (go_at_call 84; refine (HO.out _ (((Below.refl _ _).alloc (Nat.le_refl _) _).alloc (by simp) _)).mono ?_; rintro e w' ⟨rfl,n0,rfl⟩)
 rw [eF]
 obtain ⟨W0,hW0⟩:∃ W0,((w.alloc (Obj.cells #[Value.slice (some { block:=bb,off:=ob }) (lim9 b).length c'] 141)).alloc (Obj.cells #[Value.slice none 0 0] 141)).drewN n0=W0:=⟨_,rfl⟩
 rw [hW0]
 have q0:W0.heap[w.heap.size + 1]?=some (.cells #[.slice none 0 0] 141 (0,0)):=by
  rw [← hW0]
  have:=heap_alloc_new (w.alloc (Obj.cells #[Value.slice (some { block:=bb,off:=ob }) (lim9 b).length c'] 141)) (Obj.cells #[Value.slice none 0 0] 141)
  rw [World.size_alloc] at this
  exact this
 have b0:W0.heap[w.heap.size]?=some (.cells #[.slice (some { block:=bb,off:=ob }) (lim9 b).length c'] 141 (0,0)):=by
  rw [← hW0]
  exact heap_more (heap_alloc_new w _) _
 have l0:Below w.heap.size w W0:=by
  rw [← hW0]
  exact (((Below.refl _ _).alloc (Nat.le_refl _) _).alloc (by simp) _).trans ((Drew.of _ n0).below _)
 have Q0:=Lib.hid q0
 have B0:=Lib.hid b0
 have L0:=Lib.hid l0
 have z0:w.heap.size + 1 < W0.heap.size:=(Array.getElem?_eq_some_iff.1 q0).1
 clear q0 b0 l0 hW0 eF eK gb
 go_cut [0] from 59 to 64 (fun s wc=>∃ A1 c1 A2 c2,s=.slice A1 (lim9 (a * f)).length c1∧Sl wc .u64 A1 c1 (lim9 (a * f))∧Sl wc .u64 A2 c2 (lim9 (b * f)) ∧
  wc.heap[w.heap.size]?=some (.cells #[.slice A2 (lim9 (b * f)).length c2] 141 (0,0))∧wc.heap[w.heap.size + 1]?=some (.cells #[.slice none 0 0] 141 (0,0))∧Below w.heap.size w wc)
 case first =>
  have b0:W0.cell? ⟨w.heap.size,0,none⟩=some (.slice (some { block:=bb,off:=ob }) (lim9 b).length c'):=by rw [Lib.cell_of_heap B0.out]; rfl
  have zd:w.heap.size≤W0.heap.size:=by omega
  go_region_with (first
   | ((with_reducible refine (HS1.out _ ?_).mono ?_); (first | exact L0.out | exact L0.out.drew); rintro e w1 ⟨A1,c1,rfl,h1,h2⟩; have g1:=(h2.cell (p:=⟨w.heap.size,0,none⟩) (show w.heap.size < W0.heap.size from Nat.lt_of_succ_lt z0)).trans b0; have H1:=Lib.hid h1; have H2:=Lib.hid h2; clear h1 h2)
   | ((with_reducible refine (HS2.out _ ?_).mono ?_); (first | exact L0.out.trans (H2.out.mono zd) | exact L0.out.drew.trans (H2.out.mono zd)); rintro e w2 ⟨A2,c2,rfl,h3,h4⟩; have g2:=(h4.cell (p:=⟨w.heap.size,0,none⟩) (Nat.lt_of_lt_of_le (show w.heap.size < W0.heap.size from Nat.lt_of_succ_lt z0) H2.out.size)).trans g1; have g3:=Lib.frozen_of_heap ((h4.block _ (Nat.lt_of_lt_of_le (show w.heap.size < W0.heap.size from Nat.lt_of_succ_lt z0) H2.out.size)).trans ((H2.out.block _ (show w.heap.size < W0.heap.size from Nat.lt_of_succ_lt z0)).trans B0.out)) 0; have H3:=Lib.hid h3; have H4:=Lib.hid h4; clear h3 h4)
   | fail "arm")
  all_goals
   go_wp2_with fail
   go_meet
   have z1:w.heap.size + 1 < w1.heap.size:=Nat.lt_of_lt_of_le z0 H2.out.size
   have hc2:=(H4.out.block _ (Nat.lt_of_succ_lt z1)).trans ((H2.out.block _ (Nat.lt_of_succ_lt z0)).trans B0.out)
   exact ⟨A1,c1,A2,c2,rfl,(H1.out.below H4.out).put_slice hc2 _,H3.out.put_slice hc2 _,heap_set0 hc2 _,heap_far ((H4.out.block _ z1).trans ((H2.out.block _ z0).trans Q0.out)) (by simp) _,(Below.trans (by first | exact L0.out.trans (H2.out.mono zd) | exact L0.out.drew.trans (H2.out.mono zd)) (H4.out.mono (Nat.le_trans zd H2.out.size))).setCell (by simp) _⟩
 case rest =>
  obtain ⟨A1,c1,A2,c2,rfl,h1,h2,b1,q1,l1⟩:=hcut
  clear HO HS1 HS2 HK Q0 B0 L0 ha hb
  have hla':(lim9 (a * f)).length≤20001:=by
   have e1:a < 1000000000 ^ (lim9 a).length:=lim_lt_pow 1000000000 (by omega) a
   have e2:(lim9 (a * f)).length≤(lim9 a).length + 1:=by
    refine lim_len_le 1000000000 (by omega) _ _ ?_
    rw [Nat.pow_succ]
    exact Nat.mul_lt_mul_of_lt_of_le e1 (by omega) (by omega)
   omega
  have hbp:0 < b * f:=Nat.mul_pos hb0 hf0
  have hap:b * f≤a * f:=Nat.mul_le_mul_right _ hge
  have hdv:a * f / (b * f)=a / b:=Nat.mul_div_mul_right _ _ hf0
  have hmd:a * f % (b * f)=a % b * f:=Nat.mul_mod_mul_right _ _ _
  generalize a * f=a' at *
  generalize b * f=b' at *
  have hle':(lim9 b').length≤(lim9 a').length:=lim_len_mono 1000000000 (by omega) b' a' hap
  have hlb':0 < (lim9 b').length:=by
   rcases Nat.eq_zero_or_pos (lim9 b').length with h | h
   ·have:=(lim_len_zero 1000000000 (by omega) b').1 h; omega
   ·exact h
  obtain ⟨K',hK'⟩:∃ K,(lim9 b').length=K + 1:=⟨(lim9 b').length - 1,by omega⟩
  have htv:=top_val b' hbp
  have htd:=(lim9_digs b').at_ (by omega) ((lim9 b').length - 1)
  have htp:=lim_last 1000000000 (by omega) b' hbp
  rw [show lim 1000000000 b'=lim9 b' from rfl] at htp
  rw [htv,show (lim9 b').length - 1=K' by omega] at htd htp
  rw [show (lim9 b').length - 1=K' by omega] at htv
  obtain ⟨t',ht'⟩:∃ t,b' / 1000000000 ^ K'=t:=⟨_,rfl⟩
  rw [ht'] at htv htd htp
  have HT':=Lib.hid ht'
  clear ht'
  have hne2:=h2.ne_slice hlb' q1
  obtain ⟨b2,o2,rfl,hb2,hc2⟩:=h2.at_ hlb'
  have hne2:b2 ≠ w.heap.size + 1:=hne2 _ rfl
  have gt:=hc2 K' (by omega)
  rw [htv] at gt
  have eK':((lim9 b').length:Int) - 1=(K':Int):=by omega
  have cB:wc.cell? ⟨w.heap.size,0,none⟩=some (.slice (some ⟨b2,o2,none⟩) (lim9 b').length c2):=by rw [Lib.cell_of_heap b1]; rfl
  have cQ:wc.cell? ⟨w.heap.size + 1,0,none⟩=some (.slice none 0 0):=by rw [Lib.cell_of_heap q1]; rfl
  have bsz:w.heap.size + 1 < wc.heap.size:=(Array.getElem?_eq_some_iff.1 q1).1
  have bsz0:w.heap.size < wc.heap.size:=by omega
  have fQ:=Lib.frozen_of_heap q1 0
  have hmk:=run_mkn Elem64 (lim9 a').length (by omega) ((lim9 a').length:Int) rfl
  have hK'l:K' < (lim9 b').length:=by omega
  have H1:=Lib.hid h1
  have H2:=Lib.hid h2
  have B1:=Lib.hid b1
  have Q1:=Lib.hid q1
  have L1:=Lib.hid l1
  have HK':=Lib.hid hK'
  have HDV:=Lib.hid hdv
  have HMD:=Lib.hid hmd
  clear h1 h2 b1 q1 l1 hK' hdv hmd htv hc2
  go_upto_region 17 with fail
  have hla0:0 < (lim9 a').length:=by omega
  obtain ⟨gq,hgq⟩:∃ g,wc.heap.size=g:=⟨_,rfl⟩
  obtain ⟨W1,hW1⟩:∃ W1,(wc.setCell { block:=w.heap.size + 1,off:=0 } (Value.slice (some { block:=wc.heap.size,off:=0 }) (lim9 a').length (lim9 a').length)).alloc (Obj.cells (zrow IntKind.u64 (lim9 a').length) 165)=W1:=⟨_,rfl⟩
  rw [hW1]
  have hzs:(wc.setCell { block:=w.heap.size + 1,off:=0 } (Value.slice (some { block:=wc.heap.size,off:=0 }) (lim9 a').length (lim9 a').length)).heap.size=wc.heap.size:=by simp [World.setCell]
  have k1:Sl W1 .u64 A1 c1 (lim9 a'):=by
   rw [← hW1]; exact (H1.out.put_slice Q1.out _).below ((Below.refl _ _).alloc (Nat.le_refl _) _)
  have k2:Sl W1 .u64 (some ⟨b2,o2,none⟩) c2 (lim9 b'):=by
   rw [← hW1]; exact (H2.out.put_slice Q1.out _).below ((Below.refl _ _).alloc (Nat.le_refl _) _)
  have k3:W1.heap[w.heap.size]?=some (.cells #[.slice (some ⟨b2,o2,none⟩) (lim9 b').length c2] 141 (0,0)):=by
   rw [← hW1]; exact heap_more (heap_far B1.out (by simp) _) _
  have k4:W1.heap[w.heap.size + 1]?=some (.cells #[.slice (some ⟨gq,0,none⟩) (lim9 a').length (lim9 a').length] 141 (0,0)):=by
   rw [← hW1,← hgq]; exact heap_more (heap_set0 Q1.out _) _
  have k5:Tab W1 gq 165 .u64 (List.replicate (lim9 a').length 0):=by
   rw [← hW1,← hgq]
   have:=Tab.made (wc.setCell { block:=w.heap.size + 1,off:=0 } (Value.slice (some { block:=wc.heap.size,off:=0 }) (lim9 a').length (lim9 a').length)) 165 .u64 (lim9 a').length
   rw [hzs] at this
   exact this
  have k6:Below w.heap.size w W1:=by
   rw [← hW1]; exact (L1.out.setCell (p:=⟨w.heap.size + 1,0,none⟩) (by simp) _).alloc (by omega) _
  have k7:∀ q:Addr,A1=some q→q.block < gq:=fun q hq=>by rw [← hgq]; exact H1.out.block_lt hla0 q hq
  have k8:b2 < gq:=by rw [← hgq]; exact hb2
  rw [hgq] at bsz bsz0
  have J1:=Lib.hid k1
  have J2:=Lib.hid k2
  have J3:=Lib.hid k3
  have J4:=Lib.hid k4
  have J5:=Lib.hid k5
  have J6:=Lib.hid k6
  have J7:=Lib.hid k7
  clear k1 k2 k3 k4 k5 k6 k7 hW1 hgq hzs H1 H2 B1 Q1 L1 gt cB cQ fQ hne2 hb2 hmk eK' hn1
  go_loopw [5,11] (fun rv iv wr=>∃ (m:Nat) (v:Int) (ql:List Int) (r:Nat) (Ar:Option Addr) (cr:Nat),m≤(lim9 a').length∧v + 1=(m:Int)∧iv=.int .i64 v∧rv=.slice Ar (lim9 r).length cr∧(Ar=none→cr=0) ∧
   Sl wr .u64 Ar cr (lim9 r)∧Tab wr gq 165 .u64 ql∧Below gq W1 wr∧DInv (lim9 a') b' m ql r) (fun _ i _=>(intOf i + 1).toNat)
  case atStart =>
   exact ⟨(lim9 a').length,_,_,0,none,0,Nat.le_refl _,by omega,rfl,by rw [show lim9 0=[] from rfl]; rfl,fun _=>rfl,by rw [show lim9 0=[] from rfl]; exact Sl.nil_,J5.out,Below.refl _ _,dinv_start _ _ hbp⟩
  case round =>
   obtain ⟨m,v,ql,r,Ar,cr,hm,hv,rfl,rfl,hac,hsr,htab,hbel,hinv⟩:=hrel
   have hrb:=hinv.2.2.2.1
   have hlr:(lim9 r).length≤(lim9 b').length:=lim_len_mono 1000000000 (by omega) r b' (Nat.le_of_lt hrb)
   have HSR:=Lib.hid hsr
   have HTB:=Lib.hid htab
   have HBL:=Lib.hid hbel
   have HIN:=Lib.hid hinv
   have HAC:=Lib.hid hac
   clear hsr htab hinv hac
   cases m with
   | zero =>
    obtain rfl:v = -1:=by omega
    obtain ⟨e1,e2⟩:=dinv_end HIN.out
    rw [HDV.out] at e1
    rw [HMD.out] at e2
    subst e2
    have hql:=HIN.out.1
    have hqd:=HIN.out.2.1
    have ba1:Below wr.heap.size wr (wr.alloc (.cells #[.int .u64 (f:Int)] 165)):=(Below.refl _ _).alloc (Nat.le_refl _) _
    have hd:=divide_exact Ar (some ⟨wr.heap.size,0,none⟩) cr 1 (a % b) f (wr.alloc (.cells #[.int .u64 (f:Int)] 165)) (HSR.out.below ba1) (sl_one (by rw [Lib.cell_of_heap (heap_alloc_new wr _)]; rfl) (by simp)) (by omega) hf0 hf1
    have hbw:=HBL.out.trans (ba1.mono (Nat.le_of_lt HTB.out.lt))
    have hgw:=HTB.out.lt
    have ht:=fun W hb=>trim_to (some ⟨gq,0,none⟩) (lim9 a').length (lim9 a').length (a / b) ql W ((HTB.out.slN hql (by omega)).below hb) hql (by omega) hqd e1
    have HD:=Lib.hid hd
    have HT:=Lib.hid ht
    have HBW:=Lib.hid hbw
    have HQL:=Lib.hid hql
    have HBA:=Lib.hid ba1
    have E1:=Lib.hid e1
    clear hd ht hbw hql e1 hbel ba1
    go_wp2_with (first
     | (go_at_call 113; refine HD.out.mono ?_; rintro e w2 ⟨A3,c3,A4,n4,c4,rfl,h3,h4⟩; have h5:=HBW.out.trans (h4.mono (by simp; omega)); have q2:=(h5.block _ bsz).trans J4.out; have cQ2:w2.cell? ⟨w.heap.size + 1,0,none⟩=some (.slice (some ⟨gq,0,none⟩) (lim9 a').length (lim9 a').length):=(by rw [Lib.cell_of_heap q2]; rfl); have fQ2:=Lib.frozen_of_heap q2 0; have Q2:=Lib.hid q2; have H3:=Lib.hid h3; have H4:=Lib.hid h4; have H5:=Lib.hid h5; clear q2 h3 h4 h5)
     | (go_at_call 103; refine (HT.out _ (HBA.out.trans (H4.out.mono (by simp)))).mono ?_; rintro e w'' ⟨rfl,rfl⟩))
    have T2:=(HTB.out.below (HBA.out.trans (H4.out.mono (by simp))) HTB.out.lt).slN HQL.out (by omega)
    refine bodyPost_ret (by rw [results_cell_tmp Tryz.results113]; simp [go_sem,cQ2]) rfl ⟨some ⟨gq,0,none⟩,(lim9 a').length,A3,c3,rfl,?_,H3.out.put_slice Q2.out _,?_⟩
    ·exact (T2.to9 hqd E1.out).put_far (fun q hq=>by injection hq with hq; subst hq; simp; omega) _
    ·exact (J6.out.trans (H5.out.mono (by omega))).setCell (by simp) _
   | succ k =>
    obtain rfl:v=(k:Int):=by omega
    have sa:=J1.out.belowB HBL.out J7.out
    obtain ⟨ba,oa,rfl,hba,hca⟩:=sa.at_ hla0
    have ga:=hca k (by omega)
    have hx0:=(lim9_digs a').at_ (by omega) k
    obtain ⟨x,hx⟩:∃ x:Nat,(lim9 a')[k]?.getD 0=(x:Int):=⟨((lim9 a')[k]?.getD 0).toNat,by omega⟩
    rw [hx] at ga hx0
    have HX:=Lib.hid hx
    have hx9:x < 1000000000:=by omega
    have hdg:Digs 1000000000 ((x:Int) :: lim9 r):=(lim9_digs r).cons (by omega) (by omega)
    have hvv:valB 1000000000 ((x:Int) :: lim9 r)=((x + 1000000000 * r:Nat):Int):=by simp only [valB,lim9_val]; omega
    obtain ⟨r2,hr2⟩:∃ r2,x + 1000000000 * r=r2:=⟨_,rfl⟩
    rw [hr2] at hvv
    have hl2:(lim9 r2).length≤(lim9 r).length + 1:=by
     rw [← trim_eq9 _ r2 hdg hvv]
     exact trimL_len _
    have HR2:=Lib.hid hr2
    have HDG:=Lib.hid hdg
    have HVV:=Lib.hid hvv
    clear hx hr2 hdg hvv hca sa hbel
    by_cases hlt:r2 < b'
    ·have hcm:=cmpN_lt hlt
     have ho:=fun A' c' W (h1:Sl W .u64 A' c' (lim9 r2)) (h2:Below gq W1 W)=>order_any A' (some ⟨b2,o2,none⟩) c' c2 r2 b' W h1 (J2.out.belowB h2 (fun q hq=>by injection hq with hq; subst hq; exact k8)) (by omega) (by omega)
     rw [hcm] at ho
     have HO:=Lib.hid ho
     clear ho hcm
     go_wp2_with (first
      | (at_builtin; refine cons64 rfl (.tmp 85) (.tmp 86) rfl wr (x:Int) (lim9 r) Ar cr rfl rfl HSR.out HAC.out (by omega) ?_; intro A' c' w' hown hb'; have hbw:=HBL.out.trans (hb'.mono (Nat.le_of_lt HTB.out.lt)); have cB':w'.cell? ⟨w.heap.size,0,none⟩=some (.slice (some ⟨b2,o2,none⟩) (lim9 b').length c2):=(by rw [Lib.cell_of_heap ((hbw.block _ bsz0).trans J3.out)]; rfl); have HBV:=Lib.hid hbw; clear hbw; have HOW:=Lib.hid hown; have HBW:=Lib.hid hb'; clear hown hb')
      | (go_at_call 103; refine (trim_to _ _ _ r2 ((x:Int) :: lim9 r) _ HOW.out.sl (by simp) (by omega) HDG.out HVV.out).mono ?_; rintro e w'' ⟨rfl,rfl⟩)
      | (go_at_call 84; refine (HO.out _ _ _ (HOW.out.sl.to9 HDG.out HVV.out) HBV.out).mono ?_; rintro e w'' ⟨rfl,n1,rfl⟩))
     go_roundw
     case rel =>
      refine ⟨k,(k:Int) - 1,ql,r2,_,_,by omega,by omega,rfl,rfl,fun e=>?_,HOW.out.sl.to9 HDG.out HVV.out,HTB.out.below (HBW.out.trans ((Drew.of _ n1).below _)) HTB.out.lt,HBV.out.trans ((Drew.of _ n1).below _),?_⟩
      ·rcases HOW.out.form with ⟨_,h,_⟩ | ⟨g,cur,h,_⟩
       ·omega
       ·rw [h] at e; cases e
      ·rw [← HR2.out]
       exact dinv_skip (by omega) HX.out hx9 HIN.out (by rw [HR2.out]; exact hlt)
     case measure=>simp [intOf]
    ·have hge2:b'≤r2:=by omega
     obtain ⟨r3,hr3⟩:∃ z,cmpN r2 b'=z:=⟨_,rfl⟩
     have hr30:0≤r3:=by rw [← hr3]; unfold cmpN; rw [if_neg (by omega)]; split <;> omega
     have hlt2:=(dinv_next (by omega) HX.out hx9 HIN.out).1
     rw [HR2.out] at hlt2
     have hlc:=len_cases r2 b' hge2 hlt2
     have ho:=fun A' c' W (h1:Sl W .u64 A' c' (lim9 r2)) (h2:Below gq W1 W)=>order_any A' (some ⟨b2,o2,none⟩) c' c2 r2 b' W h1 (J2.out.belowB h2 (fun q hq=>by injection hq with hq; subst hq; exact k8)) (by omega) (by omega)
     rw [hr3] at ho
     have HO:=Lib.hid ho
     clear ho hr3
     go_upto_region 21 with (first
      | (at_builtin; refine cons64 rfl (.tmp 85) (.tmp 86) rfl wr (x:Int) (lim9 r) Ar cr rfl rfl HSR.out HAC.out (by omega) ?_; intro A' c' w' hown hb'; have hbw:=HBL.out.trans (hb'.mono (Nat.le_of_lt HTB.out.lt)); have cB':w'.cell? ⟨w.heap.size,0,none⟩=some (.slice (some ⟨b2,o2,none⟩) (lim9 b').length c2):=(by rw [Lib.cell_of_heap ((hbw.block _ bsz0).trans J3.out)]; rfl); have HBV:=Lib.hid hbw; clear hbw; have HOW:=Lib.hid hown; have HBW:=Lib.hid hb'; clear hown hb')
      | (go_at_call 103; refine (trim_to _ _ _ r2 ((x:Int) :: lim9 r) _ HOW.out.sl (by simp) (by omega) HDG.out HVV.out).mono ?_; rintro e w'' ⟨rfl,rfl⟩)
      | (go_at_call 84; refine (HO.out _ _ _ (HOW.out.sl.to9 HDG.out HVV.out) HBV.out).mono ?_; rintro e w'' ⟨rfl,n1,rfl⟩))
     obtain ⟨W2,hW2⟩:∃ W2,w'.drewN n1=W2:=⟨_,rfl⟩
     rw [hW2]
     have sR:Sl W2 .u64 A' c' (lim9 r2):=by rw [← hW2]; exact (HOW.out.sl.to9 HDG.out HVV.out).drewN n1
     have lR:∀ q:Addr,A'=some q→wr.heap.size≤q.block:=fun q hq=>by
      rcases HOW.out.form with ⟨h,_,_⟩ | ⟨g,cur,h,hg,_⟩
      ·rw [h] at hq; cases hq
      ·rw [h] at hq; injection hq with hq; subst hq; exact hg
     have bW:Below gq W1 W2:=by rw [← hW2]; exact HBV.out.trans ((Drew.of _ n1).below _)
     have tW:Tab W2 gq 165 .u64 ql:=by rw [← hW2]; exact HTB.out.below (HBW.out.trans ((Drew.of _ n1).below _)) HTB.out.lt
     have sB:Sl W2 .u64 (some ⟨b2,o2,none⟩) c2 (lim9 b'):=J2.out.belowB bW (fun q hq=>by injection hq with hq; subst hq; exact k8)
     have q2:=(bW.block _ bsz).trans J4.out
     have p2:=(bW.block _ bsz0).trans J3.out
     have cB2:W2.cell? ⟨w.heap.size,0,none⟩=some (.slice (some ⟨b2,o2,none⟩) (lim9 b').length c2):=by rw [Lib.cell_of_heap p2]; rfl
     have hr2p:0 < r2:=by omega
     have hlr2:(lim9 b').length≤(lim9 r2).length:=by omega
     obtain ⟨br,or_,rfl,hbr,hcr⟩:=sR.at_ (by omega)
     obtain ⟨KR,hKR⟩:∃ K,(lim9 r2).length=K + 1:=⟨(lim9 r2).length - 1,by omega⟩
     have eKR:((lim9 r2).length:Int) - 1=(KR:Int):=by omega
     have htR:=top_val r2 hr2p
     obtain ⟨tp,htp2⟩:∃ z,r2 / 1000000000 ^ ((lim9 r2).length - 1)=z:=⟨_,rfl⟩
     rw [htp2] at htR
     have g1:=hcr ((lim9 r2).length - 1) (by omega)
     rw [htR,show (lim9 r2).length - 1=KR by omega] at g1
     have htq:=(lim9_digs r2).at_ (by omega) ((lim9 r2).length - 1)
     rw [htR] at htq
     have htq0:=htq.1
     have htq1:=htq.2
     have hKRl:KR < (lim9 r2).length:=by omega
     have SR:=Lib.hid sR
     have LR:=Lib.hid lR
     have BW:=Lib.hid bW
     have TW:=Lib.hid tW
     have SB:=Lib.hid sB
     have Q2:=Lib.hid q2
     have HLC:=Lib.hid hlc
     have HKR:=Lib.hid hKR
     have HCR:=Lib.hid hcr
     have HTP:=Lib.hid htp2
     have HTR:=Lib.hid htR
     clear sR lR bW tW sB q2 p2 hlc hKR hcr htp2 htR htq HOW HBW HBV HO cB' hW2 hv hlt ga hx0 hba
     have HLT:=Lib.hid hlt2
     clear hlt2
     obtain ⟨D0,hD0⟩:∃ z,r2 / 1000000000 ^ K'=z:=⟨_,rfl⟩
     have HD0:=Lib.hid hD0
     clear hD0
     obtain ⟨dd,hdd⟩:∃ z,min (D0 / t') 999999999=z:=⟨_,rfl⟩
     obtain ⟨hd1,hd2⟩:=tried r2 b' (1000000000 ^ K') D0 t' HD0.out HT'.out (by omega) HLT.out
     rw [hdd] at hd1 hd2
     have hif:min ((D0:Int) / (t':Int)) 999999999=(dd:Int):=by
      rw [← hdd]
      omega
     have hq0:0≤(D0:Int) / (t':Int):=by omega
     have hlb'2:∀ d:Nat,d < 1000000000→(lim9 (b' * d)).length≤(lim9 b').length + 1:=fun d hd=>by
      refine lim_len_le 1000000000 (by omega) _ _ ?_
      rw [Nat.pow_succ]
      exact Nat.lt_of_lt_of_le (Nat.mul_lt_mul_of_pos_left hd hbp) (Nat.mul_le_mul_right _ (Nat.le_of_lt (lim_lt_pow 1000000000 (by omega) b')))
     have HLB:=Lib.hid hlb'2
     have hs:=small_any (some ⟨b2,o2,none⟩) c2 b' dd W2 SB.out (by omega) hd2
     have HSM:=Lib.hid hs
     clear hdd hlb'2 hs HSR HBL HTB LR
     rcases HLC.out with hA | hB
     ·have hlA:decide ((lim9 b').length < (lim9 r2).length)=false:=by simp; omega
      have hx:D0=tp:=by rw [← HTP.out,hA,HK'.out,Nat.add_sub_cancel,HD0.out]
      subst hx
      have hDb:(D0:Int) < 1000000000000000000:=by omega
      clear hA hlr2
      have hq1:(D0:Int) / (t':Int) < 1000000000000000000:=Int.lt_of_le_of_lt (Int.ediv_le_self _ (by omega)) hDb
      go_upto_region 24 with fail
      go_wp2_with (go_at_call 128; refine HSM.out.mono ?_; rintro e w3 ⟨Ap,cp,rfl,h3,h4⟩; have H3:=Lib.hid h3; have H4:=Lib.hid h4; clear h3 h4)
      clear hlA
      clear hif hq0 hq1 hDb
      go_loopw [12,13] (fun dv pv wx=>∃ (d:Nat) (Ap:Option Addr) (cp:Nat),dv=.int .u64 d∧r2 / b'≤d∧d < 1000000000∧pv=.slice Ap (lim9 (b' * d)).length cp∧Sl wx .u64 Ap cp (lim9 (b' * d))∧Below W2.heap.size W2 wx) (fun dv _ _=>(intOf dv).toNat)
      case atStart=>exact ⟨dd,Ap,cp,rfl,hd1,hd2,rfl,H3.out,H4.out⟩
      case round =>
       clear H3 H4 hd1 hd2
       obtain ⟨d,Ap,cp,rfl,hd1,hd2,rfl,hsp,hbx⟩:=hrel
       have hlp:=HLB.out d hd2
       have hrx:=SR.out.below hbx
       have hbb2:=SB.out.below hbx
       have cB3:=(hbx.cell (p:=⟨w.heap.size,0,none⟩) (show w.heap.size < W2.heap.size by have:=TW.out.lt; omega)).trans cB2
       have hsz:=hbx.size
       by_cases hgt:r2 < b' * d
       ·have ho:=order_any Ap (some ⟨br,or_,none⟩) cp c' (b' * d) r2 wr hsp hrx (by omega) (by omega)
        rw [cmpN_gt hgt] at ho
        have hdp:0 < d:=by
         rcases Nat.eq_zero_or_pos d with h | h
         ·subst h; omega
         ·exact h
        have hbd:b'≤b' * d:=Nat.le_mul_of_pos_right _ hdp
        have hm1:=fun n=>minus_any Ap (some ⟨b2,o2,none⟩) cp c2 (b' * d) b' (wr.drewN n) hsp hbb2 (by omega) hbd
        rw [show b' * d - b'=b' * (d - 1) by rw [Nat.mul_sub_one]] at hm1
        have hle1:r2 / b'≤d - 1:=by
         have:=Nat.div_lt_of_lt_mul hgt
         omega
        have HO:=Lib.hid ho
        have HM1:=Lib.hid hm1
        have HSP:=Lib.hid hsp
        have HBX:=Lib.hid hbx
        clear ho hm1 hsp hbx hrx hbb2 hgt hbd
        go_wp2_with (first
         | (go_at_call 84; refine HO.out.mono ?_; rintro e w'' ⟨rfl,n2,rfl⟩)
         | (go_at_call 85; refine (HM1.out _).mono ?_; rintro e w'' ⟨A5,c5,rfl,h5,h6⟩; have H5:=Lib.hid h5; have H6:=Lib.hid h6; clear h5 h6))
        go_roundw
        case rel=>exact ⟨d - 1,A5,c5,int_u64 (by omega),hle1,by omega,rfl,H5.out,HBX.out.trans (((Drew.of _ _).below _).trans (H6.out.mono (by simpa using hsz)))⟩
        case measure=>simp [intOf]; omega
       ·obtain ⟨r4,hr4⟩:∃ z,cmpN (b' * d) r2=z:=⟨_,rfl⟩
        have hr5:decide (0 < r4)=false:=by
         rw [decide_eq_false_iff_not,Int.not_lt,← hr4]
         unfold cmpN
         by_cases hx:b' * d < r2
         ·rw [if_pos hx]; omega
         ·rw [if_neg hx,if_neg hgt]; omega
        have ho:=order_any Ap (some ⟨br,or_,none⟩) cp c' (b' * d) r2 wr hsp hrx (by omega) (by omega)
        rw [hr4] at ho
        have hde:r2 / b'=d:=by
         have h1:d≤r2 / b':=by rw [Nat.le_div_iff_mul_le hbp,Nat.mul_comm]; omega
         omega
        have hmd2:r2 - b' * d=r2 % b':=by rw [Nat.mod_eq_sub,hde]
        have hm1:=fun W (hW:Below wr.heap.size wr W)=>minus_own (some ⟨br,or_,none⟩) Ap c' cp r2 (b' * d) W (hrx.below hW) (hsp.below hW) (by omega) (by omega)
        rw [hmd2] at hm1
        have hbq:gq < wr.heap.size:=by have:=TW.out.lt; omega
        have tX:Tab wr gq 165 .u64 ql:=TW.out.below hbx TW.out.lt
        have bX:Below gq W1 wr:=BW.out.trans (hbx.mono (Nat.le_of_lt TW.out.lt))
        have HO:=Lib.hid ho
        have HM1:=Lib.hid hm1
        have HDE:=Lib.hid hde
        have TX:=Lib.hid tX
        have BX:=Lib.hid bX
        clear ho hm1 hsp hbx hrx hbb2 hgt hde hmd2 hr4 tX bX
        go_upto_region 29 with (go_at_call 84; refine HO.out.mono ?_; rintro e w'' ⟨rfl,n2,rfl⟩)
        obtain ⟨W6,hW6⟩:∃ W6,wr.drewN n2=W6:=⟨_,rfl⟩
        rw [hW6]
        have l6:Below wr.heap.size wr W6:=by rw [← hW6]; exact (Drew.of _ n2).below _
        have z6:W6.heap.size=wr.heap.size:=by rw [← hW6]; rfl
        have t6:Tab W6 gq 165 .u64 ql:=TX.out.below l6 hbq
        have b6:Below gq W1 W6:=BX.out.trans (l6.mono (Nat.le_of_lt hbq))
        have q6:=(b6.block _ bsz).trans J4.out
        have cQ6:W6.cell? ⟨w.heap.size + 1,0,none⟩=some (.slice (some ⟨gq,0,none⟩) (lim9 a').length (lim9 a').length):=by rw [Lib.cell_of_heap q6]; rfl
        have hgq6:gq < W6.heap.size:=by omega
        have hbs6:w.heap.size + 1 < W6.heap.size:=by omega
        have hkl:k < ql.length:=by rw [HIN.out.1]; omega
        have L6:=Lib.hid l6
        have T6:=Lib.hid t6
        have B6:=Lib.hid b6
        have hka:k < (lim9 a').length:=by omega
        clear l6 t6 b6 q6 hW6 z6 HO
        go_region_with (first
         | ((with_reducible refine (HM1.out _ ?_).mono ?_); (first | exact L6.out | exact L6.out.drew); rintro e w5 ⟨A5,c5,rfl,h5,hb5,ho5,hn5⟩; have cQ5:=(hb5.cell (p:=⟨w.heap.size + 1,0,none⟩) hbs6).trans (show W6.drew.cell? ⟨w.heap.size + 1,0,none⟩=_ from cQ6); have t5:=(T6.out.drewN 1:Tab W6.drew gq 165 .u64 ql).below hb5 hgq6; have g5:=t5.cell k hkl; have f5:=t5.frozen k; have b5:=B6.out.drew.trans (hb5.mono (Nat.le_of_lt hgq6)); have H5:=Lib.hid h5; have T5:=Lib.hid t5; have HB5:=Lib.hid b5; have HO5:=Lib.hid ho5; have HN5:=Lib.hid hn5; clear h5 t5 b5 ho5 hn5 hb5)
         | fail "arm")
        all_goals simp only [Act.put,List.getElem_toArray,List.getElem_cons_succ,List.getElem_cons_zero,List.setIfInBounds_toArray,List.set_cons_succ,List.set_cons_zero]
        all_goals
         go_wp2
         go_roundw
         case rel =>
          refine ⟨k,(k:Int) - 1,ql.set k (d:Int),r2 % b',A5,c5,by omega,by omega,rfl,rfl,HN5.out,H5.out.put_far (fun q hq=>?_) _,T5.out.set _ _,HB5.out.setCell (Nat.le_refl _) _,?_⟩
          ·have h1:=HO5.out q hq
           have h2:W6.drew.heap.size=W6.heap.size:=rfl
           show q.block ≠ gq
           omega
          ·have h1:=(dinv_next (by omega) HX.out hx9 HIN.out).2
           rw [HR2.out,HDE.out] at h1
           exact h1
         case measure=>simp [intOf]
     ·have hlB:(lim9 b').length < (lim9 r2).length:=by omega
      have e2:((lim9 r2).length:Int) - 2=(K':Int):=by have:=HK'.out; omega
      have g2:=HCR.out K' (by omega)
      have hK2:(lim9 r2).length - 2=K':=by have:=HK'.out; omega
      have htw:=top_val2 r2 (by omega)
      rw [HTR.out,hK2,HD0.out] at htw
      have hK'l2:K' < (lim9 r2).length:=by omega
      have hz:=(lim9_digs r2).at_ (by omega) K'
      generalize (lim9 r2)[K']?.getD 0=z at *
      have hz0:=hz.1
      have hz1:=hz.2
      have hDb:(D0:Int) < 1000000000000000000:=by omega
      clear hB hz hK2 hlr2
      have hq1:(D0:Int) / (t':Int) < 1000000000000000000:=Int.lt_of_le_of_lt (Int.ediv_le_self _ (by omega)) hDb
      go_upto_region 24 with fail
      go_wp2_with (go_at_call 128; refine HSM.out.mono ?_; rintro e w3 ⟨Ap,cp,rfl,h3,h4⟩; have H3:=Lib.hid h3; have H4:=Lib.hid h4; clear h3 h4)
      clear hlB e2 g2 htw hK'l2 hz0 hz1
      clear hif hq0 hq1 hDb
      go_loopw [12,13] (fun dv pv wx=>∃ (d:Nat) (Ap:Option Addr) (cp:Nat),dv=.int .u64 d∧r2 / b'≤d∧d < 1000000000∧pv=.slice Ap (lim9 (b' * d)).length cp∧Sl wx .u64 Ap cp (lim9 (b' * d))∧Below W2.heap.size W2 wx) (fun dv _ _=>(intOf dv).toNat)
      case atStart=>exact ⟨dd,Ap,cp,rfl,hd1,hd2,rfl,H3.out,H4.out⟩
      case round =>
       clear H3 H4 hd1 hd2
       obtain ⟨d,Ap,cp,rfl,hd1,hd2,rfl,hsp,hbx⟩:=hrel
       have hlp:=HLB.out d hd2
       have hrx:=SR.out.below hbx
       have hbb2:=SB.out.below hbx
       have cB3:=(hbx.cell (p:=⟨w.heap.size,0,none⟩) (show w.heap.size < W2.heap.size by have:=TW.out.lt; omega)).trans cB2
       have hsz:=hbx.size
       by_cases hgt:r2 < b' * d
       ·have ho:=order_any Ap (some ⟨br,or_,none⟩) cp c' (b' * d) r2 wr hsp hrx (by omega) (by omega)
        rw [cmpN_gt hgt] at ho
        have hdp:0 < d:=by
         rcases Nat.eq_zero_or_pos d with h | h
         ·subst h; omega
         ·exact h
        have hbd:b'≤b' * d:=Nat.le_mul_of_pos_right _ hdp
        have hm1:=fun n=>minus_any Ap (some ⟨b2,o2,none⟩) cp c2 (b' * d) b' (wr.drewN n) hsp hbb2 (by omega) hbd
        rw [show b' * d - b'=b' * (d - 1) by rw [Nat.mul_sub_one]] at hm1
        have hle1:r2 / b'≤d - 1:=by
         have:=Nat.div_lt_of_lt_mul hgt
         omega
        have HO:=Lib.hid ho
        have HM1:=Lib.hid hm1
        have HSP:=Lib.hid hsp
        have HBX:=Lib.hid hbx
        clear ho hm1 hsp hbx hrx hbb2 hgt hbd
        go_wp2_with (first
         | (go_at_call 84; refine HO.out.mono ?_; rintro e w'' ⟨rfl,n2,rfl⟩)
         | (go_at_call 85; refine (HM1.out _).mono ?_; rintro e w'' ⟨A5,c5,rfl,h5,h6⟩; have H5:=Lib.hid h5; have H6:=Lib.hid h6; clear h5 h6))
        go_roundw
        case rel=>exact ⟨d - 1,A5,c5,int_u64 (by omega),hle1,by omega,rfl,H5.out,HBX.out.trans (((Drew.of _ _).below _).trans (H6.out.mono (by simpa using hsz)))⟩
        case measure=>simp [intOf]; omega
       ·obtain ⟨r4,hr4⟩:∃ z,cmpN (b' * d) r2=z:=⟨_,rfl⟩
        have hr5:decide (0 < r4)=false:=by
         rw [decide_eq_false_iff_not,Int.not_lt,← hr4]
         unfold cmpN
         by_cases hx:b' * d < r2
         ·rw [if_pos hx]; omega
         ·rw [if_neg hx,if_neg hgt]; omega
        have ho:=order_any Ap (some ⟨br,or_,none⟩) cp c' (b' * d) r2 wr hsp hrx (by omega) (by omega)
        rw [hr4] at ho
        have hde:r2 / b'=d:=by
         have h1:d≤r2 / b':=by rw [Nat.le_div_iff_mul_le hbp,Nat.mul_comm]; omega
         omega
        have hmd2:r2 - b' * d=r2 % b':=by rw [Nat.mod_eq_sub,hde]
        have hm1:=fun W (hW:Below wr.heap.size wr W)=>minus_own (some ⟨br,or_,none⟩) Ap c' cp r2 (b' * d) W (hrx.below hW) (hsp.below hW) (by omega) (by omega)
        rw [hmd2] at hm1
        have hbq:gq < wr.heap.size:=by have:=TW.out.lt; omega
        have tX:Tab wr gq 165 .u64 ql:=TW.out.below hbx TW.out.lt
        have bX:Below gq W1 wr:=BW.out.trans (hbx.mono (Nat.le_of_lt TW.out.lt))
        have HO:=Lib.hid ho
        have HM1:=Lib.hid hm1
        have HDE:=Lib.hid hde
        have TX:=Lib.hid tX
        have BX:=Lib.hid bX
        clear ho hm1 hsp hbx hrx hbb2 hgt hde hmd2 hr4 tX bX
        go_upto_region 29 with (go_at_call 84; refine HO.out.mono ?_; rintro e w'' ⟨rfl,n2,rfl⟩)
        obtain ⟨W6,hW6⟩:∃ W6,wr.drewN n2=W6:=⟨_,rfl⟩
        rw [hW6]
        have l6:Below wr.heap.size wr W6:=by rw [← hW6]; exact (Drew.of _ n2).below _
        have z6:W6.heap.size=wr.heap.size:=by rw [← hW6]; rfl
        have t6:Tab W6 gq 165 .u64 ql:=TX.out.below l6 hbq
        have b6:Below gq W1 W6:=BX.out.trans (l6.mono (Nat.le_of_lt hbq))
        have q6:=(b6.block _ bsz).trans J4.out
        have cQ6:W6.cell? ⟨w.heap.size + 1,0,none⟩=some (.slice (some ⟨gq,0,none⟩) (lim9 a').length (lim9 a').length):=by rw [Lib.cell_of_heap q6]; rfl
        have hgq6:gq < W6.heap.size:=by omega
        have hbs6:w.heap.size + 1 < W6.heap.size:=by omega
        have hkl:k < ql.length:=by rw [HIN.out.1]; omega
        have L6:=Lib.hid l6
        have T6:=Lib.hid t6
        have B6:=Lib.hid b6
        have hka:k < (lim9 a').length:=by omega
        clear l6 t6 b6 q6 hW6 z6 HO
        go_region_with (first
         | ((with_reducible refine (HM1.out _ ?_).mono ?_); (first | exact L6.out | exact L6.out.drew); rintro e w5 ⟨A5,c5,rfl,h5,hb5,ho5,hn5⟩; have cQ5:=(hb5.cell (p:=⟨w.heap.size + 1,0,none⟩) hbs6).trans (show W6.drew.cell? ⟨w.heap.size + 1,0,none⟩=_ from cQ6); have t5:=(T6.out.drewN 1:Tab W6.drew gq 165 .u64 ql).below hb5 hgq6; have g5:=t5.cell k hkl; have f5:=t5.frozen k; have b5:=B6.out.drew.trans (hb5.mono (Nat.le_of_lt hgq6)); have H5:=Lib.hid h5; have T5:=Lib.hid t5; have HB5:=Lib.hid b5; have HO5:=Lib.hid ho5; have HN5:=Lib.hid hn5; clear h5 t5 b5 ho5 hn5 hb5)
         | fail "arm")
        all_goals simp only [Act.put,List.getElem_toArray,List.getElem_cons_succ,List.getElem_cons_zero,List.setIfInBounds_toArray,List.set_cons_succ,List.set_cons_zero]
        all_goals
         go_wp2
         go_roundw
         case rel =>
          refine ⟨k,(k:Int) - 1,ql.set k (d:Int),r2 % b',A5,c5,by omega,by omega,rfl,rfl,HN5.out,H5.out.put_far (fun q hq=>?_) _,T5.out.set _ _,HB5.out.setCell (Nat.le_refl _) _,?_⟩
          ·have h1:=HO5.out q hq
           have h2:W6.drew.heap.size=W6.heap.size:=rfl
           show q.block ≠ gq
           omega
          ·have h1:=(dinv_next (by omega) HX.out hx9 HIN.out).2
           rw [HR2.out,HDE.out] at h1
           exact h1
         case measure=>simp [intOf]

end Go.Proofs.YthhkmihjnnfpgaaGreatDoor

/- integer.divide at whatever divisor that is not zero. -/
namespace Go.Proofs.YthhkmihjnnfpgaaGreatDoor
open Go.RowKit

theorem divide_any (A A':Option Addr) (c c' a b:Nat) (w:World) (ha:Sl w .u64 A c (lim9 a)) (hb:Sl w .u64 A' c' (lim9 b)) (hla:(lim9 a).length≤20000) (hlb:(lim9 b).length≤20000) (hb0:0 < b) :
  Calls Tryz.prog 113 #[.slice A (lim9 a).length c,.slice A' (lim9 b).length c'] w fun e w'=>∃ A1 c1 A2 c2,e=.returned (.tuple #[.slice A1 (lim9 (a / b)).length c1,.slice A2 (lim9 (a % b)).length c2]) ∧
   Sl w' .u64 A1 c1 (lim9 (a / b))∧Sl w' .u64 A2 c2 (lim9 (a % b))∧Below w.heap.size w w':=by
 rcases Nat.lt_or_ge a b with hlt | hge
 ·refine (divide_less A A' c c' a b w ha hb (by omega) (by omega) hlt).mono fun e w' ⟨h1,h2⟩=>?_
  rw [Nat.div_eq_of_lt hlt,Nat.mod_eq_of_lt hlt]
  exact ⟨none,0,A,c,h1,Sl.nil_,ha.below h2,h2⟩
 ·rcases Nat.lt_or_ge (lim9 b).length 2 with h1 | h2
  ·have hb9:b < 1000000000:=by
    have h3:=lim_lt_pow 1000000000 (by omega) b
    have h4:(1000000000:Nat) ^ (lim 1000000000 b).length≤1000000000 ^ 1:=Nat.pow_le_pow_right (by omega) (by have:(lim9 b).length=(lim 1000000000 b).length:=rfl; omega)
    omega
   rw [lim9_one b hb0 hb9] at hb ⊢
   exact divide_one A A' c c' a b w ha hb (by omega) hb0 hb9 hge
  ·exact divide_many A A' c c' a b w ha hb hla h2 hge

end Go.Proofs.YthhkmihjnnfpgaaGreatDoor
