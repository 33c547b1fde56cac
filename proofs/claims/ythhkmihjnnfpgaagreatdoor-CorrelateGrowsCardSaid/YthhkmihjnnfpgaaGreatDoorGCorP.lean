/- Correlate: improve, tables, the frame of loops over iterators. -/
import Derived.Test.YthhkmihjnnfpgaaGreatDoorCorM
import Derived.Test.YthhkmihjnnfpgaaGreatDoorGCorN
/- Tables made, and entries made less. -/
namespace Go.Proofs.YthhkmihjnnfpgaaGreatDoor
set_option linter.all false
open Go.RowKit

theorem run_mkv {P:Program} {t e:TypeId} {z:Value} {bytes:Nat} (ht:P.underlying t=some (.slice e)) (info:(P.info? e).map (fun i=>(i.zero,i.size,i.bytes))=some (some z,1,bytes)) (hz1:z.cells=#[z]) (hb:bytes≤64) (c:Nat) (hc:c≤1000000) (ci:Int) (hci:ci=c) :
  ∀ W:World,(Instr.makeSlice t (.int .i64 ci) (.int .i64 ci)).run P W=.ok (.slice (some ⟨W.heap.size,0,none⟩) c c) (W.alloc (.cells ((List.range c).map (fun _=>z)).toArray e)):=by
 intro W
 cases hi:P.info? e with
 | none=>rw [hi] at info; cases info
 | some i =>
  rw [hi] at info
  simp only [Option.map_some,Option.some.injEq,Prod.mk.injEq] at info
  obtain ⟨hz,hsz,hby⟩:=info
  subst hci
  have h1:i.bytes * c≤64 * c:=Nat.mul_le_mul_right c (by omega)
  have h2:(i.bytes:Int) * (c:Int)≤281474976710656:=by
   have h:((i.bytes * c:Nat):Int)≤281474976710656:=by omega
   rwa [Int.natCast_mul] at h
  have hr:=run_make (P:=P) W t e i z ht hi hz .i64 .i64 c c (by omega) (by omega) h2 (by omega)
  simp only [Int.toNat_natCast,hsz] at hr
  rw [hr]
  congr 4
  rw [hz1]
  apply Array.ext
  ·simp [size_madeCells]
  ·intro k h3 h4
   simp [madeCells,Nat.mod_one]

structure TabP (W:World) (ob:Nat) (rb:List Nat) (N M:Nat) (z:Value) (T1 T2:TypeId):Prop where
 out:Blk W ob (rb.map (fun b=>Value.slice (some ⟨b,0,none⟩) M M) ++ List.replicate (N - rb.length) (Value.slice none 0 0)).toArray T1
 row:∀ (i:Nat) (h:i < rb.length),Blk W rb[i] ((List.range M).map (fun _=>z)).toArray T2
 far:ob ∉ rb
 nd:rb.Nodup
theorem TabP.below {W W':World} {ob:Nat} {rb:List Nat} {N M:Nat} {z:Value} {T1 T2:TypeId} (h:TabP W ob rb N M z T1 T2) (k:Below W.heap.size W W'):TabP W' ob rb N M z T1 T2:=⟨h.out.below k,fun i hi=>(h.row i hi).below k,h.far,h.nd⟩
theorem TabP.next {W:World} {ob:Nat} {rb:List Nat} {N M:Nat} {z:Value} {T1 T2:TypeId} (h:TabP W ob rb N M z T1 T2) (hlt:rb.length < N) :
  TabP ((W.alloc (.cells ((List.range M).map (fun _=>z)).toArray T2)).setCell ⟨ob,rb.length,none⟩ (.slice (some ⟨W.heap.size,0,none⟩) M M)) ob (rb ++ [W.heap.size]) N M z T1 T2:=by
 have hob:=h.out.lt
 have q:=below_new W (.cells ((List.range M).map (fun _=>z)).toArray T2)
 refine ⟨?_,fun i hi=>?_,?_,?_⟩
 ·have hs:=(h.out.below q).set rb.length (.slice (some ⟨W.heap.size,0,none⟩) M M)
  have e:((rb.map (fun b=>Value.slice (some ⟨b,0,none⟩) M M) ++ List.replicate (N - rb.length) (Value.slice none 0 0)).toArray.setIfInBounds rb.length (.slice (some ⟨W.heap.size,0,none⟩) M M))=((rb ++ [W.heap.size]).map (fun b=>Value.slice (some ⟨b,0,none⟩) M M) ++ List.replicate (N - (rb ++ [W.heap.size]).length) (Value.slice none 0 0)).toArray:=by
   obtain ⟨d,hd⟩:∃ d,N - rb.length=d + 1:=⟨N - rb.length - 1,by omega⟩
   have hd2:N - (rb ++ [W.heap.size]).length=d:=by simp; omega
   rw [hd,hd2,List.replicate_succ,List.map_append,List.append_assoc]
   simp only [List.setIfInBounds_toArray]
   congr 1
   rw [List.set_append_right _ _ (by simp)]
   simp
  rw [← e]
  exact hs
 ·by_cases hl:i < rb.length
  ·rw [List.getElem_append_left hl]
   exact ((h.row i hl).below q).one (fun e=>h.far (by rw [← e]; exact List.getElem_mem hl)) _ _
  ·have:i=rb.length:=by simp at hi; omega
   subst this
   rw [List.getElem_append_right (Nat.le_refl _)]
   simp only [Nat.sub_self,List.getElem_singleton]
   exact (Blk.fresh W _ _).one (by omega) _ _
 ·rw [List.mem_append]
  rintro (h1 | h1)
  ·exact h.far h1
  ·rw [List.mem_singleton] at h1
   omega
 ·rw [List.nodup_append]
  refine ⟨h.nd,by simp,fun a ha b hb=>?_⟩
  rw [List.mem_singleton] at hb
  subst hb
  obtain ⟨i,hi,rfl⟩:=List.getElem_of_mem ha
  have:=(h.row i hi).lt
  omega
theorem TabP.done {W:World} {ob:Nat} {rb:List Nat} {N M:Nat} {z:Value} {T1 T2:TypeId} (h:TabP W ob rb N M z T1 T2) (hl:rb.length=N):TabV W ob rb M (fun _ _=>z) T1 T2:=by
 refine ⟨?_,h.row,h.far,h.nd⟩
 have:=h.out
 rw [hl,Nat.sub_self,List.replicate_zero,List.append_nil] at this
 exact this

set_option maxRecDepth 100000 in
set_option maxHeartbeats 4000000 in
theorem table_any (q:CQ) (ok:OkQ q) (sl sr:Value) (w:World) (hq:QAt w sl sr q) :
  Calls Tryz.prog 77 #[.agg #[sl,sr,.string (qT (2 * q.ch)),.string (qT (2 * q.mi)),.string (qT (2 * q.ga)),.string (qT (2 * q.re))]] w fun e w'=>∃ ob rb,e=.returned (.slice (some ⟨ob,0,none⟩) (q.L.length + 1) (q.L.length + 1))∧rb.length=q.L.length + 1 ∧
   TabT w' ob rb (q.R.length + 1) (fun _ _=>⟨#[]⟩) 71 28 ∧ w.heap.size≤ob∧(∀ g ∈ rb,w.heap.size≤g)∧Below w.heap.size w w':=by
 have hll:=ok.hl
 have hrr:=ok.hr
 obtain ⟨A1,n1,rfl,_⟩:=hq.l
 obtain ⟨A2,n2,rfl,_⟩:=hq.r
 have B:=Lib.hid (Below.refl w.heap.size w)
 clear hq ok
 generalize q.L.length=l1 at *
 generalize q.R.length=l2 at *
 generalize qT (2 * q.ch)=c1 at *
 generalize qT (2 * q.mi)=c2 at *
 generalize qT (2 * q.ga)=c3 at *
 generalize qT (2 * q.re)=c4 at *
 obtain ⟨z1,hz1⟩:∃ z,((List.range (l1 + 1)).map (fun _=>Value.slice none 0 0)).toArray=z:=⟨_,rfl⟩
 obtain ⟨z2,hz2⟩:∃ z,((List.range (l2 + 1)).map (fun _=>Value.string ⟨#[]⟩)).toArray=z:=⟨_,rfl⟩
 have hm1:=run_mkv (P:=Tryz.prog) (t := 99) (e := 71) (z:=.slice none 0 0) (bytes:=24) Tryz.underlying99 (by kernel_rfl) rfl (by omega) (l1 + 1) (by omega) ((l1:Int) + 1) (by omega)
 have hm2:=run_mkv (P:=Tryz.prog) (t := 71) (e := 28) (z:=.string ⟨#[]⟩) (bytes:=16) Tryz.underlying71 (by kernel_rfl) rfl (by omega) (l2 + 1) (by omega) ((l2:Int) + 1) (by omega)
 rw [hz1] at hm1
 rw [hz2] at hm2
 have HZ1:=Lib.hid hz1
 have HZ2:=Lib.hid hz2
 clear hz1 hz2
 go_enter Tryz.func77, Tryz.ntmps77
 go_upto_region 1 with (fail)
 have K1:=Lib.hid (Blk.fresh w #[.slice A1 l1 n1,.slice A2 l2 n2,.string c1,.string c2,.string c3,.string c4] 32)
 have qq:=below_new w (.cells #[.slice A1 l1 n1,.slice A2 l2 n2,.string c1,.string c2,.string c3,.string c4] 32)
 replace B:=Lib.hid (B.out.trans (qq.mono B.out.size))
 have hb1:w.heap.size < (w.alloc (.cells #[.slice A1 l1 n1,.slice A2 l2 n2,.string c1,.string c2,.string c3,.string c4] 32)).heap.size:=by simp
 clear qq
 generalize (w.alloc (.cells #[.slice A1 l1 n1,.slice A2 l2 n2,.string c1,.string c2,.string c3,.string c4] 32))=W1 at *
 have HB1:=Lib.hid hb1
 clear hb1
 have y0:=K1.out.at_ 0 _ rfl
 have y1:=K1.out.at_ 1 _ rfl
 go_upto_region 2 with (fail)
 have TP:Hid (TabP (W1.alloc (.cells z1 71)) W1.heap.size [] (l1 + 1) (l2 + 1) (.string ⟨#[]⟩) 71 28):=Lib.hid ⟨by
  have h:=Blk.fresh W1 z1 71
  rw [← HZ1.out] at h ⊢
  rw [show ([]:List Nat).map (fun b=>Value.slice (some ⟨b,0,none⟩) (l2 + 1) (l2 + 1)) ++ List.replicate (l1 + 1 - ([]:List Nat).length) (Value.slice none 0 0)=(List.range (l1 + 1)).map (fun _=>Value.slice none 0 0) from by
   rw [List.map_const',List.length_range]; rfl]
  exact h,fun i hi=>by simp at hi,by simp,by simp⟩
 have qq:=below_new W1 (.cells z1 71)
 replace B:=Lib.hid (B.out.trans (qq.mono B.out.size))
 replace K1:=Lib.hid (K1.out.below qq)
 clear qq y0 y1 hm1
 generalize (W1.alloc (.cells z1 71))=W2 at *
 obtain ⟨ob,hob⟩:∃ ob,W1.heap.size=ob:=⟨_,rfl⟩
 rw [hob] at TP HB1 ⊢
 clear hob
 obtain ⟨b1,hbe⟩:∃ b1,w.heap.size=b1:=⟨_,rfl⟩
 rw [hbe] at K1 HB1 ⊢
 have HBE:=Lib.hid hbe
 clear hbe
 go_wp2
 go_loopw [12] (fun iv wr=>∃ (k:Nat) (rb:List Nat),k≤l1 + 1∧iv=.int .i64 k∧rb.length=k∧TabP wr ob rb (l1 + 1) (l2 + 1) (.string ⟨#[]⟩) 71 28 ∧ (∀ g ∈ rb,b1≤g)∧Blk wr b1 #[.slice A1 l1 n1,.slice A2 l2 n2,.string c1,.string c2,.string c3,.string c4] 32 ∧ Below w.heap.size w wr) (fun iv _=>l1 + 1 - (intOf iv).toNat)
 case atStart=>exact ⟨0,[],by omega,rfl,rfl,TP.out,by simp,K1.out,B.out⟩
 case round =>
  clear B K1 TP
  obtain ⟨k,rb,hk,rfl,hrb,tp,hlow,k1,b⟩:=hrel
  have K1:=Lib.hid k1
  have B:=Lib.hid b
  have TP:=Lib.hid tp
  have HLOW:=Lib.hid hlow
  by_cases hlt:k < l1 + 1
  ·have hi:(k:Int) < (l1:Int) + 1:=by omega
   have q:=below_new wr (.cells z2 28)
   have y1:=K1.out.at_ 1 _ rfl
   have z0:=(tp.out.below q).free k
   have x0:=(tp.out.below q).atL k (.slice none 0 0) (by
    rw [List.getElem?_append_right (by simp; omega),List.getElem?_replicate,if_pos (by simp; omega)])
   have hnx:=tp.next (by omega)
   rw [HZ2.out] at hnx
   have HN:=Lib.hid hnx
   clear hnx
   have HBB:Hid (Below w.heap.size w ((wr.alloc (.cells z2 28)).setCell ⟨ob,k,none⟩ (.slice (some ⟨wr.heap.size,0,none⟩) (l2 + 1) (l2 + 1)))):=Lib.hid (Below.setCell (p:=⟨ob,k,none⟩) (b.trans (q.mono b.size)) (by have:=HB1.out; have:=HBE.out; show w.heap.size≤ob; omega) _)
   have HK:Hid (Blk ((wr.alloc (.cells z2 28)).setCell ⟨ob,k,none⟩ (.slice (some ⟨wr.heap.size,0,none⟩) (l2 + 1) (l2 + 1))) b1 #[.slice A1 l1 n1,.slice A2 l2 n2,.string c1,.string c2,.string c3,.string c4] 32):=Lib.hid ((k1.below q).one (by have:=HB1.out; omega) _ _)
   have HLW:Hid (b1≤wr.heap.size):=Lib.hid (by have:=HBE.out; have:=b.size; omega)
   rw [hrb] at HN
   have HRB:=Lib.hid hrb
   clear tp k1 b q hlow hrb
   go_wp2
   go_roundw
   case rel=>exact ⟨k + 1,rb ++ [wr.heap.size],by omega,by go_num,by rw [List.length_append,HRB.out]; rfl,HN.out,fun g hg=>by
    rcases List.mem_append.1 hg with h | h
    ·exact HLOW.out g h
    ·rw [List.mem_singleton] at h; subst h; exact HLW.out,HK.out,HBB.out⟩
   case measure=>simp [intOf]; omega
  ·have hkl:k=l1 + 1:=by omega
   subst hkl
   have hi:¬ ((l1 + 1:Nat):Int) < (l1:Int) + 1:=by omega
   have HT:=Lib.hid (tp.done hrb)
   have HRB:=Lib.hid hrb
   clear tp k1 b hlow hrb
   go_wp2
   go_ret
   exact ⟨ob,rfl,rb,HRB.out,HT.out,by have:=HB1.out; have:=HBE.out; omega,fun g hg=>by have:=HLOW.out g hg; have:=HBE.out; omega,B.out⟩

noncomputable def optT:Option Int→ByteArray
 | none=>⟨#[]⟩
 | some x=>qT x
theorem qT_ne (x:Int):((qT x).toList == ([]:List UInt8))=false:=by
 rw [beq_eq_false_iff_ne,ByteArray.toList_eq]
 show ratL (mkRat x 4).num (mkRat x 4).den ≠ []
 unfold ratL
 rcases itoa_cases (mkRat x 4).num with ⟨_,h⟩ | ⟨_,h⟩
 ·have:=decDigits_ne (mkRat x 4).num.natAbs
  split
  ·rw [h]; exact this
  ·simp
 ·split
  ·rw [h]; simp
  ·simp

set_option maxRecDepth 100000 in
set_option maxHeartbeats 4000000 in
theorem improve_any (ob:Nat) (rb:List Nat) (M i j:Nat) (c:Nat→Nat→ByteArray) (hi:i < rb.length) (hj:j < M) (hN:rb.length≤1000) (hM:M≤1000) (a:Option Int) (x:Int) (ha:∀ y,a=some y→y.natAbs < 1000000) (hx:x.natAbs < 1000000) (hc:c i j=optT a) (w:World) (he:Env w)
  (ht:TabT w ob rb M c 71 28) :
  Calls Tryz.prog 78 #[.slice (some ⟨ob,0,none⟩) rb.length rb.length,.int .i64 i,.int .i64 j,.string (qT x)] w fun e w'=>(∃ v,e=.returned v)∧Wrote rb[i] w w' ∧
   TabT w' ob rb M (fun p r=>if p=i∧r=j then optT (imp a x) else c p r) 71 28 := by
 have x1:=ht.cell1 i hi
 have x2:=ht.cell2 i j hi hj
 have hg:rb[i]≤w.heap.size:=Nat.le_of_lt (ht.lt2 _ (List.getElem_mem hi))
 have t1:(i:Int) < (rb.length:Int):=by omega
 have t2:(j:Int) < (M:Int):=by omega
 rw [hc] at x2
 have HT:=Lib.hid ht
 have HG:=Lib.hid hg
 have HSET:Hid (∀ W,Below w.heap.size w W→∀ y,optT (imp a x)=y→Wrote rb[i] w (W.setCell ⟨rb[i],j,none⟩ (.string y))∧TabT (W.setCell ⟨rb[i],j,none⟩ (.string y)) ob rb M (fun p r=>if p=i∧r=j then optT (imp a x) else c p r) 71 28):=Lib.hid (fun W hW y hy=>by
  refine ⟨(Wrote.of hg hW).trans (Wrote.set ((ht.below hW).row i hi) j _),((ht.below hW).set i j hi (.string y)).congr (fun p r _ _=>?_)⟩
  unfold updV
  dsimp only
  rw [hy]
  by_cases h:p=i∧r=j
  ·rw [if_pos h,if_pos h]
  ·rw [if_neg h,if_neg h])
 have HSAME:Hid (imp a x=a→∀ W,Below w.heap.size w W→Wrote rb[i] w W∧TabT W ob rb M (fun p r=>if p=i∧r=j then optT (imp a x) else c p r) 71 28):=Lib.hid (fun h W hW=>by
  refine ⟨Wrote.of hg hW,(ht.below hW).congr (fun p r _ _=>?_)⟩
  dsimp only
  by_cases h2:p=i∧r=j
  ·rw [if_pos h2,h,h2.1,h2.2,hc]
  ·rw [if_neg h2])
 have B:=Lib.hid (Below.refl w.heap.size w)
 have f1:=ht.free i j hi
 have HF:Hid (∀ W,Below w.heap.size w W→W.frozen? ⟨rb[i],j,none⟩=false):=Lib.hid (fun W hW=>(ht.below hW).free i j hi)
 have HX1:Hid (∀ W,Below w.heap.size w W→W.cell? ⟨ob,i,none⟩=_∧W.cell? ⟨rb[i],j,none⟩=_):=Lib.hid (fun W hW=>⟨(ht.below hW).cell1 i hi,(ht.below hW).cell2 i j hi hj⟩)
 clear ht hg hM
 generalize rb[i]=r1 at *
 clear hi
 have hi:i < rb.length:=by omega
 generalize rb.length=N at *
 cases a with
 | none =>
  have HS2:=Lib.hid (fun W hW=>HSET.out W hW (qT x) rfl)
  have e1:optT none=⟨#[]⟩:=rfl
  rw [e1] at x2
  clear e1 HSET HSAME HX1 HF hc ha hx HT HG
  generalize qT x=tx at *
  go_enter Tryz.func78, Tryz.ntmps78
  go_wp2
  go_end0
  exact ⟨⟨_,rfl⟩,HS2.out _ (Below.refl _ _)⟩
 | some y =>
  have e1:optT (some y)=qT y:=rfl
  rw [e1] at x2
  have HC:=Lib.hid (rCmpQ x y hx (ha y rfl) w he)
  have hne:=qT_ne y
  have HS2:=HSET
  by_cases hlt:x < y
  ·have g1:decide ((x - y).sign < 0)=true:=by rw [dsign_ltC]; exact decide_eq_true (by omega)
   have HS2:=Lib.hid (fun W hW=>HSET.out W hW (qT x) (by rw [show imp (some y) x=some x from if_pos hlt]; rfl))
   clear e1 HSET HSAME hc ha hx HT HG
   generalize (x - y).sign=s at *
   generalize qT x=tx at *
   generalize qT y=ty at *
   go_enter Tryz.func78, Tryz.ntmps78
   go_wp2_with (first
    | (go_at_call 22; with_reducible refine (HC.out _ B.out).mono ?_; rintro e wx ⟨rfl,q⟩; have QQ:=Lib.hid q; have x3:=(HX1.out _ q).1; have x4:=(HX1.out _ q).2; have x5:=HF.out _ q; clear q)
    | fail "arm")
   go_end0
   exact ⟨⟨_,rfl⟩,HS2.out _ QQ.out⟩
  ·have g1:decide ((x - y).sign < 0)=false:=by rw [dsign_ltC]; exact decide_eq_false (by omega)
   have HS2:=Lib.hid (HSAME.out (if_neg hlt))
   clear e1 HSET HSAME hc ha hx HT HG
   generalize (x - y).sign=s at *
   generalize qT x=tx at *
   generalize qT y=ty at *
   go_enter Tryz.func78, Tryz.ntmps78
   go_wp2_with (first
    | (go_at_call 22; with_reducible refine (HC.out _ B.out).mono ?_; rintro e wx ⟨rfl,q⟩; have QQ:=Lib.hid q; clear q)
    | fail "arm")
   go_end0
   exact ⟨⟨_,rfl⟩,HS2.out _ QQ.out⟩

end Go.Proofs.YthhkmihjnnfpgaaGreatDoor

/- The state of loops over a table of texts. -/
namespace Go.Proofs.YthhkmihjnnfpgaaGreatDoor
set_option linter.all false
open Go.RowKit

attribute [local go_sem] Oper.semAt_some

theorem ex_frame {A:Act} {F:(Nat→Value)→Act} (h:A=F (slotOf A)):∃ v,A=F v:=⟨_,h⟩
def KeepsLow (B:Nat) (W W':World):Prop:=∀ (k:Nat) (o:Obj),k < B→o.isCells=false→W.heap[k]?=some o→W'.heap[k]?=some o
theorem KeepsLow.refl (B:Nat) (W:World):KeepsLow B W W:=fun _ _ _ _ h=>h
theorem KeepsLow.trans {B:Nat} {X Y Z:World} (h:KeepsLow B X Y) (k:KeepsLow B Y Z):KeepsLow B X Z:=fun i o hi ho e=>k i o hi ho (h i o hi ho e)
theorem KeepsLow.of {B:Nat} {W W':World} (h:KeepsFrom 0 W W'):KeepsLow B W W':=fun k o _ ho e=>h.same k o (Nat.zero_le _) e ho
theorem KeepsLow.own {β:Type} (B:Nat) (W:World):OwnFrom B (fun (_:β) V=>KeepsLow B W V):=fun s V V' row h hg hr k o hk ho e=>by
 have e2:=h k o hk ho e
 exact (hg.block k (Array.getElem?_eq_some_iff.1 e2).1 (fun e3=>by have:=(hr k e3.symm).1; omega)).trans e2
theorem Marks.low {base B:Nat} {W V:World} (hB:W.heap.size≤B) (k:KeepsLow B W V):∀ {ds:List Deferred},Marks base W ds→Marks base V ds
 | [],_=>trivial
 | _ :: _,⟨⟨D,h1,h2,h3,h4⟩,h⟩=>⟨⟨D,h1,h2,k D _ (Nat.lt_of_lt_of_le (Array.getElem?_eq_some_iff.1 h3).1 hB) rfl h3,h4⟩,Marks.low hB k h⟩
theorem Marks.add {base:Nat} {W V:World} {ds:List Deferred} {D:Nat} (h:Marks base W ds) (hv:Marks base V ds) (hb:base≤D) (hD:W.heap.size≤D) (hK:V.heap[D]?=some (.deferred (some []))):Marks base V ({ target:=.collected D,args:=#[] } :: ds) :=
 ⟨⟨D,rfl,hb,hK,fun x hx e=>by have:=h.lt x hx D e; omega⟩,hv⟩
theorem ownFrom_bb {β:Type} {B:Nat} {w0:World} (hB:w0.heap.size≤B):OwnFrom B (fun (_:β) V=>w0.heap.size≤V.heap.size∧Below w0.heap.size w0 V):=fun s V V' row h hg hr =>
 ⟨Nat.le_trans h.1 hg.size,h.2.grown hg h.1 (fun k hk=>Nat.le_trans hB (hr k hk).1)⟩
theorem KeptC.of_bb {w0 W:World} (h:Below w0.heap.size w0 W):KeptC (fun g _=>g < w0.heap.size) w0 W:=fun g _ _ _ hg e=>(h.block g hg).trans e
structure StO (w0:World) (bq bo bi ob:Nat) (rb:List Nat) (q:CQ) (sl sr:Value) (i:Int) (c:Nat→Nat→ByteArray) (ds:List Deferred) (W:World):Prop where
 bb:Below w0.heap.size w0 W
 kq:Blk W bq #[sl,sr,.string (qT (2 * q.ch)),.string (qT (2 * q.mi)),.string (qT (2 * q.ga)),.string (qT (2 * q.re))] 32
 ko:Blk W bo #[.slice (some ⟨ob,0,none⟩) rb.length rb.length] 99
 ki:Blk W bi #[.int .i64 i] 3
 tab:TabT W ob rb (q.R.length + 1) c 71 28
 mrk:Marks w0.heap.size W ds
 s1:w0.heap.size≤bq
 s2:bq < ob∧ob < bo
 s3:∀ g ∈ rb,bq < g∧g < bo
 s4:bo < bi
section
variable {w0 W W':World} {bq bo bi ob:Nat} {rb:List Nat} {q:CQ} {sl sr:Value} {i:Int} {c:Nat→Nat→ByteArray} {ds:List Deferred}
theorem StO.below (h:StO w0 bq bo bi ob rb q sl sr i c ds W) (k:Below W.heap.size W W'):StO w0 bq bo bi ob rb q sl sr i c ds W' :=
 ⟨h.bb.trans (k.mono h.bb.size),h.kq.below k,h.ko.below k,h.ki.below k,h.tab.below k,h.mrk.kept (keepsFrom_below k),h.s1,h.s2,h.s3,h.s4⟩
theorem StO.wrote {g:Nat} {c':Nat→Nat→ByteArray} (h:StO w0 bq bo bi ob rb q sl sr i c ds W) (hg:g ∈ rb) (k:Wrote g W W') (t:TabT W' ob rb (q.R.length + 1) c' 71 28):StO w0 bq bo bi ob rb q sl sr i c' ds W':=by
 have h3:=h.s3 g hg
 have h1:=h.s1
 have h4:=h.s4
 exact ⟨h.bb.trans (k.below.mono (by omega)),h.kq.keptC k.kept (by omega),h.ko.keptC k.kept (by omega),h.ki.keptC k.kept (by omega),t,h.mrk.kept (KeepsFrom.mono k.keeps (Nat.zero_le _)),h.s1,h.s2,h.s3,h.s4⟩
theorem StO.newI {bi':Nat} {x:Int} (h:StO w0 bq bo bi ob rb q sl sr i c ds W) (hb:bo < bi') (k:Blk W bi' #[.int .i64 x] 3):StO w0 bq bo bi' ob rb q sl sr x c ds W:=⟨h.bb,h.kq,h.ko,k,h.tab,h.mrk,h.s1,h.s2,h.s3,hb⟩
theorem StO.tabC {c':Nat→Nat→ByteArray} (h:StO w0 bq bo bi ob rb q sl sr i c ds W) (e:∀ p r,p < rb.length→r < q.R.length + 1→c p r=c' p r):StO w0 bq bo bi ob rb q sl sr i c' ds W :=
 ⟨h.bb,h.kq,h.ko,h.ki,h.tab.congr (fun p r h1 h2=>by rw [e p r h1 h2]),h.mrk,h.s1,h.s2,h.s3,h.s4⟩
theorem StO.marks {ds':List Deferred} (h:StO w0 bq bo bi ob rb q sl sr i c ds W) (m:Marks w0.heap.size W ds'):StO w0 bq bo bi ob rb q sl sr i c ds' W:=⟨h.bb,h.kq,h.ko,h.ki,h.tab,m,h.s1,h.s2,h.s3,h.s4⟩
theorem StO.size (h:StO w0 bq bo bi ob rb q sl sr i c ds W):w0.heap.size≤W.heap.size:=h.bb.size
theorem StO.own {β:Type} {B:Nat} {WB:World} (hB:WB.heap.size=B) (hw:w0.heap.size≤B) (hm:Marks w0.heap.size WB ds) (f:β→Nat→Nat→ByteArray):OwnFrom B (fun (s:β) V=>StO w0 bq bo bi ob rb q sl sr i (f s) ds V∧KeepsLow B WB V):=fun s V V' row h hg hr=>by
 have hk:=KeepsLow.own (β:=β) B WB s V V' row h.2 hg hr
 have hb:=ownFrom_bb (β:=β) hw s V V' row ⟨h.1.bb.size,h.1.bb⟩ hg hr
 have hc:=ownFrom_cells (I:=fun (_:Unit) X=>Blk X bq #[sl,sr,.string (qT (2 * q.ch)),.string (qT (2 * q.mi)),.string (qT (2 * q.ga)),.string (qT (2 * q.re))] 32 ∧ Blk X bo #[.slice (some ⟨ob,0,none⟩) rb.length rb.length] 99 ∧ Blk X bi #[.int .i64 i] 3 ∧ TabT X ob rb (q.R.length + 1) (f s) 71 28)
  (fun _ X X' h k _=>⟨h.1.keptC k trivial,h.2.1.keptC k trivial,h.2.2.1.keptC k trivial,h.2.2.2.keptC k trivial (fun _ _=>trivial)⟩) B () V V' row ⟨h.1.kq,h.1.ko,h.1.ki,h.1.tab⟩ hg hr
 exact ⟨⟨hb.2,hc.1,hc.2.1,hc.2.2.1,hc.2.2.2,Marks.low (Nat.le_of_eq hB) hk hm,h.1.s1,h.1.s2,h.1.s3,h.1.s4⟩,hk⟩
end

noncomputable def rowsC (q:CQ) (k p r:Nat):ByteArray:=if k≤p then rstT q p r else ⟨#[]⟩
noncomputable def colC (q:CQ) (i m p r:Nat):ByteArray:=if i < p ∨ (p=i∧m≤r) then rstT q p r else ⟨#[]⟩
noncomputable def entC (q:CQ) (i j:Nat) (o:Option Int) (p r:Nat):ByteArray:=if p=i∧r=j then optT o else colC q i (j + 1) p r
theorem rows_col (q:CQ) (i M p r:Nat) (h:r < M):rowsC q (i + 1) p r=colC q i M p r:=by
 unfold rowsC colC
 by_cases h1:i + 1≤p
 ·rw [if_pos h1,if_pos (by omega)]
 ·rw [if_neg h1,if_neg (by omega)]
theorem col_rows (q:CQ) (i p r:Nat):colC q i 0 p r=rowsC q i p r:=by
 unfold rowsC colC
 by_cases h1:i≤p
 ·rw [if_pos h1,if_pos (by omega)]
 ·rw [if_neg h1,if_neg (by omega)]
theorem col_ent (q:CQ) (i j p r:Nat):colC q i (j + 1) p r=entC q i j none p r:=by
 unfold entC
 by_cases h:p=i∧r=j
 ·rw [if_pos h]
  unfold colC
  rw [if_neg (by omega)]
  rfl
 ·rw [if_neg h]
theorem ent_col (q:CQ) (i j p r:Nat):entC q i j (some (rst q i j)) p r=colC q i j p r:=by
 unfold entC
 by_cases h:p=i∧r=j
 ·rw [if_pos h,h.1,h.2]
  unfold colC
  rw [if_pos (by omega)]
  rfl
 ·rw [if_neg h]
  unfold colC
  by_cases h1:i < p ∨ (p=i∧j + 1≤r)
  ·rw [if_pos h1,if_pos (by omega)]
  ·rw [if_neg h1,if_neg (by omega)]
theorem ent_upd (q:CQ) (i j:Nat) (o o':Option Int) (p r:Nat):(if p=i∧r=j then optT o' else entC q i j o p r)=entC q i j o' p r:=by
 unfold entC
 by_cases h:p=i∧r=j
 ·rw [if_pos h,if_pos h]
 ·rw [if_neg h,if_neg h,if_neg h]
def partS (q:CQ) (i j:Nat) (l:List (SK q i j)):Option Int:=l.foldl (fun a x=>imp a (rst q (nxI x.k i) (nxJ x.k j) + cst q x.k i j)) (fin? q i j)
theorem partS_snoc (q:CQ) (i j:Nat) (l:List (SK q i j)) (x:SK q i j):partS q i j (l ++ [x])=imp (partS q i j l) (rst q (nxI x.k i) (nxJ x.k j) + cst q x.k i j):=by
 unfold partS
 rw [List.foldl_append]
 rfl
theorem fold_up (q:CQ) (i j:Nat):∀ (l:List Nat) (a:Option Int),(∀ k ∈ l,k ∈ kinds)→(l.filterMap (mkSK q i j)).foldl (fun a x=>imp a (rst q (nxI x.k i) (nxJ x.k j) + cst q x.k i j)) a=l.foldl (tryK q (rst q) i j) a
 | [],_,_=>rfl
 | k :: l,a,h=>by
  have hk:=of_kinds (h k List.mem_cons_self)
  have ih:=fun a=>fold_up q i j l a (fun k' hk'=>h k' (List.mem_cons_of_mem _ hk'))
  by_cases ho:okS q k i j
  ·have e:mkSK q i j k=some ⟨k,hk,ho⟩:=dif_pos ⟨hk,ho⟩
   rw [List.filterMap_cons_some e,List.foldl_cons,List.foldl_cons,ih]
   unfold tryK
   rw [if_pos ho]
  ·have e:mkSK q i j k=none:=dif_neg (fun h=>ho h.2)
   rw [List.filterMap_cons_none e,List.foldl_cons,ih]
   unfold tryK
   rw [if_neg ho]
theorem partS_up (q:CQ) (i j:Nat) (hi:i≤q.L.length) (hj:j≤q.R.length):partS q i j (upS q i j 5)=some (rst q i j):=by
 rw [← part_all q i j hi hj]
 unfold partS upS part
 exact fold_up q i j _ _ (fun k hk=>List.mem_of_mem_take hk)
theorem cst_bdS (q:CQ) (ok:OkQ q) (k i j:Nat) (_:k ∈ kinds):0≤cst q k i j∧cst q k i j≤(60000:Nat):=by
 have:=cst_bd q ok k i j
 omega
theorem rst_bdQ (q:CQ) (ok:OkQ q) (i j:Nat) (hi:i≤q.L.length) (hj:j≤q.R.length):0≤rst q i j∧rst q i j≤720000:=by
 have h:=rst_bd q 60000 (cst_bdS q ok) (left q i j) i j rfl hi hj
 have hl:=ok.hl
 have hr:=ok.hr
 have h2:left q i j≤12:=by unfold left; omega
 have h3:=Nat.mul_le_mul_right 60000 h2
 omega
theorem partS_bd (q:CQ) (ok:OkQ q) (i j:Nat):∀ (l:List (SK q i j)) (a:Option Int),(∀ y,a=some y→y.natAbs < 900000)→∀ y,l.foldl (fun a x=>imp a (rst q (nxI x.k i) (nxJ x.k j) + cst q x.k i j)) a=some y→y.natAbs < 900000
 | [],a,h,y,e=>h y e
 | x :: l,a,h,y,e=>by
  refine partS_bd q ok i j l _ (fun z hz=>?_) y e
  rcases imp_or _ _ _ hz with h1 | h1
  ·exact h z h1
  ·have h2:=rst_bdQ q ok _ _ x.h2.1 x.h2.2.1
   have h3:=cst_bd q ok x.k i j
   omega

end Go.Proofs.YthhkmihjnnfpgaaGreatDoor
