/- rests: the least costs to the end. -/
import Derived.Test.YthhkmihjnnfpgaaGreatDoorGCorP
namespace Go.Proofs.YthhkmihjnnfpgaaGreatDoor
set_option linter.all false
open Go.RowKit

attribute [local go_sem] Oper.semAt_some

set_option maxRecDepth 100000 in
set_option maxHeartbeats 8000000 in
theorem rests_any (q:CQ) (ok:OkQ q) (sl sr:Value) (w0:World) (he:Env w0) (hq:QAt w0 sl sr q) :
  Calls Tryz.prog 48 #[.agg #[sl,sr,.string (qT (2 * q.ch)),.string (qT (2 * q.mi)),.string (qT (2 * q.ga)),.string (qT (2 * q.re))]] w0 fun e w'=>∃ ob rb,e=.returned (.slice (some ⟨ob,0,none⟩) (q.L.length + 1) (q.L.length + 1))∧rb.length=q.L.length + 1 ∧
   TabT w' ob rb (q.R.length + 1) (rstT q) 71 28 ∧ w0.heap.size≤ob∧(∀ g ∈ rb,w0.heap.size≤g)∧Below w0.heap.size w0 w':=by
 have hll:=ok.hl
 have hrr:=ok.hr
 have HQ:=Lib.hid hq
 obtain ⟨A1,n1,rfl,_⟩:=hq.l
 obtain ⟨A2,n2,rfl,_⟩:=hq.r
 have HE:=Lib.hid he
 have OK:=Lib.hid ok
 clear hq he ok
 refine callsIn_wide (n:=9) |>.1 ?_
 refine callsIn_of_wp_marks Tryz.func48 rfl trivial ?_ rfl
 simp only [Tryz.ntmps48, List.size_toArray,List.length_cons,List.length_nil,Nat.reduceAdd,Nat.reduceSub,Array.replicate_succ,Array.replicate_zero,List.push_toArray,List.append_toArray,List.nil_append,List.cons_append]
 refine wpIn_wide.2 ?_
 go_upto_region 1 with (fail)
 have kq:=Blk.fresh w0 #[.slice A1 q.L.length n1,.slice A2 q.R.length n2,.string (qT (2 * q.ch)),.string (qT (2 * q.mi)),.string (qT (2 * q.ga)),.string (qT (2 * q.re))] 32
 have qq:=below_new w0 (.cells #[.slice A1 q.L.length n1,.slice A2 q.R.length n2,.string (qT (2 * q.ch)),.string (qT (2 * q.mi)),.string (qT (2 * q.ga)),.string (qT (2 * q.re))] 32)
 have hsz:(w0.alloc (.cells #[.slice A1 q.L.length n1,.slice A2 q.R.length n2,.string (qT (2 * q.ch)),.string (qT (2 * q.mi)),.string (qT (2 * q.ga)),.string (qT (2 * q.re))] 32)).heap.size=w0.heap.size + 1:=by simp
 generalize (w0.alloc (.cells #[.slice A1 q.L.length n1,.slice A2 q.R.length n2,.string (qT (2 * q.ch)),.string (qT (2 * q.mi)),.string (qT (2 * q.ga)),.string (qT (2 * q.re))] 32))=W1 at *
 obtain ⟨bq,hbq⟩:∃ b,w0.heap.size=b:=⟨_,rfl⟩
 rw [hbq] at kq ⊢
 have KQ:=Lib.hid kq
 have Q1:=Lib.hid qq
 have HBQ:=Lib.hid hbq
 have HSZ:=Lib.hid hsz
 have y0:=kq.at_ 0 _ rfl
 have y1:=kq.at_ 1 _ rfl
 have y2:=kq.at_ 2 _ rfl
 have y3:=kq.at_ 3 _ rfl
 have y4:=kq.at_ 4 _ rfl
 have y5:=kq.at_ 5 _ rfl
 have HQ1:=Lib.hid (HQ.out.below qq)
 clear kq qq hbq hsz
 go_upto_region 2 with (first
  | (go_at_call 77; with_reducible refine (table_any q OK.out _ _ _ HQ1.out).mono ?_; rintro e W2 ⟨ob,rb,rfl,hrb,htab,hlo,hlr,q2⟩)
  | fail "arm")
 clear y0 y1 y2 y3 y4 y5
 have hs3:∀ g ∈ rb,bq < g∧g < W2.heap.size:=fun g hg=>by
  have h1:=hlr g hg
  have h2:=htab.lt2 g hg
  have h3:=HSZ.out
  have h4:=HBQ.out
  omega
 have hs2:bq < ob∧ob < W2.heap.size:=by
  have h2:=htab.lt1
  have h3:=HSZ.out
  have h4:=HBQ.out
  omega
 have kq2:=KQ.out.below q2
 have bb2:=Q1.out.trans (q2.mono Q1.out.size)
 have ko:=Blk.fresh W2 #[.slice (some ⟨ob,0,none⟩) (q.L.length + 1) (q.L.length + 1)] 99
 have q3:=below_new W2 (.cells #[.slice (some ⟨ob,0,none⟩) (q.L.length + 1) (q.L.length + 1)] 99)
 have kq3:=kq2.below q3
 have bb3:=bb2.trans (q3.mono bb2.size)
 have tab3:=htab.below q3
 have hsz3:(W2.alloc (.cells #[.slice (some ⟨ob,0,none⟩) (q.L.length + 1) (q.L.length + 1)] 99)).heap.size=W2.heap.size + 1:=by simp
 generalize (W2.alloc (.cells #[.slice (some ⟨ob,0,none⟩) (q.L.length + 1) (q.L.length + 1)] 99))=W3 at *
 obtain ⟨bo,hbo⟩:∃ b,W2.heap.size=b:=⟨_,rfl⟩
 rw [hbo] at hs3 hs2 ko hsz3 ⊢
 have y0:=kq3.at_ 0 _ rfl
 rw [← hrb] at ko
 have S4:Hid (StO w0 bq bo W3.heap.size ob rb q (.slice A1 q.L.length n1) (.slice A2 q.R.length n2) q.L.length (fun _ _=>⟨#[]⟩) [] (W3.alloc (.cells #[.int .i64 (q.L.length:Int)] 3))):=Lib.hid
  (have q4:=below_new W3 (.cells #[.int .i64 (q.L.length:Int)] 3)
  ⟨bb3.trans (q4.mono bb3.size),kq3.below q4,ko.below q4,Blk.fresh W3 _ _,tab3.below q4,trivial,Nat.le_of_eq HBQ.out,hs2,hs3,by omega⟩)
 have HRB:=Lib.hid hrb
 clear htab hlo hlr q2 kq2 bb2 q3 KQ Q1 HQ1 hbo hsz3 kq3 bb3 tab3 ko hs2 hs3 hrb
 go_upto_region 3 with (fail)
 clear y0
 generalize (W3.alloc (.cells #[.int .i64 (q.L.length:Int)] 3))=W4 at *
 generalize W3.heap.size=bi at *
 refine wp_loop_ghost_k (fun k a' wr=>∃ (bi:Nat) (ds:List Deferred) (x:Int),(∃ v:Nat→Value,a'={ tmps:=#[.agg #[.slice A1 q.L.length n1,.slice A2 q.R.length n2,.string (qT (2 * q.ch)),.string (qT (2 * q.mi)),.string (qT (2 * q.ga)),.string (qT (2 * q.re))],.pointer (some ⟨bq,0,none⟩),.slice none 0 0,.pointer (some ⟨bo,0,none⟩),.pointer (some ⟨bi,0,none⟩),v 5,v 6,v 7,v 8,v 9,v 10,v 11,v 12,v 13,v 14,v 15,v 16,v 17,v 18,v 19,v 20,v 21,v 22,v 23,v 24,v 25,v 26,v 27,v 28,v 29,v 30,v 31,v 32,v 33,v 34,v 35,v 36,v 37,v 38,v 39,v 40,v 41,v 42,v 43,v 44,v 45,v 46,v 47,v 48,v 49,v 50,v 51,v 52,v 53,v 54,v 55,v 56,v 57,v 58,v 59,v 60,v 61,v 62,v 63,v 64,v 65,v 66,v 67,v 68,v 69,v 70],defers:=ds })∧k≤q.L.length + 1∧x + 1=(k:Int)∧StO w0 bq bo bi ob rb q (.slice A1 q.L.length n1) (.slice A2 q.R.length n2) x (rowsC q k) ds wr) (q.L.length + 1) ?_ ?_
 ·exact ⟨bi,[],_,ex_frame (by kernel_rfl),Nat.le_refl _,by omega,S4.out.tabC (fun p r hp hr=>by rw [HRB.out] at hp; unfold rowsC; rw [if_neg (by omega)])⟩
 clear S4
 clear bi
 rintro k a' wr ⟨bi,ds,x,⟨v,rfl⟩,hk,hx,hS⟩ J K hJ hK
 have S:=Lib.hid hS
 have y0:=hS.ki.at_ 0 _ rfl
 have yq:=hS.kq.at_ 1 _ rfl
 have hki:=hS.ki.lt
 clear hS
 by_cases hk0:k=0
 ·subst hk0
  obtain rfl:x = -1:=by omega
  clear hJ hK
  have c0:=S.out.ko.at_ 0 _ rfl
  go_wp2
  refine leaves_marks ds _ S.out.mrk (fun w' hm=>⟨_,results_tmp rfl _ _ _,ob,rb,(by rw [← HRB.out]; rfl),HRB.out,?_⟩)
  have kc:KeptC (fun _ _=>True) wr w':=fun g cs t fz _ e=>hm.cells g cs t fz e
  have hb:=HBQ.out
  refine ⟨(S.out.tab.congr (fun p r _ _=>by unfold rowsC; rw [if_pos (Nat.zero_le _)])).keptC kc trivial (fun _ _=>trivial),?_,fun g hg=>?_,S.out.bb.trans hm.below⟩
  ·have:=S.out.s2
   omega
  ·have:=S.out.s3 g hg
   omega
 ·obtain ⟨i,rfl⟩:∃ i,k=i + 1:=⟨k - 1,by omega⟩
  obtain rfl:x=(i:Int):=by omega
  have hi:i≤q.L.length:=by omega
  have hpos:(0:Int)≤(i:Int):=by omega
  clear hx hk0
  go_upto_region 5 with (fail)
  have q5:=below_new wr (.cells #[.int .i64 (q.R.length:Int)] 3)
  have k5:=Blk.fresh wr #[.int .i64 (q.R.length:Int)] 3
  have S5:=Lib.hid (S.out.below q5)
  go_wp2
  have hbj:bo < wr.heap.size:=S.out.ko.lt
  generalize (wr.alloc (.cells #[.int .i64 (q.R.length:Int)] 3))=W5 at *
  generalize wr.heap.size=bj at *
  refine wp_loop_ghost_k (fun m a' W=>∃ (bj:Nat) (ds:List Deferred) (x:Int),(∃ v:Nat→Value,a'={ tmps:=#[.agg #[.slice A1 q.L.length n1,.slice A2 q.R.length n2,.string (qT (2 * q.ch)),.string (qT (2 * q.mi)),.string (qT (2 * q.ga)),.string (qT (2 * q.re))],.pointer (some ⟨bq,0,none⟩),.slice none 0 0,.pointer (some ⟨bo,0,none⟩),.pointer (some ⟨bi,0,none⟩),.pointer (some ⟨bj,0,none⟩),v 6,v 7,v 8,v 9,v 10,v 11,v 12,v 13,v 14,v 15,v 16,v 17,v 18,v 19,v 20,v 21,v 22,v 23,v 24,v 25,v 26,v 27,v 28,v 29,v 30,v 31,v 32,v 33,v 34,v 35,v 36,v 37,v 38,v 39,v 40,v 41,v 42,v 43,v 44,v 45,v 46,v 47,v 48,v 49,v 50,v 51,v 52,v 53,v 54,v 55,v 56,v 57,v 58,v 59,v 60,v 61,v 62,v 63,v 64,v 65,v 66,v 67,v 68,v 69,v 70],defers:=ds })∧m≤q.R.length + 1∧x + 1=(m:Int)∧StO w0 bq bo bi ob rb q (.slice A1 q.L.length n1) (.slice A2 q.R.length n2) (i:Int) (colC q i m) ds W∧Blk W bj #[.int .i64 x] 3 ∧ bo < bj∧bj ≠ bi) (q.R.length + 1) ?_ ?_
  ·exact ⟨bj,ds,_,ex_frame (by kernel_rfl),Nat.le_refl _,by omega,S5.out.tabC (fun p r hp hr=>rows_col q i _ p r hr),k5,hbj,by omega⟩
  clear S5 k5 hbj S q5 y0 yq hki
  clear bj ds v
  rintro m a' W ⟨bj,ds,x,⟨v,rfl⟩,hm,hx,hS,hkj,hbj,hne⟩ J2 K2 hJ2 hK2
  have S:=Lib.hid hS
  have KJ:=Lib.hid hkj
  have y0:=hS.ki.at_ 0 _ rfl
  have yj:=hkj.at_ 0 _ rfl
  have yq0:=hS.kq.at_ 0 _ rfl
  have yq1:=hS.kq.at_ 1 _ rfl
  clear hS hkj
  by_cases hm0:m=0
  ·subst hm0
   obtain rfl:x = -1:=by omega
   clear hJ2 hK2
   have w1:IntKind.i64.wrap ((i:Int) - 1)=(i:Int) - 1:=IntWalk.i64_in _ (by omega)
   go_wp2
   have q8:=below_new W (.cells #[.int .i64 ((i:Int) - 1)] 3)
   exact ⟨i,by omega,hJ _ _ _ ⟨W.heap.size,ds,(i:Int) - 1,ex_frame (by kernel_rfl),by omega,by omega,((S.out.below q8).newI S.out.ko.lt (Blk.fresh W _ _)).tabC (fun p r _ _=>col_rows q i p r)⟩⟩
  ·obtain ⟨j,rfl⟩:∃ j,m=j + 1:=⟨m - 1,by omega⟩
   obtain rfl:x=(j:Int):=by omega
   have hj:j≤q.R.length:=by omega
   have hpj:(0:Int)≤(j:Int):=by omega
   clear hx hm0
   go_upto_region 8 with (fail)
   rename_i Kr hKr Kc hKc
   have KEY:∀ (W:World) (A:Act),(∃ v:Nat→Value,A={ tmps:=#[.agg #[.slice A1 q.L.length n1,.slice A2 q.R.length n2,.string (qT (2 * q.ch)),.string (qT (2 * q.mi)),.string (qT (2 * q.ga)),.string (qT (2 * q.re))],.pointer (some ⟨bq,0,none⟩),.slice none 0 0,.pointer (some ⟨bo,0,none⟩),.pointer (some ⟨bi,0,none⟩),.pointer (some ⟨bj,0,none⟩),v 6,v 7,v 8,v 9,v 10,v 11,v 12,v 13,v 14,v 15,v 16,v 17,v 18,v 19,v 20,v 21,v 22,v 23,v 24,v 25,v 26,v 27,v 28,v 29,v 30,v 31,v 32,v 33,v 34,v 35,v 36,v 37,v 38,v 39,v 40,v 41,v 42,v 43,v 44,v 45,v 46,v 47,v 48,v 49,v 50,v 51,v 52,v 53,v 54,v 55,v 56,v 57,v 58,v 59,v 60,v 61,v 62,v 63,v 64,v 65,v 66,v 67,v 68,v 69,v 70],defers:=ds })→StO w0 bq bo bi ob rb q (.slice A1 q.L.length n1) (.slice A2 q.R.length n2) (i:Int) (entC q i j (fin? q i j)) ds W→Blk W bj #[.int .i64 j] 3 → Kr A W:=by
    clear y0 yj yq0 yq1 S KJ hKc
    clear W v
    rintro W A ⟨v,rfl⟩ hS hkj
    refine hKr _ _ ?_
    clear hKr
    have y0:=hS.ki.at_ 0 _ rfl
    have yj:=hkj.at_ 0 _ rfl
    have a0:=hS.kq.at_ 0 _ rfl
    have a1:=hS.kq.at_ 1 _ rfl
    have a2:=hS.kq.at_ 2 _ rfl
    have a3:=hS.kq.at_ 3 _ rfl
    have a4:=hS.kq.at_ 4 _ rfl
    have a5:=hS.kq.at_ 5 _ rfl
    have S:=Lib.hid hS
    have KJ:=Lib.hid hkj
    clear hS hkj
    go_wp2_with (first
     | (go_at_call 73; refine (steps_make q _ _ i j _).mono ?_; rintro e W2 ⟨rfl,qb,hsz2,k1,k2,k3⟩)
     | fail "arm")
    clear y0 yj a0 a1 a2 a3 a4 a5
    have hS2:=S.out.below qb
    have hj2:=KJ.out.below qb
    have hlt0:bo < W.heap.size:=S.out.ko.lt
    have hs0:=S.out.s1
    have hs3:=S.out.s3
    have hs4:=S.out.size
    clear S KJ qb
    obtain ⟨bw,hbw⟩:∃ b,W.heap.size=b:=⟨_,rfl⟩
    rw [hbw] at k1 k2 k3 hsz2 hlt0 hs4
    simp only [hbw]
    clear hbw
    have l1:i < rb.length:=by rw [HRB.out]; omega
    have hmem:=List.getElem_mem l1
    have hr1:=hs3 _ hmem
    have hStW:StW w0 bw (bw + 1) (bw + 2) q (.slice A1 q.L.length n1) (.slice A2 q.R.length n2) i j W2:=⟨KeptC.of_bb hS2.bb,hs4,k1,k2,k3⟩
    have hM:FarM w0 (fun g _=>g=rb[i]) [bw,bw + 1,bw + 2] [32, 3]:=⟨fun g _ h=>by omega,fun g hg _ _ h=>by simp at hg; omega⟩
    have hW2s:w0.heap.size≤W2.heap.size:=hS2.size
    have hI:OwnFrom W2.heap.size (fun (pre:List (SK q i j)) V=>(StO w0 bq bo bi ob rb q (.slice A1 q.L.length n1) (.slice A2 q.R.length n2) (i:Int) (entC q i j (partS q i j pre)) ds V∧KeepsLow W2.heap.size W2 V)∧Blk V bj #[.int .i64 j] 3):=fun s A B row h hg hr =>
     ⟨StO.own rfl hW2s hS2.mrk (fun pre=>entC q i j (partS q i j pre)) s A B row h.1 hg hr,ownFrom_cells (I:=fun (_:Unit) X=>Blk X bj #[.int .i64 j] 3) (fun _ X X' h k _=>h.keptC k trivial) _ () A B row h.2 hg hr⟩
    refine wide_loop (n:=9) (gf := 100) (lb:=#[.pointer (some ⟨bw + 1,0,none⟩),.pointer (some ⟨bw + 2,0,none⟩),.pointer (some ⟨bw,0,none⟩)]) rfl (enters_of Tryz.func100 (by kernel_rfl) rfl)
     (SeqJ.of (steps_stops (9 - 1) q OK.out _ _ i j hi hj w0 HE.out HQ.out bw (bw + 1) (bw + 2) (fun g _=>g=rb[i]) hM W2 hStW)) (fun h k=>KeptC.trans h k) (fun V o o' h ho=>KeptC.put _ h ho) (fun _=>rfl)
     (fun pre V=>(StO w0 bq bo bi ob rb q (.slice A1 q.L.length n1) (.slice A2 q.R.length n2) (i:Int) (entC q i j (partS q i j pre)) ds V∧KeepsLow W2.heap.size W2 V)∧Blk V bj #[.int .i64 j] 3)
     (fun _ _ _=>False) hI (fun c s A B row h hg hr=>h) ⟨⟨hS2,KeepsLow.refl _ _⟩,hj2⟩
     (fun pre x a' V=>∃ (bs:Nat),((StO w0 bq bo bi ob rb q (.slice A1 q.L.length n1) (.slice A2 q.R.length n2) (i:Int) (entC q i j (partS q i j pre)) ds V∧KeepsLow W2.heap.size W2 V)∧Blk V bj #[.int .i64 j] 3)∧Blk V bs #[.int .i64 x.k,.int .i64 i,.int .i64 j] 56 ∧ ∃ v:Nat→Value,a'={ tmps:=#[.agg #[.slice A1 q.L.length n1,.slice A2 q.R.length n2,.string (qT (2 * q.ch)),.string (qT (2 * q.mi)),.string (qT (2 * q.ga)),.string (qT (2 * q.re))],.pointer (some ⟨bq,0,none⟩),.slice none 0 0,.pointer (some ⟨bo,0,none⟩),.pointer (some ⟨bi,0,none⟩),.pointer (some ⟨bj,0,none⟩),.pointer (some ⟨bs,0,none⟩),.string (qT (cst q x.k i j)),v 8,v 9,v 10,v 11,v 12,v 13,v 14,v 15,v 16,v 17,v 18,v 19,v 20,v 21,v 22,v 23,v 24,v 25,v 26,v 27,v 28,v 29,v 30,v 31,v 32,v 33,v 34,v 35,v 36,v 37,v 38,v 39,v 40,v 41,v 42,v 43,v 44,v 45,v 46,v 47,v 48,v 49,v 50,v 51,v 52,v 53,v 54,v 55,v 56,v 57,v 58,v 59,v 60,v 61,v 62,v 63,v 64,v 65,v 66,v 67,v 68,v 69,v 70],defers:=[] })
     (fun pre x a' s A B row h hg hr=>by
      obtain ⟨bs,h1,h2,h3⟩:=h
      exact ⟨bs,hI _ A B row h1 hg hr,ownFrom_cells (I:=fun (_:Unit) V=>Blk V bs #[.int .i64 x.k,.int .i64 i,.int .i64 j] 56) (fun _ V V' h k _=>h.keptC k trivial) _ () A B row h2 hg hr,h3⟩)
     ?assign ?body ?done ?stop
    case assign =>
     rintro l2 pre x V K ⟨⟨h1,h2⟩,h3⟩ hK
     have qv:=below_new V (.cells #[.int .i64 x.k,.int .i64 i,.int .i64 j] 56)
     have kv:=Blk.fresh V #[.int .i64 x.k,.int .i64 i,.int .i64 j] 56
     dsimp only [encS]
     gi_wp2
     exact hK _ _ (keepsFrom_below qv) (KeptC.below qv) ⟨V.heap.size,⟨⟨h1.below qv,h2.trans (KeepsLow.of (keepsFrom_below qv))⟩,h3.below qv⟩,kv,ex_frame (by kernel_rfl)⟩
    case body =>
     rintro l2 pre x a' V ⟨bs,⟨⟨h1,h2⟩,h3⟩,hb,v,rfl⟩ hlen
     have HNX:Hid (Ret Tryz.prog V 51 #[.agg #[.int .i64 x.k,.int .i64 i,.int .i64 j]] (.tuple #[.int .i64 (nxI x.k i:Nat),.int .i64 (nxJ x.k j:Nat)])):=Lib.hid (by
      have h:=cnext_any x.k i j (by omega) (by omega) V
      rw [nzI_nat,nzJ_nat x.k j x.h1] at h
      exact h)
     have d0:=hb.at_ 0 _ rfl
     have d1:=hb.at_ 1 _ rfl
     have d2:=hb.at_ 2 _ rfl
     have H1:=Lib.hid h1
     have H2:=Lib.hid h2
     have H3:=Lib.hid h3
     clear h1 h2 h3 hI hS2 hj2 hStW hM
     gi_wp2_with (first
      | ((first | refine ⟨trivial,fun h=>(by cases h),?_⟩ | refine ⟨trivial,?_⟩); with_reducible refine (CallsIn.inRound l2 (callsIn_wide.2 (HNX.out _ (Below.refl _ _)))).mono ?_; rintro e V1 ⟨rfl,qv⟩)
      | fail "arm")
     have h1:=H1.out.below qv
     have h2:=H2.out.trans (KeepsLow.of (keepsFrom_below qv))
     have h3:=H3.out.below qv
     have QV:=Lib.hid qv
     have hks:=x.h2
     have hmi:nxI x.k i≤q.L.length:=hks.1
     have hmj:nxJ x.k j≤q.R.length:=hks.2.1
     have l3:nxI x.k i < rb.length:=by rw [HRB.out]; omega
     have t1:(nxI x.k i:Int) < (rb.length:Int):=by omega
     have t2:(nxJ x.k j:Int) < ((q.R.length + 1:Nat):Int):=by omega
     have C1:=Lib.hid (h1.tab.cell1 (nxI x.k i) l3)
     have hc2:=h1.tab.cell2 (nxI x.k i) (nxJ x.k j) l3 (by omega)
     have hent:entC q i j (partS q i j pre) (nxI x.k i) (nxJ x.k j)=qT (rst q (nxI x.k i) (nxJ x.k j)):=by
      have h:=nx_more (i:=i) (j:=j) (kinds_of x.h1)
      unfold entC
      rw [if_neg (by omega)]
      unfold colC
      rw [if_pos (by omega)]
      rfl
     rw [hent] at hc2
     have C2:=Lib.hid hc2
     have LC1:=Lib.hid h1.tab.lt1
     have LC2:=Lib.hid (h1.tab.lt2 rb[nxI x.k i] (List.getElem_mem l3))
     have hb1:=rst_bdQ q OK.out _ _ hmi hmj
     have hb2:=cst_bd q OK.out x.k i j
     have HE1:=HE.out.below h1.bb
     have HAD:=Lib.hid (rAddQ (rst q (nxI x.k i) (nxJ x.k j)) (cst q x.k i j) (by omega) (by omega) V1 HE1)
     have hpb:∀ y,partS q i j pre=some y→y.natAbs < 1000000:=fun y hy=>by
      have:=partS_bd q OK.out i j pre (fin? q i j) (fun z hz=>by unfold fin? at hz; split at hz <;> simp at hz; subst hz; decide) y hy
      omega
     have hentj:entC q i j (partS q i j pre) i j=optT (partS q i j pre):=by unfold entC; rw [if_pos ⟨rfl,rfl⟩]
     have HIM:Hid (∀ V9,Below V1.heap.size V1 V9→Calls Tryz.prog 78 #[.slice (some ⟨ob,0,none⟩) rb.length rb.length,.int .i64 i,.int .i64 j,.string (qT (rst q (nxI x.k i) (nxJ x.k j) + cst q x.k i j))] V9 fun e w'=>(∃ v,e=.returned v)∧Wrote rb[i] V9 w' ∧
       TabT w' ob rb (q.R.length + 1) (entC q i j (partS q i j (pre ++ [x]))) 71 28):=Lib.hid (fun V9 hV9=>(improve_any ob rb (q.R.length + 1) i j _ l1 (by omega) (by have:=HRB.out; omega) (by omega) (partS q i j pre) (rst q (nxI x.k i) (nxJ x.k j) + cst q x.k i j) hpb (by omega) hentj V9 (HE1.below hV9) (h1.tab.below hV9)).mono (fun e w' h=>⟨h.1,h.2.1,h.2.2.congr (fun p r _ _=>by rw [partS_snoc]; exact congrArg Value.string (ent_upd q i j _ _ p r))⟩))
     have S1:=Lib.hid h1
     have L1:=Lib.hid h2
     have J1:=Lib.hid h3
     have KO:=Lib.hid h1.ko
     have KI:=Lib.hid h1.ki
     have KJ:=Lib.hid h3
     have t3:(i:Int) < (rb.length:Int):=by omega
     have hr2:=hs3 _ hmem
     clear h1 h2 h3 H1 H2 H3 qv hc2 hent hentj hpb hb1 hb2 hks hb d0 d1 d2 HNX HE1
     generalize qT (rst q (nxI x.k i) (nxJ x.k j) + cst q x.k i j)=tS at *
     generalize qT (rst q (nxI x.k i) (nxJ x.k j))=tA at *
     generalize qT (cst q x.k i j)=co at *
     generalize rb[nxI x.k i]=r2 at *
     generalize hri:rb[i]=r1 at *
     clear l3
     generalize nxI x.k i=mi at *
     generalize nxJ x.k j=mj at *
     obtain ⟨N,hN⟩:∃ N,rb.length=N:=⟨_,rfl⟩
     obtain ⟨M1,hM1⟩:∃ M1,q.R.length + 1=M1:=⟨_,rfl⟩
     have HN:=Lib.hid hN
     have HM1:=Lib.hid hM1
     have KO2:Hid (Blk V1 bo #[.slice (some ⟨ob,0,none⟩) N N] 99):=Lib.hid (by rw [← hN]; exact KO.out)
     have C12:Hid (V1.cell? ⟨ob,mi,none⟩=some (.slice (some ⟨r2,0,none⟩) M1 M1)):=Lib.hid (by rw [← hM1]; exact C1.out)
     replace KO:=KO2
     replace C1:=C12
     have HIM2:=HIM
     unfold Hid at HIM2
     rw [hN] at HIM2
     replace HIM:=Lib.hid HIM2
     rw [hN] at t1 t3
     rw [hM1] at t2
     clear hN hM1 KO2 C12 HIM2
     refine wpIn_phase (.inr ⟨l2,rfl⟩) 16 12 (.v 55 (.slice (some ⟨ob,0,none⟩) N N) :: .v 56 (.int .i64 i) :: .v 57 (.int .i64 j) :: .v 58 (.slice (some ⟨ob,0,none⟩) N N) :: .v 59 (.int .i64 mi) :: .v 60 (.pointer (some ⟨ob,mi,none⟩)) :: .v 61 (.slice (some ⟨r2,0,none⟩) M1 M1) :: .v 62 (.int .i64 mj) :: .v 63 (.pointer (some ⟨r2,mj,none⟩)) :: .v 64 (.string tA) :: .v 65 (.string co) :: .v 66 (.string tS) :: []) [] [⟨bo,#[.slice (some ⟨ob,0,none⟩) N N], 99, none⟩,⟨bi,#[.int .i64 i], 3, none⟩,⟨bj,#[.int .i64 j], 3, none⟩] [] [] [] [] [] (by kernel_rfl) (by intro hL; obtain ⟨_,_,hL⟩:=hL; exact hL.elim) (Below.refl _ _) ⟨KO.out,KI.out,KJ.out,trivial⟩ trivial ⟨ld 0 0,ld 1 0,ld 2 0,ld 0 0,pu,?_,?_,pu,?_,?_,pu,cl HAD.out,trivial⟩ ?_
     ·intro L a U ho J hn dd KK kk; refine .free rfl ?_; have r58:=J.read 3 rfl (dd.get 3 rfl); have r59:=J.read 4 rfl (dd.get 4 rfl); go_simp; exact kk.out _ _ (J.st 5 rfl rfl)
     ·intro L a U ho J hn dd KK kk; refine .free rfl ?_; have r60:=J.read 5 rfl (dd.get 5 rfl); have e0:=(J.bb.cell (p:=⟨ob,mi,none⟩) LC1.out).trans C1.out; go_simp; exact kk.out _ _ (J.st 6 rfl rfl)
     ·intro L a U ho J hn dd KK kk; refine .free rfl ?_; have r61:=J.read 6 rfl (dd.get 6 rfl); have r62:=J.read 7 rfl (dd.get 7 rfl); go_simp; exact kk.out _ _ (J.st 8 rfl rfl)
     ·intro L a U ho J hn dd KK kk; refine .free rfl ?_; have r63:=J.read 8 rfl (dd.get 8 rfl); have e0:=(J.bb.cell (p:=⟨r2,mj,none⟩) LC2.out).trans C2.out; go_simp; exact kk.out _ _ (J.st 9 rfl rfl)
     rintro σ V9 _ _ _ _ B9
     simp only [slotsOf,finX,nval,nvalN,nvalA,Nat.reduceBEq,cond_true,cond_false,putAll,Act.put,List.setIfInBounds_toArray,List.set_cons_succ,List.set_cons_zero]
     simp only [List.drop_succ_cons,List.drop_zero]
     gi_wp2_with (first
      | ((first | refine ⟨trivial,fun h=>(by cases h),?_⟩ | refine ⟨trivial,?_⟩); with_reducible refine (CallsIn.inRound l2 (callsIn_wide.2 (HIM.out _ B9.out))).mono ?_; rintro e V3 ⟨⟨v,rfl⟩,hwr,htb⟩)
      | fail "arm")
     have kk:KeepsFrom 0 V V3:=((keepsFrom_below QV.out).trans (keepsFrom_below B9.out)).trans hwr.keeps
     have kc:KeptC (fun g _=>g ≠ r1) V V3:=((KeptC.below QV.out).trans (KeptC.below B9.out)).trans hwr.kept
     have hmem2:r1 ∈ rb:=by rw [← hri]; exact List.getElem_mem _
     exact ⟨KeepsFrom.mono kk (Nat.zero_le _),(by rw [hri]; exact kc),⟨((S1.out.below B9.out).wrote hmem2 hwr htb),L1.out.trans ((KeepsLow.of (keepsFrom_below B9.out)).trans (KeepsLow.of hwr.keeps))⟩,(J1.out.below B9.out).keptC hwr.kept (by have:=S1.out.s3 _ hmem2; omega)⟩
    case done =>
     rintro D ys V hD rfl ⟨⟨h1,h2⟩,h3⟩ hK
     have S9:Hid (StO w0 bq bo bi ob rb q (.slice A1 q.L.length n1) (.slice A2 q.R.length n2) (i:Int) (colC q i j) ({ target:=.collected D,args:=#[] } :: ds) V):=Lib.hid ((h1.tabC (fun p r _ _=>by rw [partS_up q i j hi hj]; exact ent_col q i j p r)).marks (Marks.add hS2.mrk h1.mrk (by omega) hD hK))
     have KJ:=Lib.hid h3
     have y0:=h1.ki.at_ 0 _ rfl
     have yj:=h3.at_ 0 _ rfl
     have w1:IntKind.i64.wrap ((j:Int) - 1)=(j:Int) - 1:=IntWalk.i64_in _ (by omega)
     clear hI hS2 hj2 h1 h2 h3 hK
     go_wp2
     have q9:=below_new V (.cells #[.int .i64 ((j:Int) - 1)] 3)
     have hbi:=S9.out.ki.lt
     have hbo:=S9.out.ko.lt
     exact ⟨j,by omega,hJ2 _ _ _ ⟨V.heap.size,_,(j:Int) - 1,ex_frame (by kernel_rfl),by omega,by omega,S9.out.below q9,Blk.fresh V _ _,hbo,by omega⟩⟩
    case stop =>
     rintro D c pre V hD hpre h hK
     exact h.elim
   clear hKr
   have l1:i < rb.length:=by rw [HRB.out]; omega
   by_cases hin:i=q.L.length
   ·have t1:((i:Int) == (q.L.length:Int))=true:=by rw [hin]; exact beq_self_eq_true _
    by_cases hjm:j=q.R.length
    ·have t2:((j:Int) == (q.R.length:Int))=true:=by rw [hjm]; exact beq_self_eq_true _
     have hf:Hid (optT (fin? q i j)=⟨#[48]⟩):=Lib.hid (by unfold fin?; rw [if_pos ⟨hin,hjm⟩]; exact qT_zero)
     clear hin hjm
     go_upto_region 9 with (fail)
     have KO:=Lib.hid S.out.ko
     have KI:=Lib.hid S.out.ki
     have C1:=Lib.hid (S.out.tab.cell1 i l1)
     have LC1:=Lib.hid S.out.tab.lt1
     have hmem:=List.getElem_mem l1
     have HSET:Hid (∀ W',Below W.heap.size W W'→StO w0 bq bo bi ob rb q (.slice A1 q.L.length n1) (.slice A2 q.R.length n2) (i:Int) (entC q i j (fin? q i j)) ds (W'.setCell ⟨rb[i],j,none⟩ (.string ⟨#[48]⟩))∧Blk (W'.setCell ⟨rb[i],j,none⟩ (.string ⟨#[48]⟩)) bj #[.int .i64 j] 3):=Lib.hid (fun W' hW'=>by
      have s:=S.out.below hW'
      have k:=Wrote.set (s.tab.row i l1) j (.string ⟨#[48]⟩)
      refine ⟨s.wrote hmem k ((s.tab.set i j l1 (.string ⟨#[48]⟩)).congr (fun p r _ _=>?_)),(KJ.out.below hW').keptC k.kept (by have:=s.s3 _ hmem; omega)⟩
      unfold updV
      by_cases h:p=i∧r=j
      ·rw [if_pos h,← ent_upd q i j none (fin? q i j) p r,if_pos h,hf.out]
      ·rw [if_neg h,← ent_upd q i j none (fin? q i j) p r,if_neg h,← col_ent])
     have HFR:Hid (∀ W',Below W.heap.size W W'→W'.frozen? ⟨rb[i],j,none⟩=false∧∃ v,W'.cell? ⟨rb[i],j,none⟩=some v):=Lib.hid (fun W' hW'=>⟨((S.out.below hW').tab).free i j l1,_,((S.out.below hW').tab).cell2 i j l1 (by omega)⟩)
     have t3:(i:Int) < (rb.length:Int):=by omega
     have t4:(j:Int) < ((q.R.length + 1:Nat):Int):=by omega
     clear y0 yj yq0 yq1 hmem
     generalize rb[i]=r1 at *
     clear l1
     generalize hN:rb.length=N at *
     generalize hM:q.R.length + 1=M1 at *
     refine wpIn_wide.1 (wpIn_phase (n:=9) (.inl rfl) 10 6 (.v 38 (.slice (some ⟨ob,0,none⟩) N N) :: .v 39 (.int .i64 i) :: .v 40 (.pointer (some ⟨ob,i,none⟩)) :: .v 41 (.slice (some ⟨r1,0,none⟩) M1 M1) :: .v 42 (.int .i64 j) :: .v 43 (.pointer (some ⟨r1,j,none⟩)) :: []) [] [⟨bo,#[.slice (some ⟨ob,0,none⟩) N N], 99, none⟩,⟨bi,#[.int .i64 i], 3, none⟩,⟨bj,#[.int .i64 j], 3, none⟩] [] [] [] [] [] (by kernel_rfl) (by intro hL; obtain ⟨_,_,hL⟩:=hL; obtain ⟨_,_,hv,_⟩:=hL; cases hv) (Below.refl _ _) ⟨KO.out,KI.out,KJ.out,trivial⟩ trivial ⟨ld 0 0,ld 1 0,?_,?_,ld 2 0,?_,trivial⟩ ?_)
     ·intro L a U ho J hn dd KK kk; refine .free rfl ?_; have r38:=J.read 0 rfl (dd.get 0 rfl); have r39:=J.read 1 rfl (dd.get 1 rfl); go_simp; exact kk.out _ _ (J.st 2 rfl rfl)
     ·intro L a U ho J hn dd KK kk; refine .free rfl ?_; have r40:=J.read 2 rfl (dd.get 2 rfl); have e0:=(J.bb.cell (p:=⟨ob,i,none⟩) LC1.out).trans C1.out; go_simp; exact kk.out _ _ (J.st 3 rfl rfl)
     ·intro L a U ho J hn dd KK kk; refine .free rfl ?_; have r41:=J.read 3 rfl (dd.get 3 rfl); have r42:=J.read 4 rfl (dd.get 4 rfl); go_simp; exact kk.out _ _ (J.st 5 rfl rfl)
     rintro σ W9 _ _ _ _ B9
     simp only [slotsOf,finX,nval,nvalN,nvalA,Nat.reduceBEq,cond_true,cond_false,putAll,Act.put,List.setIfInBounds_toArray,List.set_cons_succ,List.set_cons_zero]
     simp only [List.drop_succ_cons,List.drop_zero]
     have f1:=(HFR.out W9 B9.out).1
     obtain ⟨u,f2⟩:=(HFR.out W9 B9.out).2
     gi_wp2
     have HS:=HSET.out W9 B9.out
     exact KEY _ _ (ex_frame (by kernel_rfl)) HS.1 HS.2
    ·have t2:((j:Int) == (q.R.length:Int))=false:=by rw [beq_eq_false_iff_ne]; omega
     have hf:Hid (fin? q i j=none):=Lib.hid (by unfold fin?; rw [if_neg (fun h=>hjm h.2)])
     clear hin hjm
     go_wp2
     exact KEY W _ (ex_frame (by kernel_rfl)) (S.out.tabC (fun p r _ _=>by rw [hf.out]; exact col_ent q i j p r)) KJ.out
   ·have t1:((i:Int) == (q.L.length:Int))=false:=by rw [beq_eq_false_iff_ne]; omega
    have hf:Hid (fin? q i j=none):=Lib.hid (by unfold fin?; rw [if_neg (fun h=>hin h.1)])
    clear hin
    go_wp2
    exact KEY W _ (ex_frame (by kernel_rfl)) (S.out.tabC (fun p r _ _=>by rw [hf.out]; exact col_ent q i j p r)) KJ.out

end Go.Proofs.YthhkmihjnnfpgaaGreatDoor
