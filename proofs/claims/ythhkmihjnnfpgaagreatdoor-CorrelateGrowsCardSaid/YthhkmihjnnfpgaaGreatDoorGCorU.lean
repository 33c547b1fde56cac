/- Correlate: Best and Count; the examples of chapter 44. -/
import Derived.Test.YthhkmihjnnfpgaaGreatDoorGCorS
import Derived.Test.YthhkmihjnnfpgaaGreatDoorGRefB
import Derived.Test.YthhkmihjnnfpgaaGreatDoorGInt
/- Best: the walk. -/
namespace Go.Proofs.YthhkmihjnnfpgaaGreatDoor
set_option linter.all false
open Go.RowKit

attribute [local go_sem] Oper.semAt_some

set_option maxRecDepth 100000 in
set_option maxHeartbeats 8000000 in
theorem best_any (q:CQ) (ok:OkQ q) (sl sr:Value) (w0:World) (he:Env w0) (hq:QAt w0 sl sr q) :
  Calls Tryz.prog 15 #[.agg #[sl,sr,.string (qT (2 * q.ch)),.string (qT (2 * q.mi)),.string (qT (2 * q.ga)),.string (qT (2 * q.re))]] w0 fun e w'=>∃ v,e=.returned (.tuple #[.agg #[v,.string (qT (rst q 0 0))],.int .i64 0])∧SRow stC 3 56 w' w0.heap.size v (way q 0 0)∧Below w0.heap.size w0 w':=by
 have hll:=ok.hl
 have hrr:=ok.hr
 have HQ:=Lib.hid hq
 obtain ⟨A1,n1,rfl,_⟩:=hq.l
 obtain ⟨A2,n2,rfl,_⟩:=hq.r
 have HE:=Lib.hid he
 have OK:=Lib.hid ok
 clear hq he ok
 refine callsIn_wide (n:=9) |>.1 ?_
 refine callsIn_of_wp_marks Tryz.func15 rfl trivial ?_ rfl
 simp only [Tryz.ntmps15, List.size_toArray,List.length_cons,List.length_nil,Nat.reduceAdd,Nat.reduceSub,Array.replicate_succ,Array.replicate_zero,List.push_toArray,List.append_toArray,List.nil_append,List.cons_append]
 refine wpIn_wide.2 ?_
 go_upto_region 1 with (fail)
 have kq:=Blk.fresh w0 #[.slice A1 q.L.length n1,.slice A2 q.R.length n2,.string (qT (2 * q.ch)),.string (qT (2 * q.mi)),.string (qT (2 * q.ga)),.string (qT (2 * q.re))] 32
 have qq:=below_new w0 (.cells #[.slice A1 q.L.length n1,.slice A2 q.R.length n2,.string (qT (2 * q.ch)),.string (qT (2 * q.mi)),.string (qT (2 * q.ga)),.string (qT (2 * q.re))] 32)
 have hsz:(w0.alloc (.cells #[.slice A1 q.L.length n1,.slice A2 q.R.length n2,.string (qT (2 * q.ch)),.string (qT (2 * q.mi)),.string (qT (2 * q.ga)),.string (qT (2 * q.re))] 32)).heap.size=w0.heap.size + 1:=by simp
 generalize (w0.alloc (.cells #[.slice A1 q.L.length n1,.slice A2 q.R.length n2,.string (qT (2 * q.ch)),.string (qT (2 * q.mi)),.string (qT (2 * q.ga)),.string (qT (2 * q.re))] 32))=W1 at *
 have kR:=Blk.fresh W1 #[.slice none 0 0,.string ⟨#[]⟩] 36
 have qR:=below_new W1 (.cells #[.slice none 0 0,.string ⟨#[]⟩] 36)
 have hsR:(W1.alloc (.cells #[.slice none 0 0,.string ⟨#[]⟩] 36)).heap.size=W1.heap.size + 1:=by simp
 have kq1:=kq.below qR
 have bb1:=qq.trans (qR.mono qq.size)
 have HQ1:=Lib.hid (HQ.out.below bb1)
 have HE1:=Lib.hid (HE.out.below bb1)
 generalize (W1.alloc (.cells #[.slice none 0 0,.string ⟨#[]⟩] 36))=W2 at *
 obtain ⟨bq,hbq⟩:∃ b,w0.heap.size=b:=⟨_,rfl⟩
 obtain ⟨bR,hbR⟩:∃ b,w0.heap.size + 1=b:=⟨_,rfl⟩
 rw [hsz,hbR] at kR
 rw [hbR,hbq]
 rw [hbq] at kq1
 have KQ:=Lib.hid kq1
 have KR:=Lib.hid kR
 have BB:=Lib.hid bb1
 have HS:Hid (w0.heap.size=bq∧bR=bq + 1∧W2.heap.size=bR + 1):=Lib.hid (by omega)
 have y0:=kq1.at_ 0 _ rfl
 have y1:=kq1.at_ 1 _ rfl
 have y2:=kq1.at_ 2 _ rfl
 have y3:=kq1.at_ 3 _ rfl
 have y4:=kq1.at_ 4 _ rfl
 have y5:=kq1.at_ 5 _ rfl
 have HCK:=Lib.hid (check_ok q OK.out _ _ W2 HE1.out HQ1.out)
 clear kq qq hsz kR qR hsR kq1 bb1 hbq hbR
 go_upto_region 4 with (first
  | (go_at_call 44; with_reducible refine HCK.out.mono ?_; rintro e W3 ⟨rfl,q3⟩)
  | fail "arm")
 have K3:=KQ.out.below q3
 have z0:=K3.at_ 0 _ rfl
 have z1:=K3.at_ 1 _ rfl
 have z2:=K3.at_ 2 _ rfl
 have z3:=K3.at_ 3 _ rfl
 have z4:=K3.at_ 4 _ rfl
 have z5:=K3.at_ 5 _ rfl
 have HRS:=Lib.hid (rests_any q OK.out _ _ W3 (HE1.out.below q3) (HQ1.out.below q3))
 have Q3:=Lib.hid q3
 clear y0 y1 y2 y3 y4 y5 HCK K3 q3
 go_upto_region 5 with (first
  | (go_at_call 48; with_reducible refine HRS.out.mono ?_; rintro e W4 ⟨ob,rb,rfl,hrb,htab,hlo,hlr,q4⟩)
  | fail "arm")
 clear z0 z1 z2 z3 z4 z5 HRS
 have q34:=Q3.out.trans (q4.mono Q3.out.size)
 have hbd:=rst_bdQ q OK.out 0 0 (Nat.zero_le _) (Nat.zero_le _)
 have HRT:=Lib.hid (cright_any (rst q 0 0) (by omega) W4 (HE1.out.below q34))
 have l0:0 < rb.length:=by omega
 have c0:=htab.cell1 0 l0
 have c1:W4.cell? ⟨rb[0],0,none⟩=some (.string (qT (rst q 0 0))):=htab.cell2 0 0 l0 (by omega)
 have QQ:=Lib.hid q34
 have TAB:=Lib.hid htab
 have hsep:Hid ((bR < ob∧ob < W4.heap.size)∧∀ g ∈ rb,bR < g∧g < W4.heap.size):=Lib.hid (by
  have h1:=htab.lt1
  have h2:=HS.out
  have h3:=Q3.out.size
  refine ⟨by omega,fun g hg=>?_⟩
  have h4:=hlr g hg
  have h5:=htab.lt2 g hg
  omega)
 have HRB:=Lib.hid hrb
 have tN1:(0:Int) < (q.L.length:Int) + 1:=by omega
 have tN2:(0:Int) < (q.R.length:Int) + 1:=by omega
 clear htab hlo hlr q4 q34 Q3 hbd
 go_upto_region 8 with (first
  | (go_at_call 49; with_reducible refine (HRT.out _ (Below.refl _ _)).mono ?_; rintro e W5 ⟨rfl,q5⟩)
  | fail "arm")
 have h5:=QQ.out.trans (q5.mono QQ.out.size)
 have tab5:=TAB.out.below q5
 have hs5:=q5.size
 have kq5:=KQ.out.below h5
 have kR5:=KR.out.below h5
 have bb5:=BB.out.trans (h5.mono BB.out.size)
 clear c0 c1 tN1 tN2 HRT q5 h5 KQ KR BB TAB QQ
 have SEP:=hsep
 clear hsep
 go_upto_region 9 with (fail)
 have kO:=Blk.fresh W5 #[.slice none 0 0,.string (qT (rst q 0 0))] 36
 have qO:=below_new W5 (.cells #[.slice none 0 0,.string (qT (rst q 0 0))] 36)
 have hsO:(W5.alloc (.cells #[.slice none 0 0,.string (qT (rst q 0 0))] 36)).heap.size=W5.heap.size + 1:=by simp
 have tab6:=tab5.below qO
 have kq6:=kq5.below qO
 have kR6:=kR5.below qO
 have bb6:=bb5.trans (qO.mono bb5.size)
 generalize (W5.alloc (.cells #[.slice none 0 0,.string (qT (rst q 0 0))] 36))=W6 at *
 obtain ⟨bO,hbO⟩:∃ b,W5.heap.size=b:=⟨_,rfl⟩
 rw [hbO] at kO hsO hs5
 rw [hbO]
 have S6:Hid (StB w0 bq bR bO W6.heap.size (W6.heap.size + 1) ob rb q (.slice A1 q.L.length n1) (.slice A2 q.R.length n2) (qT (rst q 0 0)) [] 0 0 (.slice none 0 0) [] ((W6.alloc (.cells #[.int .i64 0] 3)).alloc (.cells #[.int .i64 0] 3))):=Lib.hid
  (have p1:=below_new W6 (.cells #[.int .i64 0] 3)
  have p2:=below_new (W6.alloc (.cells #[.int .i64 0] 3)) (.cells #[.int .i64 0] 3)
  have p:=p1.trans (p2.mono p1.size)
  have kj:=Blk.fresh (W6.alloc (.cells #[.int .i64 0] 3)) #[.int .i64 0] 3
  ⟨bb6.trans (p.mono bb6.size),kq6.below p,kR6.below p,kO.below p,SRow.nil _ _,(Blk.fresh W6 _ _).below p2,by rw [World.size_alloc] at kj; exact kj,tab6.below p,trivial,
   ⟨Nat.le_of_eq HS.out.1,by have:=HS.out; omega,SEP.out.1.1,by have:=SEP.out.1.2; omega⟩,fun g hg=>by have:=SEP.out.2 g hg; omega,by omega,by omega,by omega⟩)
 clear kO qO hsO tab6 kq6 kR6 bb6 hs5 kq5 kR5 bb5 tab5 hbO
 go_wp2
 generalize ((W6.alloc (.cells #[.int .i64 0] 3)).alloc (.cells #[.int .i64 0] 3))=W7 at *
 refine wp_loop_ghost_k (fun n a' W=>∃ (bi bj i j:Nat) (v:Value) (pre:List (Nat × Nat × Nat)) (ds:List Deferred),(∃ fv:Nat→Value,a'={ tmps:=(.agg #[.slice A1 q.L.length n1,.slice A2 q.R.length n2,.string (qT (2 * q.ch)),.string (qT (2 * q.mi)),.string (qT (2 * q.ga)),.string (qT (2 * q.re))] :: .pointer (some ⟨bq,0,none⟩) :: .pointer (some ⟨bR,0,none⟩) :: .int .i64 0 :: .int .i64 0 :: .slice (some ⟨ob,0,none⟩) (q.L.length + 1) (q.L.length + 1) :: .string (qT (rst q 0 0)) :: .int .i64 0 :: .pointer (some ⟨bO,0,none⟩) :: .pointer (some ⟨bi,0,none⟩) :: .pointer (some ⟨bj,0,none⟩) :: fv 11 :: fv 12 :: fv 13 :: fv 14 :: fv 15 :: fv 16 :: fv 17 :: fv 18 :: fv 19 :: fv 20 :: fv 21 :: fv 22 :: fv 23 :: fv 24 :: fv 25 :: fv 26 :: fv 27 :: fv 28 :: fv 29 :: fv 30 :: fv 31 :: fv 32 :: fv 33 :: fv 34 :: fv 35 :: fv 36 :: fv 37 :: fv 38 :: fv 39 :: fv 40 :: fv 41 :: fv 42 :: fv 43 :: fv 44 :: fv 45 :: fv 46 :: fv 47 :: fv 48 :: fv 49 :: fv 50 :: fv 51 :: fv 52 :: fv 53 :: fv 54 :: fv 55 :: fv 56 :: fv 57 :: fv 58 :: fv 59 :: fv 60 :: fv 61 :: fv 62 :: fv 63 :: fv 64 :: fv 65 :: fv 66 :: []).toArray,defers:=ds })∧left q i j=n∧i≤q.L.length∧j≤q.R.length∧pre ++ way q i j=way q 0 0∧StB w0 bq bR bO bi bj ob rb q (.slice A1 q.L.length n1) (.slice A2 q.R.length n2) (qT (rst q 0 0)) pre i j v ds W) (left q 0 0) ?_ ?_
 ·exact ⟨_,_,0,0,_,[],[],ex_frame (by kernel_rfl),rfl,Nat.zero_le _,Nat.zero_le _,rfl,S6.out⟩
 clear S6
 rintro n a' W ⟨bi,bj,i,j,v,pre,ds,⟨fv,rfl⟩,hn,hi,hj,hway,hS⟩ J K hJ hK
 obtain ⟨vA,vc,rfl⟩:=hS.row.len_eval
 have S:=Lib.hid hS
 have yi:=hS.ki.at_ 0 _ rfl
 have yj:=hS.kj.at_ 0 _ rfl
 have y0:=hS.kq.at_ 0 _ rfl
 have y1:=hS.kq.at_ 1 _ rfl
 have HW:=Lib.hid hway
 have HN:=Lib.hid hn
 clear hS hway hn
 go_upto_region 10 with (fail)
 rename_i Kr hKr Kc hKc
 have KEY:(i < q.L.length ∨ j < q.R.length)→∀ (A:Act),(∃ fv:Nat→Value,A={ tmps:=(.agg #[.slice A1 q.L.length n1,.slice A2 q.R.length n2,.string (qT (2 * q.ch)),.string (qT (2 * q.mi)),.string (qT (2 * q.ga)),.string (qT (2 * q.re))] :: .pointer (some ⟨bq,0,none⟩) :: .pointer (some ⟨bR,0,none⟩) :: .int .i64 0 :: .int .i64 0 :: .slice (some ⟨ob,0,none⟩) (q.L.length + 1) (q.L.length + 1) :: .string (qT (rst q 0 0)) :: .int .i64 0 :: .pointer (some ⟨bO,0,none⟩) :: .pointer (some ⟨bi,0,none⟩) :: .pointer (some ⟨bj,0,none⟩) :: fv 11 :: fv 12 :: fv 13 :: fv 14 :: fv 15 :: fv 16 :: fv 17 :: fv 18 :: fv 19 :: fv 20 :: fv 21 :: fv 22 :: fv 23 :: fv 24 :: fv 25 :: fv 26 :: fv 27 :: fv 28 :: fv 29 :: fv 30 :: fv 31 :: fv 32 :: fv 33 :: fv 34 :: fv 35 :: fv 36 :: fv 37 :: fv 38 :: fv 39 :: fv 40 :: fv 41 :: fv 42 :: fv 43 :: fv 44 :: fv 45 :: fv 46 :: fv 47 :: fv 48 :: fv 49 :: fv 50 :: fv 51 :: fv 52 :: fv 53 :: fv 54 :: fv 55 :: fv 56 :: fv 57 :: fv 58 :: fv 59 :: fv 60 :: fv 61 :: fv 62 :: fv 63 :: fv 64 :: fv 65 :: fv 66 :: []).toArray,defers:=ds })→Kr A W:=by
  intro hne
  clear yi yj y0 y1 hKc
  clear fv
  rintro A ⟨fv,rfl⟩
  refine hKr _ _ ?_
  clear hKr
  have a0:=S.out.kq.at_ 0 _ rfl
  have a1:=S.out.kq.at_ 1 _ rfl
  have a2:=S.out.kq.at_ 2 _ rfl
  have a3:=S.out.kq.at_ 3 _ rfl
  have a4:=S.out.kq.at_ 4 _ rfl
  have a5:=S.out.kq.at_ 5 _ rfl
  have yi:=S.out.ki.at_ 0 _ rfl
  have yj:=S.out.kj.at_ 0 _ rfl
  go_wp2_with (first
   | (go_at_call 50; refine (good_make q _ _ _ _ _ i j _).mono ?_; rintro e W2 ⟨rfl,qb,hsz2,k1,k2,k3,k4⟩)
   | fail "arm")
  clear yi yj a0 a1 a2 a3 a4 a5
  have hS2:=S.out.below qb
  have hlt0:bO < W.heap.size:=S.out.kO.lt
  have hlti:=S.out.ki.lt
  have hltj:=S.out.kj.lt
  have hs1:=S.out.s1
  have hs3:=S.out.s3
  have hs4:=S.out.s4
  have hs0:=S.out.bb.size
  have S0:=S
  clear S0 qb
  obtain ⟨bw,hbw⟩:∃ b,W.heap.size=b:=⟨_,rfl⟩
  rw [hbw] at k1 k2 k3 k4 hsz2 hlt0 hlti hltj hs0
  simp only [hbw]
  clear hbw
  have hW2s:w0.heap.size≤W2.heap.size:=hS2.bb.size
  rw [show q.L.length + 1=rb.length from HRB.out.symm] at k2
  have hStG:StG w0 bw (bw + 1) (bw + 2) (bw + 3) ob rb q (.slice A1 q.L.length n1) (.slice A2 q.R.length n2) i j W2:=⟨KeptC.of_bb hS2.bb,hs0,k1,k2,k3,k4,hS2.tab⟩
  have hM:FarM w0 (fun g t=>g=bO ∨ g=bi ∨ g=bj ∨ (bO < g∧t = 56)) ([bw,bw + 1,bw + 2,bw + 3,ob] ++ rb) [32, 99, 3, 71, 28]:=by
   refine ⟨fun g t h=>by omega,fun g hg t ht h=>?_⟩
   have h2:t ≠ 56 := by
    simp only [List.mem_cons,List.not_mem_nil,or_false] at ht
    rcases ht with rfl | rfl | rfl | rfl | rfl <;> decide
   have h1:g=bO ∨ g=bi ∨ g=bj:=by
    rcases h with h | h | h | ⟨_,h⟩
    ·exact .inl h
    ·exact .inr (.inl h)
    ·exact .inr (.inr h)
    ·exact absurd h h2
   rcases List.mem_append.1 hg with hg | hg
   ·simp only [List.mem_cons,List.not_mem_nil,or_false] at hg
    omega
   ·have:=hs3 g hg
    omega
  have hMn:∀ g t,W2.heap.size≤g→t ∈ ([32, 3, 138]:List TypeId)→¬ (g=bO ∨ g=bi ∨ g=bj ∨ (bO < g∧t = 56)):=fun g t hg ht h=>by
   have h2:t ≠ 56 := by
    simp only [List.mem_cons,List.not_mem_nil,or_false] at ht
    rcases ht with rfl | rfl | rfl <;> decide
   rcases h with h | h | h | ⟨_,h⟩
   ·omega
   ·omega
   ·omega
   ·exact h2 h
  have hI:OwnFrom W2.heap.size (fun (l:List (SK q i j)) V=>l=[]∧StB w0 bq bR bO bi bj ob rb q (.slice A1 q.L.length n1) (.slice A2 q.R.length n2) (qT (rst q 0 0)) pre i j (.slice vA pre.length vc) ds V∧KeepsLow W2.heap.size W2 V):=fun s A B row h hg hr=>⟨h.1,StB.own rfl hW2s hS2.mrk s A B row h.2 hg hr⟩
  have hIx:∀ c:Code,OwnFrom W2.heap.size (fun (l:List (SK q i j)) V=>∃ (x:SK q i j) (v:Value),l=[x]∧c=.exit 2∧StB w0 bq bR bO bi bj ob rb q (.slice A1 q.L.length n1) (.slice A2 q.R.length n2) (qT (rst q 0 0)) (pre ++ [(x.k,i,j)]) (nxI x.k i) (nxJ x.k j) v ds V∧KeepsLow W2.heap.size W2 V):=fun c s A B row h hg hr=>by
   obtain ⟨x,v,h1,h2,h3⟩:=h
   exact ⟨x,v,h1,h2,StB.own rfl hW2s hS2.mrk s A B row h3 hg hr⟩
  refine wide_loop (n:=9) (gf := 79) (lb:=#[.pointer (some ⟨bw,0,none⟩),.pointer (some ⟨bw + 2,0,none⟩),.pointer (some ⟨bw + 3,0,none⟩),.pointer (some ⟨bw + 1,0,none⟩)]) rfl (enters_of Tryz.func79 (by kernel_rfl) rfl)
   (good_stops (9 - 1) q OK.out _ _ i j hi hj w0 HE.out HQ.out bw (bw + 1) (bw + 2) (bw + 3) ob rb HRB.out (fun a b ha hb=>by have:=rst_bdQ q OK.out a b ha hb; omega) _ hM W2 hMn hStG) (fun h k=>KeptC.trans h k) (fun V o o' h ho=>KeptC.put _ h ho) (fun _=>rfl)
   (fun l V=>l=[]∧StB w0 bq bR bO bi bj ob rb q (.slice A1 q.L.length n1) (.slice A2 q.R.length n2) (qT (rst q 0 0)) pre i j (.slice vA pre.length vc) ds V∧KeepsLow W2.heap.size W2 V)
   (fun c l V=>∃ (x:SK q i j) (v:Value),l=[x]∧c=.exit 2∧StB w0 bq bR bO bi bj ob rb q (.slice A1 q.L.length n1) (.slice A2 q.R.length n2) (qT (rst q 0 0)) (pre ++ [(x.k,i,j)]) (nxI x.k i) (nxJ x.k j) v ds V∧KeepsLow W2.heap.size W2 V)
   hI hIx ⟨rfl,hS2,KeepsLow.refl _ _⟩
   (fun l x a' V=>∃ (bs:Nat),(l=[]∧StB w0 bq bR bO bi bj ob rb q (.slice A1 q.L.length n1) (.slice A2 q.R.length n2) (qT (rst q 0 0)) pre i j (.slice vA pre.length vc) ds V∧KeepsLow W2.heap.size W2 V)∧Blk V bs #[.int .i64 x.k,.int .i64 i,.int .i64 j] 56 ∧ (Value.slice vA pre.length vc).ownBlock ≠ some bs∧bO < bs∧bs ≠ bi∧bs ≠ bj∧∃ fv:Nat→Value,a'={ tmps:=(.agg #[.slice A1 q.L.length n1,.slice A2 q.R.length n2,.string (qT (2 * q.ch)),.string (qT (2 * q.mi)),.string (qT (2 * q.ga)),.string (qT (2 * q.re))] :: .pointer (some ⟨bq,0,none⟩) :: .pointer (some ⟨bR,0,none⟩) :: .int .i64 0 :: .int .i64 0 :: .slice (some ⟨ob,0,none⟩) (q.L.length + 1) (q.L.length + 1) :: .string (qT (rst q 0 0)) :: .int .i64 0 :: .pointer (some ⟨bO,0,none⟩) :: .pointer (some ⟨bi,0,none⟩) :: .pointer (some ⟨bj,0,none⟩) :: .pointer (some ⟨bs,0,none⟩) :: fv 12 :: fv 13 :: fv 14 :: fv 15 :: fv 16 :: fv 17 :: fv 18 :: fv 19 :: fv 20 :: fv 21 :: fv 22 :: fv 23 :: fv 24 :: fv 25 :: fv 26 :: fv 27 :: fv 28 :: fv 29 :: fv 30 :: fv 31 :: fv 32 :: fv 33 :: fv 34 :: fv 35 :: fv 36 :: fv 37 :: fv 38 :: fv 39 :: fv 40 :: fv 41 :: fv 42 :: fv 43 :: fv 44 :: fv 45 :: fv 46 :: fv 47 :: fv 48 :: fv 49 :: fv 50 :: fv 51 :: fv 52 :: fv 53 :: fv 54 :: fv 55 :: fv 56 :: fv 57 :: fv 58 :: fv 59 :: fv 60 :: fv 61 :: fv 62 :: fv 63 :: fv 64 :: fv 65 :: fv 66 :: []).toArray,defers:=[] })
   (fun l x a' s A B row h hg hr=>by
    obtain ⟨bs,h1,h2,h3⟩:=h
    exact ⟨bs,hI _ A B row h1 hg hr,ownFrom_cells (I:=fun (_:Unit) V=>Blk V bs #[.int .i64 x.k,.int .i64 i,.int .i64 j] 56) (fun _ V V' h k _=>h.keptC k trivial) _ () A B row h2 hg hr,h3⟩)
   ?assign ?body ?done ?stop
  case assign =>
   rintro l2 l x V K ⟨h0,h1,h2⟩ hK
   have qv:=below_new V (.cells #[.int .i64 x.k,.int .i64 i,.int .i64 j] 56)
   have kv:=Blk.fresh V #[.int .i64 x.k,.int .i64 i,.int .i64 j] 56
   have hne:(Value.slice vA pre.length vc).ownBlock ≠ some V.heap.size:=fun h=>by have:=(h1.row.own _ h).2.1; omega
   have g1:=h1.kO.lt
   have g2:=h1.ki.lt
   have g3:=h1.kj.lt
   dsimp only [encG]
   gi_wp2
   exact hK _ _ (keepsFrom_below qv) (KeptC.below qv) ⟨V.heap.size,⟨h0,h1.below qv,h2.trans (KeepsLow.of (keepsFrom_below qv))⟩,kv,hne,g1,by omega,by omega,ex_frame (by kernel_rfl)⟩
  case body =>
   rintro l2 l x a' V ⟨bs,⟨h0,h1,h2⟩,hb,hne2,hbs,hbs2,hbs3,fv,rfl⟩ hlen
   have d0:=hb.at_ 0 _ rfl
   have d1:=hb.at_ 1 _ rfl
   have d2:=hb.at_ 2 _ rfl
   have o0:=h1.kO.at_ 0 _ rfl
   have HNX:Hid (∀ w,Ret Tryz.prog w 51 #[.agg #[.int .i64 x.k,.int .i64 i,.int .i64 j]] (.tuple #[.int .i64 (nxI x.k i:Nat),.int .i64 (nxJ x.k j:Nat)])):=Lib.hid (fun w=>by
    have h:=cnext_any x.k i j (by omega) (by omega) w
    rw [nzI_nat,nzJ_nat x.k j x.h1] at h
    exact h)
   have H1:=Lib.hid h1
   have H2:=Lib.hid h2
   have HB:=Lib.hid hb
   have hbase:bO + 1≤V.heap.size:=by have:=h1.kO.lt; omega
   have hpl:pre.length≤5000:=by
    have h:=congrArg List.length HW.out
    have h3:=way_len q _ 0 0 rfl (Nat.zero_le _) (Nat.zero_le _)
    rw [List.length_append] at h
    unfold left at h3
    omega
   have HNE:=Lib.hid hne2
   have HL0:=Lib.hid h0
   clear h1 h2 hb hne2 hI hIx hM hMn hStG hS2 h0
   gi_wp2_with (first
    | (gi_at_builtin; refine listIn_of (.inr ⟨l2,rfl⟩) rfl (by intro c hc; cases hc) ?_; refine app_row2 ElT stC_len stC_one rfl (.tmp 54) (.tmp 56) rfl V (bO + 1) hbase _ pre H1.out.row rfl hpl (x.k,i,j) rfl ?_; intro v' X1 r1 r2 r3 r4; refine ⟨rfl,?_⟩; obtain ⟨vA',vc',hv'⟩:=r1.len_eval; rw [show (pre ++ [(x.k,i,j)]).length=pre.length + 1 from by simp] at hv'; subst hv'; have kO1:=H1.out.kO.keptC r3 (fun e=>by have:=(H1.out.row.own _ e).1; omega); have c0:=kO1.at_ 0 _ rfl; have f0:=kO1.free 0; have kb:=(HB.out.keptC r3 HNE.out).one (show bs ≠ bO by omega) 0 (.slice vA' (pre.length + 1) vc'); have e0:=kb.at_ 0 _ rfl; have e1:=kb.at_ 1 _ rfl; have e2:=kb.at_ 2 _ rfl; have R1:=Lib.hid r1; have R2:=Lib.hid r2; have R3:=Lib.hid r3; have R4:=Lib.hid r4; clear r1 r2 r3 r4 kO1 kb d0 d1 d2 o0)
    | fail "arm")
   refine ⟨trivial,?_⟩
   with_reducible refine (CallsIn.inRound l2 (callsIn_wide.2 (HNX.out _ _ (Below.refl _ _)))).mono ?_
   rintro e X2 ⟨rfl,q2⟩
   have ow:=H1.out.ownNe
   have kiX:=((H1.out.ki.keptC R3.out (fun e=>(ow _ e).2.1 rfl)).one (show bi ≠ bO by omega) 0 (.slice vA' (pre.length + 1) vc')).below q2
   have kjX:=((H1.out.kj.keptC R3.out (fun e=>(ow _ e).2.2 rfl)).one (show bj ≠ bO by omega) 0 (.slice vA' (pre.length + 1) vc')).below q2
   have g0:=kiX.at_ 0 _ rfl
   have g1:=kiX.free 0
   have g2:=kjX.at_ 0 _ rfl
   have g3:=kjX.free 0
   have hij:=hs4.2.2
   have QX:=Lib.hid q2
   clear q2 kiX kjX ow
   gi_wp2
   have hst:=StB.step (i':=nxI x.k i) (j':=nxJ x.k j) H1.out R1.out R2.out R3.out R4.out QX.out
   exact ⟨KeepsFrom.mono hst.2 (Nat.zero_le _),x,_,by rw [HL0.out]; rfl,rfl,hst.1,H2.out.trans (KeepsLow.of hst.2)⟩
  case done =>
   rintro D ys V hD rfl ⟨h0,_⟩ hK
   exact absurd h0 (gdS_ne q i j hi hj hne)
  case stop =>
   rintro D c l V hD hpre ⟨x,v,rfl,rfl,h1,h2⟩ hK
   have hfk:=gdS_first q i j x hpre
   have hm:=Marks.add hS2.mrk h1.mrk (by omega) hD hK
   have S9:=Lib.hid (h1.marks hm)
   have z0:=h1.ki.at_ 0 _ rfl
   have z1:=h1.kj.at_ 0 _ rfl
   have HFK:=Lib.hid hfk
   clear h1 h2 hK hm hfk
   go_wp2
   have hks:=x.h2
   have hxk:=kinds_of x.h1
   have p1:=below_new V (.cells #[.int .i64 ((nxI x.k i:Nat):Int)] 3)
   have p2:=below_new (V.alloc (.cells #[.int .i64 ((nxI x.k i:Nat):Int)] 3)) (.cells #[.int .i64 ((nxJ x.k j:Nat):Int)] 3)
   have p:=p1.trans (p2.mono p1.size)
   have kj:=Blk.fresh (V.alloc (.cells #[.int .i64 ((nxI x.k i:Nat):Int)] 3)) #[.int .i64 ((nxJ x.k j:Nat):Int)] 3
   rw [World.size_alloc] at kj
   have hbo:=S9.out.kO.lt
   have hwy:=way_cons q i j hi hj hne
   rw [← HFK.out] at hwy
   exact ⟨left q (nxI x.k i) (nxJ x.k j),by have:=HN.out; have:=left_nx hxk hks; omega,hJ _ _ _ ⟨V.heap.size,V.heap.size + 1,nxI x.k i,nxJ x.k j,v,pre ++ [(x.k,i,j)],_,ex_frame (by kernel_rfl),rfl,hks.1,hks.2.1,by rw [List.append_assoc,← HW.out,hwy]; rfl,
    (S9.out.below p).newIJ ((Blk.fresh V _ _).below p2) kj ⟨hbo,by omega,by omega⟩⟩⟩
 clear hKr
 by_cases h1:i < q.L.length
 ·have t1:(i:Int) < (q.L.length:Int):=by omega
  go_wp2
  exact KEY (.inl h1) _ (ex_frame (by kernel_rfl))
 ·have t1:¬ (i:Int) < (q.L.length:Int):=by omega
  have t1':decide ((i:Int) < (q.L.length:Int))=false:=decide_eq_false t1
  by_cases h2:j < q.R.length
  ·have t2:(j:Int) < (q.R.length:Int):=by omega
   go_wp2
   exact KEY (.inr h2) _ (ex_frame (by kernel_rfl))
  ·have t2:¬ (j:Int) < (q.R.length:Int):=by omega
   have t2':decide ((j:Int) < (q.R.length:Int))=false:=decide_eq_false t2
   have HPW:Hid (pre=way q 0 0):=Lib.hid (by have:=HW.out; rw [way_nil q i j (by omega),List.append_nil] at this; exact this)
   have o0:=S.out.kO.at_ 0 _ rfl
   have o1:=S.out.kO.at_ 1 _ rfl
   have r0:=S.out.kR.at_ 0 _ rfl
   have r1:=S.out.kR.at_ 1 _ rfl
   have f0:=S.out.kR.free 0
   have f1:=S.out.kR.free 1
   clear KEY hJ hK
   go_wp2
   have w1:=Wrote.set S.out.kR 0 (.slice vA pre.length vc)
   have w2:=Wrote.set (S.out.kR.set 0 (.slice vA pre.length vc)) 1 (.string (qT (rst q 0 0)))
   have hw:=w1.trans w2
   have hs1:=S.out.s1
   have hs0:=S.out.bb.size
   have mk:=S.out.mrk.kept (KeepsFrom.mono hw.keeps (Nat.zero_le _))
   have kR2:=(S.out.kR.set 0 (.slice vA pre.length vc)).set 1 (.string (qT (rst q 0 0)))
   have row2:=S.out.row.keptC hw.kept (fun g hg e=>by have:=(S.out.row.own g hg).1; omega)
   have bb2:=S.out.bb.trans (hw.below.mono (by omega))
   refine leaves_marks ds _ mk (fun w' hm=>?_)
   have kc:KeptC (fun _ _=>True) _ w':=fun g cs t fz _ e=>hm.cells g cs t fz e
   have kR3:=kR2.keptC kc trivial
   have e0:=kR3.at_ 0 _ rfl
   have e1:=kR3.at_ 1 _ rfl
   have row3:=row2.keptC kc (fun _ _=>trivial)
   have bb3:=bb2.trans hm.below
   refine ⟨.tuple #[.agg #[.slice vA pre.length vc,.string (qT (rst q 0 0))],.int .i64 0],(by rw [results_cell_tmp Tryz.results15]; simp [go_sem,e0,e1]),_,rfl,?_,bb3⟩
   rw [HPW.out] at row3 ⊢
   rcases row3 with r | ⟨d,c,r,a1,a2,a3⟩
   ·exact .inl r
   ·exact .inr ⟨d,c,r,a1,by omega,a3⟩

end Go.Proofs.YthhkmihjnnfpgaaGreatDoor

/- Tables whose rows are made from the last one on; the state of Count. -/
namespace Go.Proofs.YthhkmihjnnfpgaaGreatDoor
set_option linter.all false
open Go.RowKit

attribute [local go_sem] Oper.semAt_some

structure TabS (W:World) (wb N M k:Nat) (rw_:Nat→Nat) (c:Nat→Nat→Value) (T1 T2:TypeId):Prop where
 out:Blk W wb ((List.range N).map (fun p=>if k≤p then Value.slice (some ⟨rw_ p,0,none⟩) M M else Value.slice none 0 0)).toArray T1
 row:∀ p,k≤p→p < N→Blk W (rw_ p) ((List.range M).map (fun r=>c p r)).toArray T2
 far:∀ p,k≤p→p < N→rw_ p ≠ wb
 inj:∀ p r,k≤p→p < N→k≤r→r < N→rw_ p=rw_ r→p=r
section
variable {W W':World} {wb N M k:Nat} {rw_:Nat→Nat} {c:Nat→Nat→Value} {T1 T2:TypeId}
theorem range_get {β:Type} (f:Nat→β) (n i:Nat) (h:i < n):((List.range n).map f)[i]?=some (f i):=by
 rw [List.getElem?_map,List.getElem?_range h]
 rfl
theorem TabS.cell1 (h:TabS W wb N M k rw_ c T1 T2) (p:Nat) (h1:k≤p) (h2:p < N):W.cell? ⟨wb,p,none⟩=some (.slice (some ⟨rw_ p,0,none⟩) M M):=by
 refine h.out.atL p _ ?_
 rw [range_get _ N p h2,if_pos h1]
theorem TabS.cell0 (h:TabS W wb N M k rw_ c T1 T2) (p:Nat) (h2:p < N):∃ v,W.cell? ⟨wb,p,none⟩=some v:=⟨_,h.out.atL p _ (range_get _ N p h2)⟩
theorem TabS.cell2 (h:TabS W wb N M k rw_ c T1 T2) (p r:Nat) (h1:k≤p) (h2:p < N) (h3:r < M):W.cell? ⟨rw_ p,r,none⟩=some (c p r):=(h.row p h1 h2).atL r _ (range_get _ M r h3)
theorem TabS.free (h:TabS W wb N M k rw_ c T1 T2) (p r:Nat) (h1:k≤p) (h2:p < N):W.frozen? ⟨rw_ p,r,none⟩=false:=(h.row p h1 h2).free r
theorem TabS.below (h:TabS W wb N M k rw_ c T1 T2) (q:Below W.heap.size W W'):TabS W' wb N M k rw_ c T1 T2:=⟨h.out.below q,fun p h1 h2=>(h.row p h1 h2).below q,h.far,h.inj⟩
theorem TabS.keptC {S:Nat→TypeId→Prop} (h:TabS W wb N M k rw_ c T1 T2) (q:KeptC S W W') (h1:S wb T1) (h2:∀ p,k≤p→p < N→S (rw_ p) T2):TabS W' wb N M k rw_ c T1 T2:=⟨h.out.keptC q h1,fun p a b=>(h.row p a b).keptC q (h2 p a b),h.far,h.inj⟩
theorem TabS.congr {c':Nat→Nat→Value} (h:TabS W wb N M k rw_ c T1 T2) (e:∀ p r,k≤p→p < N→r < M→c p r=c' p r):TabS W wb N M k rw_ c' T1 T2:=by
 refine ⟨h.out,fun p a b=>?_,h.far,h.inj⟩
 have h2:(List.range M).map (fun r=>c p r)=(List.range M).map (fun r=>c' p r):=List.map_congr_left (fun r hr=>e p r a b (List.mem_range.1 hr))
 rw [← h2]
 exact h.row p a b
theorem map_set {β:Type} (f:Nat→β) (n j:Nat) (v:β):((List.range n).map f).toArray.setIfInBounds j v=((List.range n).map (fun i=>if i=j then v else f i)).toArray:=by
 apply Array.ext_getElem?
 intro b
 rw [Array.getElem?_setIfInBounds]
 simp only [List.getElem?_toArray,List.getElem?_map,List.size_toArray,List.length_map,List.length_range]
 by_cases hb:j=b
 ·subst hb
  rw [if_pos rfl]
  by_cases hj:j < n
  ·rw [if_pos hj,List.getElem?_range hj]
   simp
  ·rw [if_neg hj,List.getElem?_eq_none (by simpa using hj)]
   rfl
 ·rw [if_neg hb]
  by_cases hj:b < n
  ·rw [List.getElem?_range hj]
   simp [show ¬ b=j from fun e=>hb e.symm]
  ·rw [List.getElem?_eq_none (by simpa using hj)]
   rfl
theorem TabS.set (h:TabS W wb N M k rw_ c T1 T2) (p r:Nat) (h1:k≤p) (h2:p < N) (v:Value):TabS (W.setCell ⟨rw_ p,r,none⟩ v) wb N M k rw_ (updV c p r v) T1 T2∧Wrote (rw_ p) W (W.setCell ⟨rw_ p,r,none⟩ v):=by
 have w:=Wrote.set (h.row p h1 h2) r v
 refine ⟨⟨h.out.keptC w.kept (Ne.symm (h.far p h1 h2)),fun a ha hb=>?_,h.far,h.inj⟩,w⟩
 by_cases e:a=p
 ·subst e
  have hs:=(h.row a h1 h2).set r v
  rw [map_set] at hs
  have e2:(List.range M).map (fun i=>if i=r then v else c a i)=(List.range M).map (fun i=>updV c a r v a i):=List.map_congr_left (fun i _=>by
   unfold updV
   by_cases hi:i=r
   ·rw [if_pos hi,if_pos ⟨rfl,hi⟩]
   ·rw [if_neg hi,if_neg (fun h=>hi h.2)])
  rw [e2] at hs
  exact hs
 ·have hr:=(h.row a ha hb).keptC w.kept (fun e2=>e (h.inj a p ha hb h1 h2 e2))
  have e2:(List.range M).map (fun i=>updV c p r v a i)=(List.range M).map (fun i=>c a i):=List.map_congr_left (fun i _=>by
   unfold updV
   rw [if_neg (fun h=>e h.1)])
  rw [e2]
  exact hr
theorem TabS.next {g:Nat} {z:Value} (h:TabS W wb N M (k + 1) rw_ c T1 T2) (hk:k < N) (hg:Blk W g ((List.range M).map (fun _=>z)).toArray T2) (hw:g ≠ wb) (hf:∀ p,k + 1≤p→p < N→rw_ p ≠ g) :
  TabS (W.setCell ⟨wb,k,none⟩ (.slice (some ⟨g,0,none⟩) M M)) wb N M k (fun p=>if p=k then g else rw_ p) (fun p r=>if p=k then z else c p r) T1 T2∧Wrote wb W (W.setCell ⟨wb,k,none⟩ (.slice (some ⟨g,0,none⟩) M M)):=by
 have w:=Wrote.set h.out k (.slice (some ⟨g,0,none⟩) M M)
 refine ⟨⟨?_,fun a ha hb=>?_,fun a ha hb=>?_,fun a b ha hb hc hd e=>?_⟩,w⟩
 ·have hs:=h.out.set k (.slice (some ⟨g,0,none⟩) M M)
  rw [map_set] at hs
  have e2:(List.range N).map (fun i=>if i=k then Value.slice (some ⟨g,0,none⟩) M M else if k + 1≤i then Value.slice (some ⟨rw_ i,0,none⟩) M M else Value.slice none 0 0)=(List.range N).map (fun p=>if k≤p then Value.slice (some ⟨if p=k then g else rw_ p,0,none⟩) M M else Value.slice none 0 0):=List.map_congr_left (fun i _=>by
   by_cases hi:i=k
   ·subst hi
    rw [if_pos rfl,if_pos (Nat.le_refl _),if_pos rfl]
   ·rw [if_neg hi]
    by_cases h3:k + 1≤i
    ·rw [if_pos h3,if_pos (by omega),if_neg hi]
    ·rw [if_neg h3,if_neg (by omega)])
  rw [e2] at hs
  exact hs
 ·by_cases e:a=k
  ·subst e
   simp only [if_true]
   exact hg.keptC w.kept hw
  ·simp only [if_neg e]
   exact (h.row a (by omega) hb).keptC w.kept (h.far a (by omega) hb)
 ·by_cases e:a=k
  ·rw [if_pos e]; exact hw
  ·rw [if_neg e]; exact h.far a (by omega) hb
 ·by_cases e1:a=k <;> by_cases e2:b=k
  ·omega
  ·rw [if_pos e1,if_neg e2] at e
   exact absurd e.symm (hf b (by omega) hd)
  ·rw [if_neg e1,if_pos e2] at e
   exact absurd e (hf a (by omega) hb)
  ·rw [if_neg e1,if_neg e2] at e
   exact h.inj a b (by omega) hb (by omega) hd e
theorem TabS.nil (h:Blk W wb ((List.range N).map (fun _=>Value.slice none 0 0)).toArray T1) (rw_:Nat→Nat) (c:Nat→Nat→Value):TabS W wb N M N rw_ c T1 T2:=by
 refine ⟨?_,fun p h1 h2=>by omega,fun p h1 h2=>by omega,fun p r h1 h2=>by omega⟩
 have e:(List.range N).map (fun p=>if N≤p then Value.slice (some ⟨rw_ p,0,none⟩) M M else Value.slice none 0 0)=(List.range N).map (fun _=>Value.slice none 0 0):=List.map_congr_left (fun i hi=>by rw [if_neg (by have:=List.mem_range.1 hi; omega)])
 rw [e]
 exact h
end
structure StC (w0:World) (bq bw bi ob wb k:Nat) (rb:List Nat) (rw_:Nat→Nat) (q:CQ) (sl sr:Value) (i:Int) (c:Nat→Nat→Value) (ds:List Deferred) (W:World):Prop where
 bb:Below w0.heap.size w0 W
 kq:Blk W bq #[sl,sr,.string (qT (2 * q.ch)),.string (qT (2 * q.mi)),.string (qT (2 * q.ga)),.string (qT (2 * q.re))] 32
 kw:Blk W bw #[.slice (some ⟨wb,0,none⟩) rb.length rb.length] 105
 ki:Blk W bi #[.int .i64 i] 3
 tab:TabT W ob rb (q.R.length + 1) (rstT q) 71 28
 ways:TabS W wb rb.length (q.R.length + 1) k rw_ c 106 40
 mrk:Marks w0.heap.size W ds
 s1:w0.heap.size≤bq∧bq < ob∧ob < wb∧wb < bw∧bw < bi
 s3:∀ g ∈ rb,bq < g∧g < wb
 s4:∀ p,k≤p→p < rb.length→bw < rw_ p∧rw_ p ≠ bi
section
variable {w0 W W':World} {bq bw bi ob wb k:Nat} {rb:List Nat} {rw_:Nat→Nat} {q:CQ} {sl sr:Value} {i:Int} {c:Nat→Nat→Value} {ds:List Deferred}
theorem StC.below (h:StC w0 bq bw bi ob wb k rb rw_ q sl sr i c ds W) (p:Below W.heap.size W W'):StC w0 bq bw bi ob wb k rb rw_ q sl sr i c ds W' :=
 ⟨h.bb.trans (p.mono h.bb.size),h.kq.below p,h.kw.below p,h.ki.below p,h.tab.below p,h.ways.below p,h.mrk.kept (keepsFrom_below p),h.s1,h.s3,h.s4⟩
theorem StC.wrote {g:Nat} {c':Nat→Nat→Value} (h:StC w0 bq bw bi ob wb k rb rw_ q sl sr i c ds W) (hg:bw < g) (hi:g ≠ bi) (p:Wrote g W W') (t:TabS W' wb rb.length (q.R.length + 1) k rw_ c' 106 40):StC w0 bq bw bi ob wb k rb rw_ q sl sr i c' ds W':=by
 have h1:=h.s1
 exact ⟨h.bb.trans (p.below.mono (by omega)),h.kq.keptC p.kept (by omega),h.kw.keptC p.kept (by omega),h.ki.keptC p.kept (Ne.symm hi),h.tab.keptC p.kept (by omega) (fun x hx=>by have:=h.s3 x hx; omega),t,h.mrk.kept (KeepsFrom.mono p.keeps (Nat.zero_le _)),h.s1,h.s3,h.s4⟩
theorem StC.tabC {c':Nat→Nat→Value} (h:StC w0 bq bw bi ob wb k rb rw_ q sl sr i c ds W) (e:∀ p r,k≤p→p < rb.length→r < q.R.length + 1→c p r=c' p r):StC w0 bq bw bi ob wb k rb rw_ q sl sr i c' ds W :=
 ⟨h.bb,h.kq,h.kw,h.ki,h.tab,h.ways.congr e,h.mrk,h.s1,h.s3,h.s4⟩
theorem StC.marks {ds':List Deferred} (h:StC w0 bq bw bi ob wb k rb rw_ q sl sr i c ds W) (m:Marks w0.heap.size W ds'):StC w0 bq bw bi ob wb k rb rw_ q sl sr i c ds' W:=⟨h.bb,h.kq,h.kw,h.ki,h.tab,h.ways,m,h.s1,h.s3,h.s4⟩
theorem StC.newI {bi':Nat} {x:Int} (h:StC w0 bq bw bi ob wb k rb rw_ q sl sr i c ds W) (hb:bw < bi') (p:Blk W bi' #[.int .i64 x] 3):StC w0 bq bw bi' ob wb k rb rw_ q sl sr x c ds W :=
 ⟨h.bb,h.kq,h.kw,p,h.tab,h.ways,h.mrk,by have:=h.s1; omega,h.s3,fun p' h1 h2=>⟨(h.s4 p' h1 h2).1,fun e=>by
  have hr:=h.ways.row p' h1 h2
  rw [e] at hr
  exact absurd (hr.type_eq p) (by decide)⟩⟩
theorem StC.own {β:Type} {B:Nat} {WB:World} (hB:WB.heap.size=B) (hw:w0.heap.size≤B) (hm:Marks w0.heap.size WB ds) (f:β→Nat→Nat→Value):OwnFrom B (fun (s:β) V=>StC w0 bq bw bi ob wb k rb rw_ q sl sr i (f s) ds V∧KeepsLow B WB V):=fun s V V' row h hg hr=>by
 have hk:=KeepsLow.own (β:=β) B WB s V V' row h.2 hg hr
 have hb:=ownFrom_bb (β:=β) hw s V V' row ⟨h.1.bb.size,h.1.bb⟩ hg hr
 have hc:=ownFrom_cells (I:=fun (_:Unit) X=>(Blk X bq #[sl,sr,.string (qT (2 * q.ch)),.string (qT (2 * q.mi)),.string (qT (2 * q.ga)),.string (qT (2 * q.re))] 32 ∧ Blk X bw #[.slice (some ⟨wb,0,none⟩) rb.length rb.length] 105 ∧ Blk X bi #[.int .i64 i] 3)∧TabT X ob rb (q.R.length + 1) (rstT q) 71 28 ∧ TabS X wb rb.length (q.R.length + 1) k rw_ (f s) 106 40)
  (fun _ X X' h k _=>⟨⟨h.1.1.keptC k trivial,h.1.2.1.keptC k trivial,h.1.2.2.keptC k trivial⟩,h.2.1.keptC k trivial (fun _ _=>trivial),h.2.2.keptC k trivial (fun _ _ _=>trivial)⟩) B () V V' row ⟨⟨h.1.kq,h.1.kw,h.1.ki⟩,h.1.tab,h.1.ways⟩ hg hr
 exact ⟨⟨hb.2,hc.1.1,hc.1.2.1,hc.1.2.2,hc.2.1,hc.2.2,Marks.low (Nat.le_of_eq hB) hk hm,h.1.s1,h.1.s3,h.1.s4⟩,hk⟩
theorem StC.nextRow {g:Nat} {z:Value} (h:StC w0 bq bw bi ob wb (k + 1) rb rw_ q sl sr i c ds W) (hk:k < rb.length) (hg:Blk W g ((List.range (q.R.length + 1)).map (fun _=>z)).toArray 40) (hb:bw < g) (hi:g ≠ bi) (hf:∀ p,k + 1≤p→p < rb.length→rw_ p ≠ g) :
  StC w0 bq bw bi ob wb k rb (fun p=>if p=k then g else rw_ p) q sl sr i (fun p r=>if p=k then z else c p r) ds (W.setCell ⟨wb,k,none⟩ (.slice (some ⟨g,0,none⟩) (q.R.length + 1) (q.R.length + 1))):=by
 have h1:=h.s1
 obtain ⟨t,p⟩:=h.ways.next hk hg (by omega) hf
 exact ⟨h.bb.trans (p.below.mono (by omega)),h.kq.keptC p.kept (by omega),h.kw.keptC p.kept (by omega),h.ki.keptC p.kept (by omega),h.tab.keptC p.kept (by omega) (fun x hx=>by have:=h.s3 x hx; omega),t,h.mrk.kept (KeepsFrom.mono p.keeps (Nat.zero_le _)),h.s1,h.s3,fun a h2 h3=>by
  by_cases e:a=k
  ·rw [if_pos e]; exact ⟨hb,hi⟩
  ·rw [if_neg e]; exact h.s4 a (by omega) h3⟩
end
def wayT (q:CQ) (i m:Nat) (p r:Nat):Value:=if i < p ∨ (p=i∧m≤r) then .string (canon (cnt q p r:Nat)) else .string ⟨#[]⟩
def entW (q:CQ) (i j:Nat) (x:Nat) (p r:Nat):Value:=if p=i∧r=j then .string (canon (x:Nat)) else wayT q i (j + 1) p r
theorem entW_upd (q:CQ) (i j x y p r:Nat):updV (entW q i j x) i j (.string (canon (y:Nat))) p r=entW q i j y p r:=by
 unfold updV entW
 by_cases h:p=i∧r=j
 ·rw [if_pos h,if_pos h]
 ·rw [if_neg h,if_neg h,if_neg h]
theorem wayT_upd (q:CQ) (i j y p r:Nat):updV (wayT q i (j + 1)) i j (.string (canon (y:Nat))) p r=entW q i j y p r:=rfl
theorem entW_done (q:CQ) (i j p r:Nat):entW q i j (cnt q i j) p r=wayT q i j p r:=by
 unfold entW
 by_cases h:p=i∧r=j
 ·rw [if_pos h,h.1,h.2]
  unfold wayT
  rw [if_pos (by omega)]
 ·rw [if_neg h]
  unfold wayT
  by_cases h1:i < p ∨ (p=i∧j + 1≤r)
  ·rw [if_pos h1,if_pos (by omega)]
  ·rw [if_neg h1,if_neg (by omega)]
def cntS (q:CQ) (i j:Nat) (l:List (SK q i j)):Nat:=(if i=q.L.length∧j=q.R.length then 1 else 0) + (l.map (fun x=>cnt q (nxI x.k i) (nxJ x.k j))).sum
theorem cntS_snoc (q:CQ) (i j:Nat) (l:List (SK q i j)) (x:SK q i j):cntS q i j (l ++ [x])=cntS q i j l + cnt q (nxI x.k i) (nxJ x.k j):=by
 unfold cntS
 rw [List.map_append,List.sum_append]
 simp
 omega
theorem cntS_all (q:CQ) (i j:Nat):cntS q i j (gdS q i j)=cnt q i j:=by
 rw [cnt_eq,← gdS_k,List.map_map]
 rfl
theorem cnt_bdQ (q:CQ) (ok:OkQ q) (i j:Nat) (hi:i≤q.L.length) (hj:j≤q.R.length):cnt q i j≤244140625:=by
 have h:=cnt_bd q (left q i j) i j rfl hi hj
 have h1:=ok.hl
 have h2:=ok.hr
 have h3:left q i j≤12:=by unfold left; omega
 exact Nat.le_trans h (Nat.le_trans (Nat.pow_le_pow_right (by omega) h3) (by decide))
theorem cntS_bd (q:CQ) (ok:OkQ q) (i j:Nat):∀ (l:List (SK q i j)),cntS q i j l≤1 + l.length * 244140625
 | []=>by unfold cntS; simp; split <;> omega
 | x :: l=>by
  have ih:=cntS_bd q ok i j l
  have h:=cnt_bdQ q ok _ _ x.h2.1 x.h2.2.1
  have e:cntS q i j (x :: l)=cnt q (nxI x.k i) (nxJ x.k j) + cntS q i j l:=by
   unfold cntS
   rw [List.map_cons,List.sum_cons]
   omega
  rw [e,List.length_cons,Nat.succ_mul]
  omega
theorem cway_size (n:Nat) (h:n < 10000000000):(canon (n:Int)).size≤11:=canon_size_lt n 10 (by rw [Int.natAbs_natCast]; exact h) (by omega)

end Go.Proofs.YthhkmihjnnfpgaaGreatDoor

/- Count: the walk. -/
namespace Go.Proofs.YthhkmihjnnfpgaaGreatDoor
set_option linter.all false
open Go.RowKit

attribute [local go_sem] Oper.semAt_some

set_option maxRecDepth 100000 in
set_option maxHeartbeats 8000000 in
theorem count_any (q:CQ) (ok:OkQ q) (sl sr:Value) (w0:World) (he:Env w0) (hq:QAt w0 sl sr q) :
  Calls Tryz.prog 16 #[.agg #[sl,sr,.string (qT (2 * q.ch)),.string (qT (2 * q.mi)),.string (qT (2 * q.ga)),.string (qT (2 * q.re))]] w0 fun e w'=>e=.returned (.tuple #[.string (canon (cnt q 0 0:Nat)),.int .i64 0])∧Below w0.heap.size w0 w':=by
 have hll:=ok.hl
 have hrr:=ok.hr
 have HQ:=Lib.hid hq
 obtain ⟨A1,n1,rfl,_⟩:=hq.l
 obtain ⟨A2,n2,rfl,_⟩:=hq.r
 have HE:=Lib.hid he
 have OK:=Lib.hid ok
 clear hq he ok
 obtain ⟨zw,hzw⟩:∃ z,((List.range (q.L.length + 1)).map (fun _=>Value.slice none 0 0)).toArray=z:=⟨_,rfl⟩
 have hm1:=run_mkv (P:=Tryz.prog) (t := 105) (e := 106) (z:=.slice none 0 0) (bytes:=24) Tryz.underlying105 (by kernel_rfl) rfl (by omega) (q.L.length + 1) (by omega) ((q.L.length:Int) + 1) (by omega)
 rw [hzw] at hm1
 have HZW:=Lib.hid hzw
 clear hzw
 refine callsIn_wide (n:=9) |>.1 ?_
 refine callsIn_of_wp_marks Tryz.func16 rfl trivial ?_ rfl
 simp only [Tryz.ntmps16, List.size_toArray,List.length_cons,List.length_nil,Nat.reduceAdd,Nat.reduceSub,Array.replicate_succ,Array.replicate_zero,List.push_toArray,List.append_toArray,List.nil_append,List.cons_append]
 refine wpIn_wide.2 ?_
 go_upto_region 1 with (fail)
 have kq:=Blk.fresh w0 #[.slice A1 q.L.length n1,.slice A2 q.R.length n2,.string (qT (2 * q.ch)),.string (qT (2 * q.mi)),.string (qT (2 * q.ga)),.string (qT (2 * q.re))] 32
 have qq:=below_new w0 (.cells #[.slice A1 q.L.length n1,.slice A2 q.R.length n2,.string (qT (2 * q.ch)),.string (qT (2 * q.mi)),.string (qT (2 * q.ga)),.string (qT (2 * q.re))] 32)
 have hsz:(w0.alloc (.cells #[.slice A1 q.L.length n1,.slice A2 q.R.length n2,.string (qT (2 * q.ch)),.string (qT (2 * q.mi)),.string (qT (2 * q.ga)),.string (qT (2 * q.re))] 32)).heap.size=w0.heap.size + 1:=by simp
 generalize (w0.alloc (.cells #[.slice A1 q.L.length n1,.slice A2 q.R.length n2,.string (qT (2 * q.ch)),.string (qT (2 * q.mi)),.string (qT (2 * q.ga)),.string (qT (2 * q.re))] 32))=W1 at *
 obtain ⟨bq,hbq⟩:∃ b,w0.heap.size=b:=⟨_,rfl⟩
 rw [hbq] at kq ⊢
 have KQ:=Lib.hid kq
 have BB:=Lib.hid qq
 have HS:Hid (w0.heap.size=bq∧W1.heap.size=bq + 1):=Lib.hid (by omega)
 have HQ1:=Lib.hid (HQ.out.below qq)
 have HE1:=Lib.hid (HE.out.below qq)
 have y0:=kq.at_ 0 _ rfl
 have y1:=kq.at_ 1 _ rfl
 have y2:=kq.at_ 2 _ rfl
 have y3:=kq.at_ 3 _ rfl
 have y4:=kq.at_ 4 _ rfl
 have y5:=kq.at_ 5 _ rfl
 have HCK:=Lib.hid (check_ok q OK.out _ _ W1 HE1.out HQ1.out)
 clear kq qq hsz hbq
 go_upto_region 4 with (first
  | (go_at_call 44; with_reducible refine HCK.out.mono ?_; rintro e W3 ⟨rfl,q3⟩)
  | fail "arm")
 have K3:=KQ.out.below q3
 have z0:=K3.at_ 0 _ rfl
 have z1:=K3.at_ 1 _ rfl
 have z2:=K3.at_ 2 _ rfl
 have z3:=K3.at_ 3 _ rfl
 have z4:=K3.at_ 4 _ rfl
 have z5:=K3.at_ 5 _ rfl
 have HRS:=Lib.hid (rests_any q OK.out _ _ W3 (HE1.out.below q3) (HQ1.out.below q3))
 have Q3:=Lib.hid q3
 clear y0 y1 y2 y3 y4 y5 HCK K3 q3
 go_upto_region 5 with (first
  | (go_at_call 48; with_reducible refine HRS.out.mono ?_; rintro e W4 ⟨ob,rb,rfl,hrb,htab,hlo,hlr,q4⟩)
  | fail "arm")
 clear z0 z1 z2 z3 z4 z5 HRS
 have q34:=Q3.out.trans (q4.mono Q3.out.size)
 have hsep:(bq < ob∧ob < W4.heap.size)∧∀ g ∈ rb,bq < g∧g < W4.heap.size:=by
  have h1:=htab.lt1
  have h2:=HS.out
  have h3:=Q3.out.size
  refine ⟨by omega,fun g hg=>?_⟩
  have h4:=hlr g hg
  have h5:=htab.lt2 g hg
  omega
 have kq4:=KQ.out.below q34
 have bb4:=BB.out.trans (q34.mono BB.out.size)
 have kwb:=Blk.fresh W4 zw 106
 have q5:=below_new W4 (.cells zw 106)
 have hs5:(W4.alloc (.cells zw 106)).heap.size=W4.heap.size + 1:=by simp
 go_upto_region 6 with (fail)
 have kwb6:=kwb
 generalize (W4.alloc (.cells zw 106))=W5 at *
 obtain ⟨wb,hwb⟩:∃ b,W4.heap.size=b:=⟨_,rfl⟩
 obtain ⟨bw,hbw⟩:∃ b,W4.heap.size + 1=b:=⟨_,rfl⟩
 have kw:=Blk.fresh W5 #[.slice (some ⟨wb,0,none⟩) (q.L.length + 1) (q.L.length + 1)] 105
 have q6:=below_new W5 (.cells #[.slice (some ⟨wb,0,none⟩) (q.L.length + 1) (q.L.length + 1)] 105)
 have hs6:(W5.alloc (.cells #[.slice (some ⟨wb,0,none⟩) (q.L.length + 1) (q.L.length + 1)] 105)).heap.size=W5.heap.size + 1:=by simp
 rw [hbw,hwb]
 rw [hs5,hbw] at kw
 rw [hwb] at kwb6 q5
 have kq6:=(kq4.below (hwb ▸ q5)).below q6
 have p46:Below W4.heap.size W4 _:=(hwb ▸ q5:Below W4.heap.size W4 W5).trans (q6.mono (by omega))
 have bb6:=bb4.trans (p46.mono bb4.size)
 have tab6:=htab.below p46
 have kwb7:=kwb6.below q6
 clear kwb kwb6 q5 q6 kq4 bb4
 generalize (W5.alloc (.cells #[.slice (some ⟨wb,0,none⟩) (q.L.length + 1) (q.L.length + 1)] 105))=W6 at *
 have y0:=kq6.at_ 0 _ rfl
 rw [← hrb] at kw
 have S7:Hid (StC w0 bq bw W6.heap.size ob wb rb.length rb (fun _=>0) q (.slice A1 q.L.length n1) (.slice A2 q.R.length n2) (q.L.length:Int) (fun _ _=>.string ⟨#[]⟩) [] (W6.alloc (.cells #[.int .i64 (q.L.length:Int)] 3))):=Lib.hid (by
  have p:=below_new W6 (.cells #[.int .i64 (q.L.length:Int)] 3)
  refine ⟨bb6.trans (p.mono bb6.size),kq6.below p,kw.below p,Blk.fresh W6 _ _,tab6.below p,TabS.nil ?_ _ _,trivial,⟨Nat.le_of_eq HS.out.1,hsep.1.1,by omega,by omega,by omega⟩,fun g hg=>by have:=hsep.2 g hg; omega,fun p h1 h2=>by omega⟩
  rw [hrb,HZW.out]
  exact kwb7.below p)
 have HRB:=Lib.hid hrb
 clear htab hlo hlr q4 q34 Q3 hsep KQ BB HQ1 HE1 hrb kw kq6 p46 bb6 tab6 kwb7 hwb hbw hs5 hs6
 go_upto_region 7 with (fail)
 clear y0 hm1
 generalize (W6.alloc (.cells #[.int .i64 (q.L.length:Int)] 3))=W7 at *
 generalize W6.heap.size=bi at *
 have hm2:=run_mkv (P:=Tryz.prog) (t := 106) (e := 40) (z:=.string ⟨#[]⟩) (bytes:=16) Tryz.underlying106 (by kernel_rfl) rfl (by omega) (q.R.length + 1) (by omega) ((q.R.length:Int) + 1) (by omega)
 refine wp_loop_ghost_k (fun k a' wr=>∃ (bi:Nat) (rw_:Nat→Nat) (ds:List Deferred) (x:Int),(∃ fv:Nat→Value,a'={ tmps:=(.agg #[.slice A1 q.L.length n1,.slice A2 q.R.length n2,.string (qT (2 * q.ch)),.string (qT (2 * q.mi)),.string (qT (2 * q.ga)),.string (qT (2 * q.re))] :: .pointer (some ⟨bq,0,none⟩) :: .string ⟨#[]⟩ :: .int .i64 0 :: .int .i64 0 :: .slice (some ⟨ob,0,none⟩) (q.L.length + 1) (q.L.length + 1) :: .pointer (some ⟨bw,0,none⟩) :: .pointer (some ⟨bi,0,none⟩) :: fv 8 :: fv 9 :: fv 10 :: fv 11 :: fv 12 :: fv 13 :: fv 14 :: fv 15 :: fv 16 :: fv 17 :: fv 18 :: fv 19 :: fv 20 :: fv 21 :: fv 22 :: fv 23 :: fv 24 :: fv 25 :: fv 26 :: fv 27 :: fv 28 :: fv 29 :: fv 30 :: fv 31 :: fv 32 :: fv 33 :: fv 34 :: fv 35 :: fv 36 :: fv 37 :: fv 38 :: fv 39 :: fv 40 :: fv 41 :: fv 42 :: fv 43 :: fv 44 :: fv 45 :: fv 46 :: fv 47 :: fv 48 :: fv 49 :: fv 50 :: fv 51 :: fv 52 :: fv 53 :: fv 54 :: fv 55 :: fv 56 :: fv 57 :: fv 58 :: fv 59 :: fv 60 :: fv 61 :: fv 62 :: fv 63 :: fv 64 :: fv 65 :: fv 66 :: fv 67 :: fv 68 :: fv 69 :: fv 70 :: fv 71 :: fv 72 :: fv 73 :: fv 74 :: fv 75 :: fv 76 :: fv 77 :: fv 78 :: fv 79 :: fv 80 :: fv 81 :: fv 82 :: fv 83 :: fv 84 :: fv 85 :: fv 86 :: fv 87 :: fv 88 :: fv 89 :: fv 90 :: fv 91 :: fv 92 :: fv 93 :: fv 94 :: fv 95 :: fv 96 :: fv 97 :: fv 98 :: fv 99 :: fv 100 :: fv 101 :: fv 102 :: fv 103 :: fv 104 :: fv 105 :: fv 106 :: fv 107 :: fv 108 :: fv 109 :: fv 110 :: fv 111 :: fv 112 :: fv 113 :: []).toArray,defers:=ds })∧k≤q.L.length + 1∧x + 1=(k:Int)∧StC w0 bq bw bi ob wb k rb rw_ q (.slice A1 q.L.length n1) (.slice A2 q.R.length n2) x (wayT q k 0) ds wr) (q.L.length + 1) ?_ ?_
 ·exact ⟨bi,_,[],_,ex_frame (by kernel_rfl),Nat.le_refl _,by omega,HRB.out ▸ (S7.out.tabC (fun p r h1 h2 _=>by omega))⟩
 clear S7
 clear bi
 rintro k a' wr ⟨bi,rw_,ds,x,⟨fv,rfl⟩,hk,hx,hS⟩ J K hJ hK
 have S:=Lib.hid hS
 have y0:=hS.ki.at_ 0 _ rfl
 have yq:=hS.kq.at_ 1 _ rfl
 clear hS
 by_cases hk0:k=0
 ·subst hk0
  obtain rfl:x = -1:=by omega
  clear hJ hK hm2
  have l0:0 < rb.length:=by rw [HRB.out]; omega
  have c0:=S.out.kw.at_ 0 _ rfl
  have c1:=S.out.ways.cell1 0 (Nat.le_refl _) l0
  have c2:wr.cell? ⟨rw_ 0,0,none⟩=some (.string (canon (cnt q 0 0:Nat))):=by
   have h:=S.out.ways.cell2 0 0 (Nat.le_refl _) l0 (by omega)
   unfold wayT at h
   rw [if_pos (by omega)] at h
   exact h
  have tl:(0:Int) < (rb.length:Int):=by omega
  have tr:(0:Int) < ((q.R.length + 1:Nat):Int):=by omega
  have hcb:=cnt_bdQ q OK.out 0 0 (Nat.zero_le _) (Nat.zero_le _)
  have hcs:=cway_size (cnt q 0 0) (by omega)
  have HCK:Hid (∀ w,Calls Tryz.prog 53 #[.string (canon (cnt q 0 0:Nat))] w fun e w'=>e=.returned (.int .i64 0)∧w=w'):=Lib.hid (fun w=>by
   have h:=check_any (canon (cnt q 0 0:Nat)) w (by omega)
   have hml:(mdig (cnt q 0 0:Nat)).length≤200:=by
    have e:(canon (cnt q 0 0:Nat)).size=(Lib.itoa (cnt q 0 0:Nat)).length:=by show (Lib.itoa (cnt q 0 0:Nat)).toArray.size=_; simp
    rcases itoa_cases (cnt q 0 0:Nat) with ⟨_,h2⟩ | ⟨h2,_⟩
    ·rw [h2] at e
     omega
    ·omega
   have hr:rightS (canon (cnt q 0 0:Nat)).data.toList=true:=(rightS_iff _).2 ⟨(cnt q 0 0:Nat),rfl,hml⟩
   rw [if_pos hr] at h
   exact h)
  clear hcb hcs
  obtain ⟨cc,hcc⟩:∃ cc,canon (cnt q 0 0:Nat)=cc:=⟨_,rfl⟩
  have HCC:=Lib.hid hcc
  rw [hcc] at c2 HCK
  clear hcc
  go_wp2_with (first
   | (go_at_call 53; with_reducible refine (HCK.out _).mono ?_; rintro e w1 ⟨rfl,rfl⟩)
   | fail "arm")
  refine leaves_marks ds _ S.out.mrk (fun w' hm=>⟨_,results_tmp2 rfl _ _ _,(by rw [HCC.out]; rfl),S.out.bb.trans hm.below⟩)
 ·obtain ⟨i,rfl⟩:∃ i,k=i + 1:=⟨k - 1,by omega⟩
  obtain rfl:x=(i:Int):=by omega
  have hi:i≤q.L.length:=by omega
  have hpos:(0:Int)≤(i:Int):=by omega
  clear hx hk0
  go_upto_region 9 with (fail)
  obtain ⟨zr,hzr⟩:∃ z,((List.range (q.R.length + 1)).map (fun _=>Value.string ⟨#[]⟩)).toArray=z:=⟨_,rfl⟩
  have hm3:=hm2
  rw [hzr] at hm3
  have HZR:=Lib.hid hzr
  have wpl:IntKind.i64.wrap ((q.R.length:Int) + 1)=(q.R.length:Int) + 1:=IntWalk.i64_in _ (by omega)
  have KW:=S.out.kw
  have KI:=Lib.hid S.out.ki
  have KQ:=Lib.hid S.out.kq
  obtain ⟨N,hN⟩:∃ N,rb.length=N:=⟨_,rfl⟩
  rw [hN] at KW
  replace KW:=Lib.hid KW
  have HN:=Lib.hid hN
  have t3:(i:Int) < (N:Int):=by have:=HRB.out; omega
  clear y0 yq hzr hN hm2
  rename_i Kr hKr
  have KEY:∀ (W:World) (A:Act) (rw_:Nat→Nat),(∃ fv:Nat→Value,A={ tmps:=(.agg #[.slice A1 q.L.length n1,.slice A2 q.R.length n2,.string (qT (2 * q.ch)),.string (qT (2 * q.mi)),.string (qT (2 * q.ga)),.string (qT (2 * q.re))] :: .pointer (some ⟨bq,0,none⟩) :: .string ⟨#[]⟩ :: .int .i64 0 :: .int .i64 0 :: .slice (some ⟨ob,0,none⟩) (q.L.length + 1) (q.L.length + 1) :: .pointer (some ⟨bw,0,none⟩) :: .pointer (some ⟨bi,0,none⟩) :: fv 8 :: fv 9 :: fv 10 :: fv 11 :: fv 12 :: fv 13 :: fv 14 :: fv 15 :: fv 16 :: fv 17 :: fv 18 :: fv 19 :: fv 20 :: fv 21 :: fv 22 :: fv 23 :: fv 24 :: fv 25 :: fv 26 :: fv 27 :: fv 28 :: fv 29 :: fv 30 :: fv 31 :: fv 32 :: fv 33 :: fv 34 :: fv 35 :: fv 36 :: fv 37 :: fv 38 :: fv 39 :: fv 40 :: fv 41 :: fv 42 :: fv 43 :: fv 44 :: fv 45 :: fv 46 :: fv 47 :: fv 48 :: fv 49 :: fv 50 :: fv 51 :: fv 52 :: fv 53 :: fv 54 :: fv 55 :: fv 56 :: fv 57 :: fv 58 :: fv 59 :: fv 60 :: fv 61 :: fv 62 :: fv 63 :: fv 64 :: fv 65 :: fv 66 :: fv 67 :: fv 68 :: fv 69 :: fv 70 :: fv 71 :: fv 72 :: fv 73 :: fv 74 :: fv 75 :: fv 76 :: fv 77 :: fv 78 :: fv 79 :: fv 80 :: fv 81 :: fv 82 :: fv 83 :: fv 84 :: fv 85 :: fv 86 :: fv 87 :: fv 88 :: fv 89 :: fv 90 :: fv 91 :: fv 92 :: fv 93 :: fv 94 :: fv 95 :: fv 96 :: fv 97 :: fv 98 :: fv 99 :: fv 100 :: fv 101 :: fv 102 :: fv 103 :: fv 104 :: fv 105 :: fv 106 :: fv 107 :: fv 108 :: fv 109 :: fv 110 :: fv 111 :: fv 112 :: fv 113 :: []).toArray,defers:=ds })→StC w0 bq bw bi ob wb i rb rw_ q (.slice A1 q.L.length n1) (.slice A2 q.R.length n2) (i:Int) (wayT q i (q.R.length + 1)) ds W→Kr A W:=by
   clear KW KI KQ S HZR hm3
   clear wr rw_ fv
   rintro W A rw_ ⟨fv,rfl⟩ hS
   refine hKr _ _ ?_
   clear hKr
   have S:=Lib.hid hS
   have yq:=hS.kq.at_ 1 _ rfl
   clear hS
   go_upto_region 11 with (fail)
   have q5:=below_new W (.cells #[.int .i64 (q.R.length:Int)] 3)
   have k5:=Blk.fresh W #[.int .i64 (q.R.length:Int)] 3
   have S5:=Lib.hid (S.out.below q5)
   have hbj:bw < W.heap.size:=S.out.kw.lt
   have hbi:=S.out.ki.lt
   have hne5:∀ p,i≤p→p < rb.length→rw_ p ≠ W.heap.size:=fun p h1 h2 e=>by have:=(S.out.ways.row p h1 h2).lt; omega
   clear yq q5 S
   generalize (W.alloc (.cells #[.int .i64 (q.R.length:Int)] 3))=W5 at *
   generalize W.heap.size=bj at *
   refine wp_loop_ghost_k (fun m a' W=>∃ (bj:Nat) (ds:List Deferred) (x:Int),(∃ fv:Nat→Value,a'={ tmps:=(.agg #[.slice A1 q.L.length n1,.slice A2 q.R.length n2,.string (qT (2 * q.ch)),.string (qT (2 * q.mi)),.string (qT (2 * q.ga)),.string (qT (2 * q.re))] :: .pointer (some ⟨bq,0,none⟩) :: .string ⟨#[]⟩ :: .int .i64 0 :: .int .i64 0 :: .slice (some ⟨ob,0,none⟩) (q.L.length + 1) (q.L.length + 1) :: .pointer (some ⟨bw,0,none⟩) :: .pointer (some ⟨bi,0,none⟩) :: .pointer (some ⟨bj,0,none⟩) :: fv 9 :: fv 10 :: fv 11 :: fv 12 :: fv 13 :: fv 14 :: fv 15 :: fv 16 :: fv 17 :: fv 18 :: fv 19 :: fv 20 :: fv 21 :: fv 22 :: fv 23 :: fv 24 :: fv 25 :: fv 26 :: fv 27 :: fv 28 :: fv 29 :: fv 30 :: fv 31 :: fv 32 :: fv 33 :: fv 34 :: fv 35 :: fv 36 :: fv 37 :: fv 38 :: fv 39 :: fv 40 :: fv 41 :: fv 42 :: fv 43 :: fv 44 :: fv 45 :: fv 46 :: fv 47 :: fv 48 :: fv 49 :: fv 50 :: fv 51 :: fv 52 :: fv 53 :: fv 54 :: fv 55 :: fv 56 :: fv 57 :: fv 58 :: fv 59 :: fv 60 :: fv 61 :: fv 62 :: fv 63 :: fv 64 :: fv 65 :: fv 66 :: fv 67 :: fv 68 :: fv 69 :: fv 70 :: fv 71 :: fv 72 :: fv 73 :: fv 74 :: fv 75 :: fv 76 :: fv 77 :: fv 78 :: fv 79 :: fv 80 :: fv 81 :: fv 82 :: fv 83 :: fv 84 :: fv 85 :: fv 86 :: fv 87 :: fv 88 :: fv 89 :: fv 90 :: fv 91 :: fv 92 :: fv 93 :: fv 94 :: fv 95 :: fv 96 :: fv 97 :: fv 98 :: fv 99 :: fv 100 :: fv 101 :: fv 102 :: fv 103 :: fv 104 :: fv 105 :: fv 106 :: fv 107 :: fv 108 :: fv 109 :: fv 110 :: fv 111 :: fv 112 :: fv 113 :: []).toArray,defers:=ds })∧m≤q.R.length + 1∧x + 1=(m:Int)∧StC w0 bq bw bi ob wb i rb rw_ q (.slice A1 q.L.length n1) (.slice A2 q.R.length n2) (i:Int) (wayT q i m) ds W∧Blk W bj #[.int .i64 x] 3 ∧ bw < bj∧bj ≠ bi∧∀ p,i≤p→p < rb.length→rw_ p ≠ bj) (q.R.length + 1) ?_ ?_
   ·exact ⟨bj,ds,_,ex_frame (by kernel_rfl),Nat.le_refl _,by omega,S5.out,k5,hbj,by omega,hne5⟩
   clear S5 k5 hbj hbi hne5
   clear bj ds fv
   rintro m a' W ⟨bj,ds,x,⟨fv,rfl⟩,hm,hx,hS,hkj,hbj,hne,hne2⟩ J2 K2 hJ2 hK2
   have S:=Lib.hid hS
   have KJ:=Lib.hid hkj
   have NE2:=Lib.hid hne2
   have y0:=hS.ki.at_ 0 _ rfl
   have yj:=hkj.at_ 0 _ rfl
   clear hS hkj hne2
   by_cases hm0:m=0
   ·subst hm0
    obtain rfl:x = -1:=by omega
    clear hJ2 hK2
    have w1:IntKind.i64.wrap ((i:Int) - 1)=(i:Int) - 1:=IntWalk.i64_in _ (by omega)
    go_wp2
    have q8:=below_new W (.cells #[.int .i64 ((i:Int) - 1)] 3)
    exact ⟨i,by omega,hJ _ _ _ ⟨W.heap.size,rw_,ds,(i:Int) - 1,ex_frame (by kernel_rfl),by omega,by omega,(S.out.below q8).newI S.out.kw.lt (Blk.fresh W _ _)⟩⟩
   ·obtain ⟨j,rfl⟩:∃ j,m=j + 1:=⟨m - 1,by omega⟩
    obtain rfl:x=(j:Int):=by omega
    have hj:j≤q.R.length:=by omega
    have hpj:(0:Int)≤(j:Int):=by omega
    clear hx hm0
    go_upto_region 13 with (fail)
    rename_i Kr2 hKr2
    have KEY2:∀ (W:World) (A:Act),(∃ fv:Nat→Value,A={ tmps:=(.agg #[.slice A1 q.L.length n1,.slice A2 q.R.length n2,.string (qT (2 * q.ch)),.string (qT (2 * q.mi)),.string (qT (2 * q.ga)),.string (qT (2 * q.re))] :: .pointer (some ⟨bq,0,none⟩) :: .string ⟨#[]⟩ :: .int .i64 0 :: .int .i64 0 :: .slice (some ⟨ob,0,none⟩) (q.L.length + 1) (q.L.length + 1) :: .pointer (some ⟨bw,0,none⟩) :: .pointer (some ⟨bi,0,none⟩) :: .pointer (some ⟨bj,0,none⟩) :: fv 9 :: fv 10 :: fv 11 :: fv 12 :: fv 13 :: fv 14 :: fv 15 :: fv 16 :: fv 17 :: fv 18 :: fv 19 :: fv 20 :: fv 21 :: fv 22 :: fv 23 :: fv 24 :: fv 25 :: fv 26 :: fv 27 :: fv 28 :: fv 29 :: fv 30 :: fv 31 :: fv 32 :: fv 33 :: fv 34 :: fv 35 :: fv 36 :: fv 37 :: fv 38 :: fv 39 :: fv 40 :: fv 41 :: fv 42 :: fv 43 :: fv 44 :: fv 45 :: fv 46 :: fv 47 :: fv 48 :: fv 49 :: fv 50 :: fv 51 :: fv 52 :: fv 53 :: fv 54 :: fv 55 :: fv 56 :: fv 57 :: fv 58 :: fv 59 :: fv 60 :: fv 61 :: fv 62 :: fv 63 :: fv 64 :: fv 65 :: fv 66 :: fv 67 :: fv 68 :: fv 69 :: fv 70 :: fv 71 :: fv 72 :: fv 73 :: fv 74 :: fv 75 :: fv 76 :: fv 77 :: fv 78 :: fv 79 :: fv 80 :: fv 81 :: fv 82 :: fv 83 :: fv 84 :: fv 85 :: fv 86 :: fv 87 :: fv 88 :: fv 89 :: fv 90 :: fv 91 :: fv 92 :: fv 93 :: fv 94 :: fv 95 :: fv 96 :: fv 97 :: fv 98 :: fv 99 :: fv 100 :: fv 101 :: fv 102 :: fv 103 :: fv 104 :: fv 105 :: fv 106 :: fv 107 :: fv 108 :: fv 109 :: fv 110 :: fv 111 :: fv 112 :: fv 113 :: []).toArray,defers:=ds })→StC w0 bq bw bi ob wb i rb rw_ q (.slice A1 q.L.length n1) (.slice A2 q.R.length n2) (i:Int) (entW q i j 0) ds W→Blk W bj #[.int .i64 j] 3 → Kr2 A W:=by
     clear y0 yj S KJ
     clear W fv
     rintro W A ⟨fv,rfl⟩ hS hkj
     refine hKr2 _ _ ?_
     clear hKr2
     have y0:=hS.ki.at_ 0 _ rfl
     have yj:=hkj.at_ 0 _ rfl
     have yq0:=hS.kq.at_ 0 _ rfl
     have yq1:=hS.kq.at_ 1 _ rfl
     have S:=Lib.hid hS
     have KJ:=Lib.hid hkj
     clear hS hkj
     go_upto_region 14 with (fail)
     rename_i Kr3 hKr3 Kc hKc
     have KEY3:∀ (W:World) (A:Act),(∃ fv:Nat→Value,A={ tmps:=(.agg #[.slice A1 q.L.length n1,.slice A2 q.R.length n2,.string (qT (2 * q.ch)),.string (qT (2 * q.mi)),.string (qT (2 * q.ga)),.string (qT (2 * q.re))] :: .pointer (some ⟨bq,0,none⟩) :: .string ⟨#[]⟩ :: .int .i64 0 :: .int .i64 0 :: .slice (some ⟨ob,0,none⟩) (q.L.length + 1) (q.L.length + 1) :: .pointer (some ⟨bw,0,none⟩) :: .pointer (some ⟨bi,0,none⟩) :: .pointer (some ⟨bj,0,none⟩) :: fv 9 :: fv 10 :: fv 11 :: fv 12 :: fv 13 :: fv 14 :: fv 15 :: fv 16 :: fv 17 :: fv 18 :: fv 19 :: fv 20 :: fv 21 :: fv 22 :: fv 23 :: fv 24 :: fv 25 :: fv 26 :: fv 27 :: fv 28 :: fv 29 :: fv 30 :: fv 31 :: fv 32 :: fv 33 :: fv 34 :: fv 35 :: fv 36 :: fv 37 :: fv 38 :: fv 39 :: fv 40 :: fv 41 :: fv 42 :: fv 43 :: fv 44 :: fv 45 :: fv 46 :: fv 47 :: fv 48 :: fv 49 :: fv 50 :: fv 51 :: fv 52 :: fv 53 :: fv 54 :: fv 55 :: fv 56 :: fv 57 :: fv 58 :: fv 59 :: fv 60 :: fv 61 :: fv 62 :: fv 63 :: fv 64 :: fv 65 :: fv 66 :: fv 67 :: fv 68 :: fv 69 :: fv 70 :: fv 71 :: fv 72 :: fv 73 :: fv 74 :: fv 75 :: fv 76 :: fv 77 :: fv 78 :: fv 79 :: fv 80 :: fv 81 :: fv 82 :: fv 83 :: fv 84 :: fv 85 :: fv 86 :: fv 87 :: fv 88 :: fv 89 :: fv 90 :: fv 91 :: fv 92 :: fv 93 :: fv 94 :: fv 95 :: fv 96 :: fv 97 :: fv 98 :: fv 99 :: fv 100 :: fv 101 :: fv 102 :: fv 103 :: fv 104 :: fv 105 :: fv 106 :: fv 107 :: fv 108 :: fv 109 :: fv 110 :: fv 111 :: fv 112 :: fv 113 :: []).toArray,defers:=ds })→StC w0 bq bw bi ob wb i rb rw_ q (.slice A1 q.L.length n1) (.slice A2 q.R.length n2) (i:Int) (entW q i j (cntS q i j [])) ds W→Blk W bj #[.int .i64 j] 3 → Kr3 A W:=by
      clear y0 yj yq0 yq1 S KJ hKc
      clear W fv
      rintro W A ⟨fv,rfl⟩ hS hkj
      refine hKr3 _ _ ?_
      clear hKr3
      have y0:=hS.ki.at_ 0 _ rfl
      have yj:=hkj.at_ 0 _ rfl
      have a0:=hS.kq.at_ 0 _ rfl
      have a1:=hS.kq.at_ 1 _ rfl
      have a2:=hS.kq.at_ 2 _ rfl
      have a3:=hS.kq.at_ 3 _ rfl
      have a4:=hS.kq.at_ 4 _ rfl
      have a5:=hS.kq.at_ 5 _ rfl
      have S:=Lib.hid hS
      have KJ:=Lib.hid hkj
      clear hS hkj
      go_wp2_with (first
       | (go_at_call 50; refine (good_make q _ _ _ _ _ i j _).mono ?_; rintro e W2 ⟨rfl,qb,hsz2,k1,k2,k3,k4⟩)
       | fail "arm")
      clear y0 yj a0 a1 a2 a3 a4 a5
      have hS2:=S.out.below qb
      have hj2:=KJ.out.below qb
      have l1:i < rb.length:=by rw [HRB.out]; omega
      have hltr:=(S.out.ways.row i (Nat.le_refl _) l1).lt
      have hs1:=S.out.s1
      have hs3:=S.out.s3
      have hs4:=S.out.s4 i (Nat.le_refl _) l1
      have hs0:=S.out.bb.size
      have hri:=NE2.out i (Nat.le_refl _) l1
      clear S KJ qb
      obtain ⟨bx,hbx⟩:∃ b,W.heap.size=b:=⟨_,rfl⟩
      rw [hbx] at k1 k2 k3 k4 hsz2 hltr hs0
      simp only [hbx]
      clear hbx
      have hW2s:w0.heap.size≤W2.heap.size:=hS2.bb.size
      rw [show q.L.length + 1=rb.length from HRB.out.symm] at k2
      have hStG:StG w0 bx (bx + 1) (bx + 2) (bx + 3) ob rb q (.slice A1 q.L.length n1) (.slice A2 q.R.length n2) i j W2:=⟨KeptC.of_bb hS2.bb,hs0,k1,k2,k3,k4,hS2.tab⟩
      have hM:FarM w0 (fun g _=>g=rw_ i) ([bx,bx + 1,bx + 2,bx + 3,ob] ++ rb) [32, 99, 3, 71, 28]:=by
       refine ⟨fun g t h=>by omega,fun g hg t ht h=>?_⟩
       rcases List.mem_append.1 hg with hg | hg
       ·simp only [List.mem_cons,List.not_mem_nil,or_false] at hg
        omega
       ·have:=hs3 g hg
        omega
      have hMn:∀ g t,W2.heap.size≤g→t ∈ ([32, 3, 138]:List TypeId)→¬ (g=rw_ i):=fun g t hg ht h=>by omega
      have hI:OwnFrom W2.heap.size (fun (l:List (SK q i j)) V=>(StC w0 bq bw bi ob wb i rb rw_ q (.slice A1 q.L.length n1) (.slice A2 q.R.length n2) (i:Int) (entW q i j (cntS q i j l)) ds V∧KeepsLow W2.heap.size W2 V)∧Blk V bj #[.int .i64 j] 3):=fun s A B row h hg hr =>
       ⟨StC.own rfl hW2s hS2.mrk (fun l=>entW q i j (cntS q i j l)) s A B row h.1 hg hr,ownFrom_cells (I:=fun (_:Unit) X=>Blk X bj #[.int .i64 j] 3) (fun _ X X' h k _=>h.keptC k trivial) _ () A B row h.2 hg hr⟩
      refine wide_loop (n:=9) (gf := 79) (lb:=#[.pointer (some ⟨bx,0,none⟩),.pointer (some ⟨bx + 2,0,none⟩),.pointer (some ⟨bx + 3,0,none⟩),.pointer (some ⟨bx + 1,0,none⟩)]) rfl (enters_of Tryz.func79 (by kernel_rfl) rfl)
       (good_stops (9 - 1) q OK.out _ _ i j hi hj w0 HE.out HQ.out bx (bx + 1) (bx + 2) (bx + 3) ob rb HRB.out (fun a b ha hb=>by have:=rst_bdQ q OK.out a b ha hb; omega) (fun g _=>g=rw_ i) hM W2 hMn hStG) (fun h k=>KeptC.trans h k) (fun V o o' h ho=>KeptC.put _ h ho) (fun _=>rfl)
       (fun l V=>(StC w0 bq bw bi ob wb i rb rw_ q (.slice A1 q.L.length n1) (.slice A2 q.R.length n2) (i:Int) (entW q i j (cntS q i j l)) ds V∧KeepsLow W2.heap.size W2 V)∧Blk V bj #[.int .i64 j] 3)
       (fun _ _ _=>False) hI (fun c s A B row h hg hr=>h) ⟨⟨hS2,KeepsLow.refl _ _⟩,hj2⟩
       (fun l x a' V=>∃ (bs:Nat),((StC w0 bq bw bi ob wb i rb rw_ q (.slice A1 q.L.length n1) (.slice A2 q.R.length n2) (i:Int) (entW q i j (cntS q i j l)) ds V∧KeepsLow W2.heap.size W2 V)∧Blk V bj #[.int .i64 j] 3)∧Blk V bs #[.int .i64 x.k,.int .i64 i,.int .i64 j] 56 ∧ ∃ fv:Nat→Value,a'={ tmps:=(.agg #[.slice A1 q.L.length n1,.slice A2 q.R.length n2,.string (qT (2 * q.ch)),.string (qT (2 * q.mi)),.string (qT (2 * q.ga)),.string (qT (2 * q.re))] :: .pointer (some ⟨bq,0,none⟩) :: .string ⟨#[]⟩ :: .int .i64 0 :: .int .i64 0 :: .slice (some ⟨ob,0,none⟩) (q.L.length + 1) (q.L.length + 1) :: .pointer (some ⟨bw,0,none⟩) :: .pointer (some ⟨bi,0,none⟩) :: .pointer (some ⟨bj,0,none⟩) :: .pointer (some ⟨bs,0,none⟩) :: fv 10 :: fv 11 :: fv 12 :: fv 13 :: fv 14 :: fv 15 :: fv 16 :: fv 17 :: fv 18 :: fv 19 :: fv 20 :: fv 21 :: fv 22 :: fv 23 :: fv 24 :: fv 25 :: fv 26 :: fv 27 :: fv 28 :: fv 29 :: fv 30 :: fv 31 :: fv 32 :: fv 33 :: fv 34 :: fv 35 :: fv 36 :: fv 37 :: fv 38 :: fv 39 :: fv 40 :: fv 41 :: fv 42 :: fv 43 :: fv 44 :: fv 45 :: fv 46 :: fv 47 :: fv 48 :: fv 49 :: fv 50 :: fv 51 :: fv 52 :: fv 53 :: fv 54 :: fv 55 :: fv 56 :: fv 57 :: fv 58 :: fv 59 :: fv 60 :: fv 61 :: fv 62 :: fv 63 :: fv 64 :: fv 65 :: fv 66 :: fv 67 :: fv 68 :: fv 69 :: fv 70 :: fv 71 :: fv 72 :: fv 73 :: fv 74 :: fv 75 :: fv 76 :: fv 77 :: fv 78 :: fv 79 :: fv 80 :: fv 81 :: fv 82 :: fv 83 :: fv 84 :: fv 85 :: fv 86 :: fv 87 :: fv 88 :: fv 89 :: fv 90 :: fv 91 :: fv 92 :: fv 93 :: fv 94 :: fv 95 :: fv 96 :: fv 97 :: fv 98 :: fv 99 :: fv 100 :: fv 101 :: fv 102 :: fv 103 :: fv 104 :: fv 105 :: fv 106 :: fv 107 :: fv 108 :: fv 109 :: fv 110 :: fv 111 :: fv 112 :: fv 113 :: []).toArray,defers:=[] })
       (fun l x a' s A B row h hg hr=>by
        obtain ⟨bs,h1,h2,h3⟩:=h
        exact ⟨bs,hI _ A B row h1 hg hr,ownFrom_cells (I:=fun (_:Unit) V=>Blk V bs #[.int .i64 x.k,.int .i64 i,.int .i64 j] 56) (fun _ V V' h k _=>h.keptC k trivial) _ () A B row h2 hg hr,h3⟩)
       ?assign ?body ?done ?stop
      case assign =>
       rintro l2 l x V K ⟨⟨h1,h2⟩,h3⟩ hK
       have qv:=below_new V (.cells #[.int .i64 x.k,.int .i64 i,.int .i64 j] 56)
       have kv:=Blk.fresh V #[.int .i64 x.k,.int .i64 i,.int .i64 j] 56
       dsimp only [encG]
       gi_wp2
       exact hK _ _ (keepsFrom_below qv) (KeptC.below qv) ⟨V.heap.size,⟨⟨h1.below qv,h2.trans (KeepsLow.of (keepsFrom_below qv))⟩,h3.below qv⟩,kv,ex_frame (by kernel_rfl)⟩
      case body =>
       rintro l2 l x a' V ⟨bs,⟨⟨h1,h2⟩,h3⟩,hb,fv,rfl⟩ hlen
       have HNX:Hid (Ret Tryz.prog V 51 #[.agg #[.int .i64 x.k,.int .i64 i,.int .i64 j]] (.tuple #[.int .i64 (nxI x.k i:Nat),.int .i64 (nxJ x.k j:Nat)])):=Lib.hid (by
        have h:=cnext_any x.k i j (by omega) (by omega) V
        rw [nzI_nat,nzJ_nat x.k j x.h1] at h
        exact h)
       have d0:=hb.at_ 0 _ rfl
       have d1:=hb.at_ 1 _ rfl
       have d2:=hb.at_ 2 _ rfl
       have H1:=Lib.hid h1
       have H2:=Lib.hid h2
       have H3:=Lib.hid h3
       clear h1 h2 h3 hI hS2 hj2 hStG hM hMn
       gi_wp2_with (first
        | ((first | refine ⟨trivial,fun h=>(by cases h),?_⟩ | refine ⟨trivial,?_⟩); with_reducible refine (CallsIn.inRound l2 (callsIn_wide.2 (HNX.out _ (Below.refl _ _)))).mono ?_; rintro e V1 ⟨rfl,qv⟩)
        | fail "arm")
       have h1:=H1.out.below qv
       have h2:=H2.out.trans (KeepsLow.of (keepsFrom_below qv))
       have h3:=H3.out.below qv
       have QV:=Lib.hid qv
       have hks:=x.h2
       have hmi:nxI x.k i≤q.L.length:=hks.1
       have hmj:nxJ x.k j≤q.R.length:=hks.2.1
       have hmore:=nx_more (i:=i) (j:=j) (kinds_of x.h1)
       have l3:nxI x.k i < rb.length:=by rw [HRB.out]; omega
       have t1:(nxI x.k i:Int) < (rb.length:Int):=by omega
       have t2:(nxJ x.k j:Int) < ((q.R.length + 1:Nat):Int):=by omega
       have C1:=Lib.hid (h1.ways.cell1 i (Nat.le_refl _) l1)
       have C2:=Lib.hid (h1.ways.cell1 (nxI x.k i) (by omega) l3)
       have hc3:=h1.ways.cell2 i j (Nat.le_refl _) l1 (by omega)
       have hc4:=h1.ways.cell2 (nxI x.k i) (nxJ x.k j) (by omega) l3 (by omega)
       rw [show entW q i j (cntS q i j l) i j=.string (canon (cntS q i j l:Nat)) from by unfold entW; rw [if_pos ⟨rfl,rfl⟩]] at hc3
       rw [show entW q i j (cntS q i j l) (nxI x.k i) (nxJ x.k j)=.string (canon (cnt q (nxI x.k i) (nxJ x.k j):Nat)) from by
        unfold entW
        rw [if_neg (by omega)]
        unfold wayT
        rw [if_pos (by omega)]] at hc4
       have C3:=Lib.hid hc3
       have C4:=Lib.hid hc4
       have LC1:=Lib.hid h1.ways.out.lt
       have LC3:=Lib.hid (h1.ways.row i (Nat.le_refl _) l1).lt
       have LC4:=Lib.hid (h1.ways.row (nxI x.k i) (by omega) l3).lt
       have hb1:=cntS_bd q OK.out i j l
       have hb2:=cnt_bdQ q OK.out (nxI x.k i) (nxJ x.k j) hmi hmj
       have hz1:=cway_size (cntS q i j l) (by omega)
       have hz2:=cway_size (cnt q (nxI x.k i) (nxJ x.k j)) (by omega)
       have HE1:=HE.out.below h1.bb
       have HADD:Hid (Ret Tryz.prog V1 52 #[.string (canon (cntS q i j l:Nat)),.string (canon (cnt q (nxI x.k i) (nxJ x.k j):Nat))] (.string (canon ((cntS q i j (l ++ [x]):Nat):Int)))):=Lib.hid (fun W' hW'=>by
        have h:=add_any (cntS q i j l:Nat) (cnt q (nxI x.k i) (nxJ x.k j):Nat) W' (HE1.below hW').1 (by omega) (by omega)
        rw [← Int.natCast_add,← cntS_snoc] at h
        exact h)
       have HSET:Hid (∀ V',Below V1.heap.size V1 V'→(StC w0 bq bw bi ob wb i rb rw_ q (.slice A1 q.L.length n1) (.slice A2 q.R.length n2) (i:Int) (entW q i j (cntS q i j (l ++ [x]))) ds (V'.setCell ⟨rw_ i,j,none⟩ (.string (canon ((cntS q i j (l ++ [x]):Nat):Int))))∧Wrote (rw_ i) V' (V'.setCell ⟨rw_ i,j,none⟩ (.string (canon ((cntS q i j (l ++ [x]):Nat):Int)))))∧V'.frozen? ⟨rw_ i,j,none⟩=false∧∃ v,V'.cell? ⟨rw_ i,j,none⟩=some v):=Lib.hid (fun V' hV'=>by
        have s:=h1.below hV'
        obtain ⟨t,k⟩:=s.ways.set i j (Nat.le_refl _) l1 (.string (canon ((cntS q i j (l ++ [x]):Nat):Int)))
        exact ⟨⟨s.wrote hs4.1 hs4.2 k (t.congr (fun p r _ _ _=>by rw [entW_upd])),k⟩,s.ways.free i j (Nat.le_refl _) l1,_,s.ways.cell2 i j (Nat.le_refl _) l1 (by omega)⟩)
       have L1:=Lib.hid h2
       have J1:=Lib.hid h3
       have KW:=h1.kw
       have KI:=Lib.hid h1.ki
       have KJ:=Lib.hid h3
       have t3:(i:Int) < (rb.length:Int):=by omega
       have t4:(j:Int) < ((q.R.length + 1:Nat):Int):=by omega
       clear h1 h2 h3 H1 H2 H3 qv hc3 hc4 hb1 hb2 hz1 hz2 hks hb d0 d1 d2 HNX HE1 hmore
       generalize canon ((cntS q i j (l ++ [x]):Nat):Int)=cs at *
       generalize canon (cntS q i j l:Nat)=ca at *
       generalize canon (cnt q (nxI x.k i) (nxJ x.k j):Nat)=cb at *
       generalize rw_ (nxI x.k i)=r2 at *
       generalize hri1:rw_ i=r1 at *
       clear l3
       generalize nxI x.k i=mi at *
       generalize nxJ x.k j=mj at *
       obtain ⟨N,hN⟩:∃ N,rb.length=N:=⟨_,rfl⟩
       obtain ⟨M1,hM1⟩:∃ M1,q.R.length + 1=M1:=⟨_,rfl⟩
       rw [hN] at KW t1 t3
       rw [hM1] at t2 t4
       have C12:Hid (V1.cell? ⟨wb,i,none⟩=some (.slice (some ⟨r1,0,none⟩) M1 M1)):=Lib.hid (by rw [← hM1]; exact C1.out)
       have C22:Hid (V1.cell? ⟨wb,mi,none⟩=some (.slice (some ⟨r2,0,none⟩) M1 M1)):=Lib.hid (by rw [← hM1]; exact C2.out)
       replace C1:=C12
       replace C2:=C22
       replace KW:=Lib.hid KW
       clear hN hM1 C12 C22
       refine wpIn_phase (.inr ⟨l2,rfl⟩) 26 21 (.v 79 (.slice (some ⟨wb,0,none⟩) N N) :: .v 80 (.int .i64 i) :: .v 81 (.pointer (some ⟨wb,i,none⟩)) :: .v 82 (.slice (some ⟨r1,0,none⟩) M1 M1) :: .v 83 (.int .i64 j) :: .v 84 (.slice (some ⟨wb,0,none⟩) N N) :: .v 85 (.int .i64 i) :: .v 86 (.pointer (some ⟨wb,i,none⟩)) :: .v 87 (.slice (some ⟨r1,0,none⟩) M1 M1) :: .v 88 (.int .i64 j) :: .v 89 (.pointer (some ⟨r1,j,none⟩)) :: .v 90 (.string ca) :: .v 91 (.slice (some ⟨wb,0,none⟩) N N) :: .v 92 (.int .i64 mi) :: .v 93 (.pointer (some ⟨wb,mi,none⟩)) :: .v 94 (.slice (some ⟨r2,0,none⟩) M1 M1) :: .v 95 (.int .i64 mj) :: .v 96 (.pointer (some ⟨r2,mj,none⟩)) :: .v 97 (.string cb) :: .v 98 (.string cs) :: .v 99 (.pointer (some ⟨r1,j,none⟩)) :: []) [] [⟨bw,#[.slice (some ⟨wb,0,none⟩) N N], 105, none⟩,⟨bi,#[.int .i64 i], 3, none⟩,⟨bj,#[.int .i64 j], 3, none⟩] [] [] [] [] [] (by kernel_rfl) (by intro hL; obtain ⟨_,_,hL⟩:=hL; exact hL.elim) (Below.refl _ _) ⟨KW.out,KI.out,KJ.out,trivial⟩ trivial ⟨ld 0 0,ld 1 0,?_,?_,ld 2 0,ld 0 0,ld 1 0,?_,?_,ld 2 0,?_,?_,ld 0 0,pu,?_,?_,pu,?_,?_,cl HADD.out,?_,trivial⟩ ?_
       ·intro L a U ho J hn dd KK kk; refine .free rfl ?_; have r79:=J.read 0 rfl (dd.get 0 rfl); have r80:=J.read 1 rfl (dd.get 1 rfl); go_simp; exact kk.out _ _ (J.st 2 rfl rfl)
       ·intro L a U ho J hn dd KK kk; refine .free rfl ?_; have r81:=J.read 2 rfl (dd.get 2 rfl); have e0:=(J.bb.cell (p:=⟨wb,i,none⟩) LC1.out).trans C1.out; go_simp; exact kk.out _ _ (J.st 3 rfl rfl)
       ·intro L a U ho J hn dd KK kk; refine .free rfl ?_; have r84:=J.read 5 rfl (dd.get 5 rfl); have r85:=J.read 6 rfl (dd.get 6 rfl); go_simp; exact kk.out _ _ (J.st 7 rfl rfl)
       ·intro L a U ho J hn dd KK kk; refine .free rfl ?_; have r86:=J.read 7 rfl (dd.get 7 rfl); have e0:=(J.bb.cell (p:=⟨wb,i,none⟩) LC1.out).trans C1.out; go_simp; exact kk.out _ _ (J.st 8 rfl rfl)
       ·intro L a U ho J hn dd KK kk; refine .free rfl ?_; have r87:=J.read 8 rfl (dd.get 8 rfl); have r88:=J.read 9 rfl (dd.get 9 rfl); go_simp; exact kk.out _ _ (J.st 10 rfl rfl)
       ·intro L a U ho J hn dd KK kk; refine .free rfl ?_; have r89:=J.read 10 rfl (dd.get 10 rfl); have e0:=(J.bb.cell (p:=⟨r1,j,none⟩) LC3.out).trans C3.out; go_simp; exact kk.out _ _ (J.st 11 rfl rfl)
       ·intro L a U ho J hn dd KK kk; refine .free rfl ?_; have r91:=J.read 12 rfl (dd.get 12 rfl); have r92:=J.read 13 rfl (dd.get 13 rfl); go_simp; exact kk.out _ _ (J.st 14 rfl rfl)
       ·intro L a U ho J hn dd KK kk; refine .free rfl ?_; have r93:=J.read 14 rfl (dd.get 14 rfl); have e0:=(J.bb.cell (p:=⟨wb,mi,none⟩) LC1.out).trans C2.out; go_simp; exact kk.out _ _ (J.st 15 rfl rfl)
       ·intro L a U ho J hn dd KK kk; refine .free rfl ?_; have r94:=J.read 15 rfl (dd.get 15 rfl); have r95:=J.read 16 rfl (dd.get 16 rfl); go_simp; exact kk.out _ _ (J.st 17 rfl rfl)
       ·intro L a U ho J hn dd KK kk; refine .free rfl ?_; have r96:=J.read 17 rfl (dd.get 17 rfl); have e0:=(J.bb.cell (p:=⟨r2,mj,none⟩) LC4.out).trans C4.out; go_simp; exact kk.out _ _ (J.st 18 rfl rfl)
       ·intro L a U ho J hn dd KK kk; refine .free rfl ?_; have r82:=J.read 3 rfl (dd.get 3 rfl); have r83:=J.read 4 rfl (dd.get 4 rfl); go_simp; exact kk.out _ _ (J.st 20 rfl rfl)
       rintro σ V9 _ _ _ _ B9
       simp only [slotsOf,finX,nval,nvalN,nvalA,Nat.reduceBEq,cond_true,cond_false,putAll,Act.put,List.setIfInBounds_toArray,List.set_cons_succ,List.set_cons_zero]
       simp only [List.drop_succ_cons,List.drop_zero]
       obtain ⟨⟨s1,s2⟩,f1,u,f2⟩:=HSET.out V9 B9.out
       have HS1:=Lib.hid s1
       have HS2:=Lib.hid s2
       clear s1 s2 HSET
       gi_wp2
       have kk:KeepsFrom 0 V _:=((keepsFrom_below QV.out).trans (keepsFrom_below B9.out)).trans HS2.out.keeps
       have kc:KeptC (fun g _=>g ≠ r1) V _:=((KeptC.below QV.out).trans (KeptC.below B9.out)).trans HS2.out.kept
       exact ⟨KeepsFrom.mono kk (Nat.zero_le _),(by rw [hri1]; exact kc),⟨HS1.out,L1.out.trans ((KeepsLow.of (keepsFrom_below B9.out)).trans (KeepsLow.of HS2.out.keeps))⟩,(J1.out.below B9.out).keptC HS2.out.kept (Ne.symm hri)⟩
      case done =>
       rintro D ys V hD rfl ⟨⟨h1,h2⟩,h3⟩ hK
       have S9:Hid (StC w0 bq bw bi ob wb i rb rw_ q (.slice A1 q.L.length n1) (.slice A2 q.R.length n2) (i:Int) (wayT q i j) ({ target:=.collected D,args:=#[] } :: ds) V):=Lib.hid ((h1.tabC (fun p r _ _ _=>by rw [cntS_all]; exact entW_done q i j p r)).marks (Marks.add hS2.mrk h1.mrk (by omega) hD hK))
       have KJ:=Lib.hid h3
       have y0:=h1.ki.at_ 0 _ rfl
       have yj:=h3.at_ 0 _ rfl
       have w1:IntKind.i64.wrap ((j:Int) - 1)=(j:Int) - 1:=IntWalk.i64_in _ (by omega)
       clear hI hS2 hj2 h1 h2 h3 hK hStG hM hMn
       go_wp2
       have q9:=below_new V (.cells #[.int .i64 ((j:Int) - 1)] 3)
       have hbi:=S9.out.ki.lt
       have hbo:=S9.out.kw.lt
       exact ⟨j,by omega,hJ2 _ _ _ ⟨V.heap.size,_,(j:Int) - 1,ex_frame (by kernel_rfl),by omega,by omega,S9.out.below q9,Blk.fresh V _ _,hbo,by omega,fun p h1 h2 e=>by have:=(S9.out.ways.row p h1 h2).lt; omega⟩⟩
      case stop =>
       rintro D c pre V hD hpre h hK
       exact h.elim
     clear hKr3
     by_cases hin:i=q.L.length
     ·have t1:((i:Int) == (q.L.length:Int))=true:=by rw [hin]; exact beq_self_eq_true _
      by_cases hjm:j=q.R.length
      ·have t2:((j:Int) == (q.R.length:Int))=true:=by rw [hjm]; exact beq_self_eq_true _
       have hc0:cntS q i j []=1:=by unfold cntS; rw [if_pos ⟨hin,hjm⟩]; rfl
       rw [hc0] at KEY3
       clear hin hjm hc0
       go_upto_region 15 with (fail)
       have KW:=S.out.kw
       have KI:=Lib.hid S.out.ki
       have l1:i < rb.length:=by rw [HRB.out]; omega
       have C1:=Lib.hid (S.out.ways.cell1 i (Nat.le_refl _) l1)
       have LC1:=Lib.hid S.out.ways.out.lt
       have HSET:Hid (∀ W',Below W.heap.size W W'→StC w0 bq bw bi ob wb i rb rw_ q (.slice A1 q.L.length n1) (.slice A2 q.R.length n2) (i:Int) (entW q i j 1) ds (W'.setCell ⟨rw_ i,j,none⟩ (.string ⟨#[49]⟩))∧Blk (W'.setCell ⟨rw_ i,j,none⟩ (.string ⟨#[49]⟩)) bj #[.int .i64 j] 3):=Lib.hid (fun W' hW'=>by
        have s:=S.out.below hW'
        obtain ⟨t,k⟩:=s.ways.set i j (Nat.le_refl _) l1 (.string ⟨#[49]⟩)
        have h4:=s.s4 i (Nat.le_refl _) l1
        refine ⟨s.wrote h4.1 h4.2 k (t.congr (fun p r _ _ _=>?_)),(KJ.out.below hW').keptC k.kept (Ne.symm (NE2.out i (Nat.le_refl _) l1))⟩
        rw [show (⟨#[49]⟩:ByteArray)=canon ((1:Nat):Int) from (canon_dig 1 (by omega)).symm]
        exact (by rw [entW_upd]))
       have HFR:Hid (∀ W',Below W.heap.size W W'→W'.frozen? ⟨rw_ i,j,none⟩=false∧∃ v,W'.cell? ⟨rw_ i,j,none⟩=some v):=Lib.hid (fun W' hW'=>⟨((S.out.below hW').ways).free i j (Nat.le_refl _) l1,_,((S.out.below hW').ways).cell2 i j (Nat.le_refl _) l1 (by omega)⟩)
       have t3:(i:Int) < (rb.length:Int):=by omega
       have t4:(j:Int) < ((q.R.length + 1:Nat):Int):=by omega
       clear y0 yj yq0 yq1
       generalize rw_ i=r1 at *
       obtain ⟨N,hN⟩:∃ N,rb.length=N:=⟨_,rfl⟩
       obtain ⟨M1,hM1⟩:∃ M1,q.R.length + 1=M1:=⟨_,rfl⟩
       rw [hN] at KW t3
       have C12:Hid (W.cell? ⟨wb,i,none⟩=some (.slice (some ⟨r1,0,none⟩) M1 M1)):=Lib.hid (by rw [← hM1]; exact C1.out)
       replace C1:=C12
       rw [hM1] at t4
       replace KW:=Lib.hid KW
       clear hN hM1 C12 l1
       refine wpIn_wide.1 (wpIn_phase (n:=9) (.inl rfl) 12 6 (.v 62 (.slice (some ⟨wb,0,none⟩) N N) :: .v 63 (.int .i64 i) :: .v 64 (.pointer (some ⟨wb,i,none⟩)) :: .v 65 (.slice (some ⟨r1,0,none⟩) M1 M1) :: .v 66 (.int .i64 j) :: .v 67 (.pointer (some ⟨r1,j,none⟩)) :: []) [] [⟨bw,#[.slice (some ⟨wb,0,none⟩) N N], 105, none⟩,⟨bi,#[.int .i64 i], 3, none⟩,⟨bj,#[.int .i64 j], 3, none⟩] [] [] [] [] [] (by kernel_rfl) (by intro hL; obtain ⟨_,_,hL⟩:=hL; exact absurd hL.1 (by intro h; cases h)) (Below.refl _ _) ⟨KW.out,KI.out,KJ.out,trivial⟩ trivial ⟨ld 0 0,ld 1 0,?_,?_,ld 2 0,?_,trivial⟩ ?_)
       ·intro L a U ho J hn dd KK kk; refine .free rfl ?_; have r62:=J.read 0 rfl (dd.get 0 rfl); have r63:=J.read 1 rfl (dd.get 1 rfl); go_simp; exact kk.out _ _ (J.st 2 rfl rfl)
       ·intro L a U ho J hn dd KK kk; refine .free rfl ?_; have r64:=J.read 2 rfl (dd.get 2 rfl); have e0:=(J.bb.cell (p:=⟨wb,i,none⟩) LC1.out).trans C1.out; go_simp; exact kk.out _ _ (J.st 3 rfl rfl)
       ·intro L a U ho J hn dd KK kk; refine .free rfl ?_; have r65:=J.read 3 rfl (dd.get 3 rfl); have r66:=J.read 4 rfl (dd.get 4 rfl); go_simp; exact kk.out _ _ (J.st 5 rfl rfl)
       rintro σ W9 _ _ _ _ B9
       simp only [slotsOf,finX,nval,nvalN,nvalA,Nat.reduceBEq,cond_true,cond_false,putAll,Act.put,List.setIfInBounds_toArray,List.set_cons_succ,List.set_cons_zero]
       simp only [List.drop_succ_cons,List.drop_zero]
       have f1:=(HFR.out W9 B9.out).1
       obtain ⟨u,f2⟩:=(HFR.out W9 B9.out).2
       gi_wp2
       have HS:=HSET.out W9 B9.out
       exact KEY3 _ _ (ex_frame (by kernel_rfl)) HS.1 HS.2
      ·have t2:((j:Int) == (q.R.length:Int))=false:=by rw [beq_eq_false_iff_ne]; omega
       have hc0:cntS q i j []=0:=by unfold cntS; rw [if_neg (fun h=>hjm h.2)]; rfl
       rw [hc0] at KEY3
       clear hin hjm hc0
       go_wp2
       exact KEY3 W _ (ex_frame (by kernel_rfl)) S.out KJ.out
     ·have t1:((i:Int) == (q.L.length:Int))=false:=by rw [beq_eq_false_iff_ne]; omega
      have hc0:cntS q i j []=0:=by unfold cntS; rw [if_neg (fun h=>hin h.1)]; rfl
      rw [hc0] at KEY3
      clear hin hc0
      go_wp2
      exact KEY3 W _ (ex_frame (by kernel_rfl)) S.out KJ.out
    clear hKr2
    have KW:=S.out.kw
    have KI:=Lib.hid S.out.ki
    have l1:i < rb.length:=by rw [HRB.out]; omega
    have C1:=Lib.hid (S.out.ways.cell1 i (Nat.le_refl _) l1)
    have LC1:=Lib.hid S.out.ways.out.lt
    have HSET:Hid (∀ W',Below W.heap.size W W'→StC w0 bq bw bi ob wb i rb rw_ q (.slice A1 q.L.length n1) (.slice A2 q.R.length n2) (i:Int) (entW q i j 0) ds (W'.setCell ⟨rw_ i,j,none⟩ (.string ⟨#[48]⟩))∧Blk (W'.setCell ⟨rw_ i,j,none⟩ (.string ⟨#[48]⟩)) bj #[.int .i64 j] 3):=Lib.hid (fun W' hW'=>by
     have s:=S.out.below hW'
     obtain ⟨t,k⟩:=s.ways.set i j (Nat.le_refl _) l1 (.string ⟨#[48]⟩)
     have h4:=s.s4 i (Nat.le_refl _) l1
     refine ⟨s.wrote h4.1 h4.2 k (t.congr (fun p r _ _ _=>?_)),(KJ.out.below hW').keptC k.kept (Ne.symm (NE2.out i (Nat.le_refl _) l1))⟩
     rw [show (⟨#[48]⟩:ByteArray)=canon ((0:Nat):Int) from (canon_dig 0 (by omega)).symm]
     exact (by rw [wayT_upd]))
    have HFR:Hid (∀ W',Below W.heap.size W W'→W'.frozen? ⟨rw_ i,j,none⟩=false∧∃ v,W'.cell? ⟨rw_ i,j,none⟩=some v):=Lib.hid (fun W' hW'=>⟨((S.out.below hW').ways).free i j (Nat.le_refl _) l1,_,((S.out.below hW').ways).cell2 i j (Nat.le_refl _) l1 (by omega)⟩)
    have t3:(i:Int) < (rb.length:Int):=by omega
    have t4:(j:Int) < ((q.R.length + 1:Nat):Int):=by omega
    clear y0 yj
    generalize rw_ i=r1 at *
    obtain ⟨N,hN⟩:∃ N,rb.length=N:=⟨_,rfl⟩
    obtain ⟨M1,hM1⟩:∃ M1,q.R.length + 1=M1:=⟨_,rfl⟩
    rw [hN] at KW t3
    have C12:Hid (W.cell? ⟨wb,i,none⟩=some (.slice (some ⟨r1,0,none⟩) M1 M1)):=Lib.hid (by rw [← hM1]; exact C1.out)
    replace C1:=C12
    rw [hM1] at t4
    replace KW:=Lib.hid KW
    clear hN hM1 C12 l1
    refine wpIn_wide.1 (wpIn_phase (n:=9) (.inl rfl) 12 6 (.v 44 (.slice (some ⟨wb,0,none⟩) N N) :: .v 45 (.int .i64 i) :: .v 46 (.pointer (some ⟨wb,i,none⟩)) :: .v 47 (.slice (some ⟨r1,0,none⟩) M1 M1) :: .v 48 (.int .i64 j) :: .v 49 (.pointer (some ⟨r1,j,none⟩)) :: []) [] [⟨bw,#[.slice (some ⟨wb,0,none⟩) N N], 105, none⟩,⟨bi,#[.int .i64 i], 3, none⟩,⟨bj,#[.int .i64 j], 3, none⟩] [] [] [] [] [] (by kernel_rfl) (by intro hL; obtain ⟨_,_,hL⟩:=hL; exact absurd hL.1 (by intro h; cases h)) (Below.refl _ _) ⟨KW.out,KI.out,KJ.out,trivial⟩ trivial ⟨ld 0 0,ld 1 0,?_,?_,ld 2 0,?_,trivial⟩ ?_)
    ·intro L a U ho J hn dd KK kk; refine .free rfl ?_; have r44:=J.read 0 rfl (dd.get 0 rfl); have r45:=J.read 1 rfl (dd.get 1 rfl); go_simp; exact kk.out _ _ (J.st 2 rfl rfl)
    ·intro L a U ho J hn dd KK kk; refine .free rfl ?_; have r46:=J.read 2 rfl (dd.get 2 rfl); have e0:=(J.bb.cell (p:=⟨wb,i,none⟩) LC1.out).trans C1.out; go_simp; exact kk.out _ _ (J.st 3 rfl rfl)
    ·intro L a U ho J hn dd KK kk; refine .free rfl ?_; have r47:=J.read 3 rfl (dd.get 3 rfl); have r48:=J.read 4 rfl (dd.get 4 rfl); go_simp; exact kk.out _ _ (J.st 5 rfl rfl)
    rintro σ W9 _ _ _ _ B9
    simp only [slotsOf,finX,nval,nvalN,nvalA,Nat.reduceBEq,cond_true,cond_false,putAll,Act.put,List.setIfInBounds_toArray,List.set_cons_succ,List.set_cons_zero]
    simp only [List.drop_succ_cons,List.drop_zero]
    have f1:=(HFR.out W9 B9.out).1
    obtain ⟨u,f2⟩:=(HFR.out W9 B9.out).2
    gi_wp2
    have HS:=HSET.out W9 B9.out
    exact KEY2 _ _ (ex_frame (by kernel_rfl)) HS.1 HS.2
  clear hKr
  refine wpIn_wide.1 (wpIn_phase (n:=9) (.inl rfl) 14 8 (.v 29 (.slice (some ⟨wb,0,none⟩) N N) :: .v 30 (.int .i64 i) :: .v 31 (.pointer (some ⟨bq,1,none⟩)) :: .v 32 (.slice A2 q.R.length n2) :: .v 33 (.int .i64 q.R.length) :: .v 34 (.int .i64 ((q.R.length:Int) + 1)) :: .n 35 :: .v 36 (.pointer (some ⟨wb,i,none⟩)) :: []) [⟨6,35,fun g=>.slice (some ⟨g,0,none⟩) (q.R.length + 1) (q.R.length + 1),zr, 40, none⟩] [⟨bw,#[.slice (some ⟨wb,0,none⟩) N N], 105, none⟩,⟨bi,#[.int .i64 i], 3, none⟩,⟨bq,#[.slice A1 q.L.length n1,.slice A2 q.R.length n2,.string (qT (2 * q.ch)),.string (qT (2 * q.mi)),.string (qT (2 * q.ga)),.string (qT (2 * q.re))], 32, none⟩] [] [] [] [] [] (by kernel_rfl) (by intro hL; obtain ⟨_,_,hL⟩:=hL; exact absurd hL.1 (by intro h; cases h)) (Below.refl _ _) ⟨KW.out,KI.out,KQ.out,trivial⟩ trivial ⟨ld 0 0,ld 1 0,pu,ld 2 1,pu,?_,?_,?_,trivial⟩ ?_)
  ·intro L a U ho J hn dd KK kk; refine .free rfl ?_; have r33:=J.read 4 rfl (dd.get 4 rfl); go_simp; exact kk.out _ _ (J.st 5 rfl rfl)
  ·intro L a U ho J hn dd KK kk; refine .free rfl ?_; have r34:=J.read 5 rfl (dd.get 5 rfl); go_simp; exact kk.out _ _ (J.made 6 0 rfl rfl rfl rfl rfl rfl rfl rfl rfl rfl (Nat.le_refl _) (Blk.fresh U _ _) (below_new U _) hn)
  ·intro L a U ho J hn dd KK kk; refine .free rfl ?_; have r29:=J.read 0 rfl (dd.get 0 rfl); have r30:=J.read 1 rfl (dd.get 1 rfl); go_simp; exact kk.out _ _ (J.st 7 rfl rfl)
  rintro σ W9 ⟨⟨hlow,KR⟩,_⟩ _ _ _ B9
  simp only [slotsOf,finX,nval,nvalN,nvalA,Nat.reduceBEq,cond_true,cond_false,putAll,Act.put,List.setIfInBounds_toArray,List.set_cons_succ,List.set_cons_zero]
  simp only [List.drop_succ_cons,List.drop_zero]
  generalize blkOf (σ 35)=gr at *
  have hlw:wr.heap.size≤gr:=by first | exact hlow | exact hlow.out
  clear hlow
  have S9:=S.out.below B9.out
  have f1:=S9.ways.out.free i
  obtain ⟨u,f2⟩:=S9.ways.cell0 i (show i < rb.length by rw [HRB.out]; omega)
  have hkw:=S9.kw.lt
  have hki:=S.out.ki.lt
  have hkw2:=S.out.kw.lt
  have hkr:=KR.out
  rw [← HZR.out] at hkr
  have hrn:∀ p,i + 1≤p→p < rb.length→rw_ p ≠ gr:=fun p h1 h2 e=>by have:=(S.out.ways.row p h1 h2).lt; omega
  have HNX:=Lib.hid ((S9.nextRow (show i < rb.length by rw [HRB.out]; omega) hkr (by omega) (by omega) hrn).tabC (c':=wayT q i (q.R.length + 1)) (fun p r h1 h2 h3=>by
   by_cases e:p=i
   ·rw [if_pos e]
    unfold wayT
    rw [if_neg (by omega)]
   ·rw [if_neg e]
    unfold wayT
    rw [if_pos (by omega),if_pos (by omega)]))
  clear S9 hkw hki hkw2 hkr hrn
  gi_wp2
  exact KEY _ _ _ (ex_frame (by kernel_rfl)) HNX.out

end Go.Proofs.YthhkmihjnnfpgaaGreatDoor

/- The examples of chapter 44. -/
namespace Go.Proofs.YthhkmihjnnfpgaaGreatDoor
set_option linter.all false
open Go.RowKit

attribute [local go_sem] Oper.semAt_some

theorem qT_dig (n:Nat) (h:n < 10):qT (4 * (n:Int))=⟨#[UInt8.ofNat (48 + n)]⟩:=by
 unfold qT
 rw [← quarter_whole,show mkRat (n:Int) 1=((n:Int):Rat) from by rw [Rat.mkRat_one],canonR_int]
 exact canon_dig n h
theorem blk_SAt {α:Type} {f:α→List Value} {sz:Nat} (hf:∀ u,(f u).length=sz) {T:TypeId} {W:World} {d:Nat} {us:List α} (h:Blk W d (us.flatMap f).toArray T) (c:Nat):SAt f sz W (.slice (some ⟨d,0,none⟩) us.length c) us :=
 ⟨_,c,rfl,fun i t ht=>⟨d,0,rfl,h.lt,fun j u hu=>by
  rw [Nat.zero_add]
  exact h.atL _ _ (flat_get hf us i j t u ht hu)⟩⟩
set_option maxRecDepth 100000 in
set_option maxHeartbeats 8000000 in
theorem part_any (u f t:ByteArray) (W:World):Calls Tryz.prog 45 #[.string u,.string f,.string t] W fun e w'=>e=.returned (.agg #[.string u,.string f,.string t])∧Below W.heap.size W w':=by
 go_enter Tryz.func45, Tryz.ntmps45
 go_wp2
 have k:=Blk.fresh W #[.string u,.string f,.string t] 86
 have q:=below_new W (.cells #[.string u,.string f,.string t] 86)
 have c0:=k.at_ 0 _ rfl
 have c1:=k.at_ 1 _ rfl
 have c2:=k.at_ 2 _ rfl
 exact bodyPost_ret (v:=.agg #[.string u,.string f,.string t]) (by simp [results,Tryz.results45, go_sem,c0,c1,c2]) rfl ⟨rfl,q⟩
def iv (u:ByteArray) (f t:Nat):IV:=⟨u,2 * (f:Int),2 * (t:Int)⟩
theorem iv_cells (u:ByteArray) (f t:Nat) (hf:f < 10) (ht:t < 10):(iv u f t).cells=[.string u,.string ⟨#[UInt8.ofNat (48 + f)]⟩,.string ⟨#[UInt8.ofNat (48 + t)]⟩]:=by
 unfold iv IV.cells
 dsimp only
 rw [← qT_dig f hf,← qT_dig t ht,show 2 * (2 * (f:Int))=4 * (f:Int) by omega,show 2 * (2 * (t:Int))=4 * (t:Int) by omega]
def exQ1:CQ:=⟨[iv ⟨#[97]⟩ 0 2,iv ⟨#[98]⟩ 2 5],[iv ⟨#[97]⟩ 0 3,iv ⟨#[98]⟩ 3 6],2,4,4,4⟩
def exQ2:CQ:=⟨[iv ⟨#[97]⟩ 0 2,iv ⟨#[97]⟩ 2 4],[iv ⟨#[97]⟩ 0 2],2,4,6,2⟩
theorem iv_low (c:UInt8) (hc:97≤c.toNat∧c.toNat≤122):LowB ⟨#[c]⟩:=⟨by show 0 < 1; omega,by show 1≤32; omega,fun b hb=>by
 simp at hb
 subst hb
 exact hc⟩
theorem exQ1_ok:OkQ exQ1:=by
 refine ⟨by decide,by decide,?_,?_,by decide,by decide,by decide,by decide⟩
 ·intro k hk
  rcases (show k=0 ∨ k=1 by have:k < 2:=hk; omega) with rfl | rfl
  ·exact ⟨.inr (iv_low 97 (by decide)),(by decide:(0:Int)≤0),(by decide:(0:Int) < 4),(by decide:(4:Int)≤1000),(by decide:(0:Int)≤0),(by decide:(0:Int)≤0)⟩
  ·exact ⟨.inr (iv_low 98 (by decide)),(by decide:(0:Int)≤4),(by decide:(4:Int) < 10),(by decide:(10:Int)≤1000),(by decide:(0:Int)≤4),(by decide:(4:Int)≤4)⟩
 ·intro k hk
  rcases (show k=0 ∨ k=1 by have:k < 2:=hk; omega) with rfl | rfl
  ·exact ⟨.inr (iv_low 97 (by decide)),(by decide:(0:Int)≤0),(by decide:(0:Int) < 6),(by decide:(6:Int)≤1000),(by decide:(0:Int)≤0),(by decide:(0:Int)≤0)⟩
  ·exact ⟨.inr (iv_low 98 (by decide)),(by decide:(0:Int)≤6),(by decide:(6:Int) < 12),(by decide:(12:Int)≤1000),(by decide:(0:Int)≤6),(by decide:(6:Int)≤6)⟩
theorem exQ2_ok:OkQ exQ2:=by
 refine ⟨by decide,by decide,?_,?_,by decide,by decide,by decide,by decide⟩
 ·intro k hk
  rcases (show k=0 ∨ k=1 by have:k < 2:=hk; omega) with rfl | rfl
  ·exact ⟨.inr (iv_low 97 (by decide)),(by decide:(0:Int)≤0),(by decide:(0:Int) < 4),(by decide:(4:Int)≤1000),(by decide:(0:Int)≤0),(by decide:(0:Int)≤0)⟩
  ·exact ⟨.inr (iv_low 97 (by decide)),(by decide:(0:Int)≤4),(by decide:(4:Int) < 8),(by decide:(8:Int)≤1000),(by decide:(0:Int)≤4),(by decide:(4:Int)≤4)⟩
 ·intro k hk
  obtain rfl:k=0:=by have:k < 1:=hk; omega
  exact ⟨.inr (iv_low 97 (by decide)),(by decide:(0:Int)≤0),(by decide:(0:Int) < 4),(by decide:(4:Int)≤1000),(by decide:(0:Int)≤0),(by decide:(0:Int)≤0)⟩
theorem exQ1_rst:rst exQ1 0 0=4:=by decide +kernel
theorem exQ2_rst:rst exQ2 0 0=8:=by decide +kernel
theorem exQ1_way:way exQ1 0 0=[(1,0,0),(1,1,1)]:=by decide +kernel
theorem exQ2_way:way exQ2 0 0=[(1,0,0),(4,1,1)]:=by decide +kernel
theorem exQ2_cnt:cnt exQ2 0 0=1:=by decide +kernel
set_option maxRecDepth 100000 in
set_option maxHeartbeats 8000000 in
theorem known44_any (w:World) (he:Env w):Calls Tryz.prog 13 #[] w fun e w'=>e=.returned (.bool true)∧Below w.heap.size w w':=by
 have HE:=Lib.hid he
 have B:=Lib.hid (Below.refl w.heap.size w)
 clear he
 go_enter Tryz.func13, Tryz.ntmps13
 go_wp2_with (fail)
 with_reducible refine (part_any ⟨#[97]⟩ ⟨#[48]⟩ ⟨#[50]⟩ w).mono ?_
 rintro e W1 ⟨rfl,q_W1⟩
 replace B:=Lib.hid (B.out.trans (q_W1.mono B.out.size))
 clear q_W1
 go_wp2_with (fail)
 with_reducible refine (part_any ⟨#[98]⟩ ⟨#[50]⟩ ⟨#[53]⟩ W1).mono ?_
 rintro e W2 ⟨rfl,q_W2⟩
 replace B:=Lib.hid (B.out.trans (q_W2.mono B.out.size))
 clear q_W2
 go_wp2_with (fail)
 have k_:=Blk.fresh W2 #[.string ⟨#[97]⟩,.string ⟨#[48]⟩,.string ⟨#[50]⟩,.string ⟨#[98]⟩,.string ⟨#[50]⟩,.string ⟨#[53]⟩] 86
 have q_:=below_new W2 (.cells #[.string ⟨#[97]⟩,.string ⟨#[48]⟩,.string ⟨#[50]⟩,.string ⟨#[98]⟩,.string ⟨#[50]⟩,.string ⟨#[53]⟩] 86)
 generalize (W2.alloc (.cells #[.string ⟨#[97]⟩,.string ⟨#[48]⟩,.string ⟨#[50]⟩,.string ⟨#[98]⟩,.string ⟨#[50]⟩,.string ⟨#[53]⟩] 86))=W3 at *
 obtain ⟨g1,hg_⟩:∃ g,W2.heap.size=g:=⟨_,rfl⟩
 rw [hg_] at k_ ⊢
 replace B:=Lib.hid (B.out.trans (q_.mono B.out.size))
 have K1:=Lib.hid k_
 clear q_ k_ hg_
 with_reducible refine (part_any ⟨#[97]⟩ ⟨#[48]⟩ ⟨#[51]⟩ W3).mono ?_
 rintro e W4 ⟨rfl,q_W4⟩
 replace K1:=Lib.hid (K1.out.below q_W4)
 replace B:=Lib.hid (B.out.trans (q_W4.mono B.out.size))
 clear q_W4
 go_wp2_with (fail)
 with_reducible refine (part_any ⟨#[98]⟩ ⟨#[51]⟩ ⟨#[54]⟩ W4).mono ?_
 rintro e W5 ⟨rfl,q_W5⟩
 replace K1:=Lib.hid (K1.out.below q_W5)
 replace B:=Lib.hid (B.out.trans (q_W5.mono B.out.size))
 clear q_W5
 go_wp2_with (fail)
 have hz_:(W5.alloc (.cells #[.string ⟨#[97]⟩,.string ⟨#[48]⟩,.string ⟨#[51]⟩,.string ⟨#[98]⟩,.string ⟨#[51]⟩,.string ⟨#[54]⟩] 86)).heap.size=W5.heap.size + 1:=by simp
 have k_:=Blk.fresh W5 #[.string ⟨#[97]⟩,.string ⟨#[48]⟩,.string ⟨#[51]⟩,.string ⟨#[98]⟩,.string ⟨#[51]⟩,.string ⟨#[54]⟩] 86
 have q_:=below_new W5 (.cells #[.string ⟨#[97]⟩,.string ⟨#[48]⟩,.string ⟨#[51]⟩,.string ⟨#[98]⟩,.string ⟨#[51]⟩,.string ⟨#[54]⟩] 86)
 generalize (W5.alloc (.cells #[.string ⟨#[97]⟩,.string ⟨#[48]⟩,.string ⟨#[51]⟩,.string ⟨#[98]⟩,.string ⟨#[51]⟩,.string ⟨#[54]⟩] 86))=W6 at *
 obtain ⟨g2,hg_⟩:∃ g,W5.heap.size=g:=⟨_,rfl⟩
 rw [hg_] at k_ ⊢
 rw [hg_] at hz_
 have HZ:=Lib.hid hz_
 clear hz_
 replace K1:=Lib.hid (K1.out.below q_)
 replace B:=Lib.hid (B.out.trans (q_.mono B.out.size))
 have K2:=Lib.hid k_
 clear q_ k_ hg_
 have k_:=Blk.fresh W6 #[.slice (some ⟨g1,0,none⟩) 2 2,.slice (some ⟨g2,0,none⟩) 2 2,.string ⟨#[49]⟩,.string ⟨#[50]⟩,.string ⟨#[50]⟩,.string ⟨#[50]⟩] 32
 have q_:=below_new W6 (.cells #[.slice (some ⟨g1,0,none⟩) 2 2,.slice (some ⟨g2,0,none⟩) 2 2,.string ⟨#[49]⟩,.string ⟨#[50]⟩,.string ⟨#[50]⟩,.string ⟨#[50]⟩] 32)
 generalize (W6.alloc (.cells #[.slice (some ⟨g1,0,none⟩) 2 2,.slice (some ⟨g2,0,none⟩) 2 2,.string ⟨#[49]⟩,.string ⟨#[50]⟩,.string ⟨#[50]⟩,.string ⟨#[50]⟩] 32))=W7 at *
 rw [HZ.out] at k_
 replace K1:=Lib.hid (K1.out.below q_)
 replace K2:=Lib.hid (K2.out.below q_)
 replace B:=Lib.hid (B.out.trans (q_.mono B.out.size))
 have K3:=Lib.hid k_
 clear q_ k_ HZ
 have sa_:SAt IV.cells 3 W7 (.slice (some ⟨g1,0,none⟩) 2 2) [iv ⟨#[97]⟩ 0 2,iv ⟨#[98]⟩ 2 5]:=blk_SAt IV.len (T := 86) (by
  have h:=K1.out
  have e:([iv ⟨#[97]⟩ 0 2,iv ⟨#[98]⟩ 2 5].flatMap IV.cells).toArray=#[.string ⟨#[97]⟩,.string ⟨#[48]⟩,.string ⟨#[50]⟩,.string ⟨#[98]⟩,.string ⟨#[50]⟩,.string ⟨#[53]⟩]:=by
   simp only [List.flatMap_cons,List.flatMap_nil,iv_cells ⟨#[97]⟩ 0 2 (by omega) (by omega),iv_cells ⟨#[98]⟩ 2 5 (by omega) (by omega)]
   rfl
  rw [e]
  exact h) 2
 have sb_:SAt IV.cells 3 W7 (.slice (some ⟨g2,0,none⟩) 2 2) [iv ⟨#[97]⟩ 0 3,iv ⟨#[98]⟩ 3 6]:=blk_SAt IV.len (T := 86) (by
  have h:=K2.out
  have e:([iv ⟨#[97]⟩ 0 3,iv ⟨#[98]⟩ 3 6].flatMap IV.cells).toArray=#[.string ⟨#[97]⟩,.string ⟨#[48]⟩,.string ⟨#[51]⟩,.string ⟨#[98]⟩,.string ⟨#[51]⟩,.string ⟨#[54]⟩]:=by
   simp only [List.flatMap_cons,List.flatMap_nil,iv_cells ⟨#[97]⟩ 0 3 (by omega) (by omega),iv_cells ⟨#[98]⟩ 3 6 (by omega) (by omega)]
   rfl
  rw [e]
  exact h) 2
 have HB:=best_any exQ1 exQ1_ok _ _ W7 (HE.out.below B.out) ⟨sa_,sb_⟩
 rw [show qT (2 * exQ1.ch)=⟨#[49]⟩ from qT_dig 1 (by omega),show qT (2 * exQ1.mi)=⟨#[50]⟩ from qT_dig 2 (by omega),show qT (2 * exQ1.ga)=⟨#[50]⟩ from qT_dig 2 (by omega),show qT (2 * exQ1.re)=⟨#[50]⟩ from qT_dig 2 (by omega)] at HB
 rw [exQ1_rst,exQ1_way,show qT 4=⟨#[49]⟩ from qT_dig 1 (by omega)] at HB
 clear sa_ sb_
 with_reducible refine HB.mono ?_
 clear HB
 rintro e W8 ⟨v1,rfl,row1,q_W8⟩
 replace K1:=Lib.hid (K1.out.below q_W8)
 replace K2:=Lib.hid (K2.out.below q_W8)
 replace K3:=Lib.hid (K3.out.below q_W8)
 replace B:=Lib.hid (B.out.trans (q_W8.mono B.out.size))
 clear q_W8
 obtain ⟨d1,cd1,rd1,rfl,_,_,k_,_⟩:∃ d c r,v1=.slice (some ⟨d,0,none⟩) 2 c∧True∧True∧Blk W8 d ([(1,0,0),(1,1,1)].flatMap stC ++ r).toArray 56 ∧ True:=by
  rcases row1 with ⟨h,_⟩ | ⟨d,c,r,h1,_,_,h4,_⟩
  ·cases h
  ·exact ⟨d,c,r,h1,trivial,trivial,h4,trivial⟩
 have Rd1:=Lib.hid k_
 clear k_
 go_wp2_with (fail)
 have k_:=Blk.fresh W8 #[.slice (some ⟨d1,0,none⟩) 2 cd1,.string ⟨#[49]⟩] 36
 have q_:=below_new W8 (.cells #[.slice (some ⟨d1,0,none⟩) 2 cd1,.string ⟨#[49]⟩] 36)
 generalize (W8.alloc (.cells #[.slice (some ⟨d1,0,none⟩) 2 cd1,.string ⟨#[49]⟩] 36))=W9 at *
 obtain ⟨g4,hg_⟩:∃ g,W8.heap.size=g:=⟨_,rfl⟩
 rw [hg_] at k_ ⊢
 replace K1:=Lib.hid (K1.out.below q_)
 replace K2:=Lib.hid (K2.out.below q_)
 replace K3:=Lib.hid (K3.out.below q_)
 replace Rd1:=Lib.hid (Rd1.out.below q_)
 replace B:=Lib.hid (B.out.trans (q_.mono B.out.size))
 have K4:=Lib.hid k_
 clear q_ k_ hg_
 with_reducible refine (part_any ⟨#[97]⟩ ⟨#[48]⟩ ⟨#[50]⟩ W9).mono ?_
 rintro e W10 ⟨rfl,q_W10⟩
 replace K1:=Lib.hid (K1.out.below q_W10)
 replace K2:=Lib.hid (K2.out.below q_W10)
 replace K3:=Lib.hid (K3.out.below q_W10)
 replace Rd1:=Lib.hid (Rd1.out.below q_W10)
 replace K4:=Lib.hid (K4.out.below q_W10)
 replace B:=Lib.hid (B.out.trans (q_W10.mono B.out.size))
 clear q_W10
 go_wp2_with (fail)
 with_reducible refine (part_any ⟨#[97]⟩ ⟨#[50]⟩ ⟨#[52]⟩ W10).mono ?_
 rintro e W11 ⟨rfl,q_W11⟩
 replace K1:=Lib.hid (K1.out.below q_W11)
 replace K2:=Lib.hid (K2.out.below q_W11)
 replace K3:=Lib.hid (K3.out.below q_W11)
 replace Rd1:=Lib.hid (Rd1.out.below q_W11)
 replace K4:=Lib.hid (K4.out.below q_W11)
 replace B:=Lib.hid (B.out.trans (q_W11.mono B.out.size))
 clear q_W11
 go_wp2_with (fail)
 have k_:=Blk.fresh W11 #[.string ⟨#[97]⟩,.string ⟨#[48]⟩,.string ⟨#[50]⟩,.string ⟨#[97]⟩,.string ⟨#[50]⟩,.string ⟨#[52]⟩] 86
 have q_:=below_new W11 (.cells #[.string ⟨#[97]⟩,.string ⟨#[48]⟩,.string ⟨#[50]⟩,.string ⟨#[97]⟩,.string ⟨#[50]⟩,.string ⟨#[52]⟩] 86)
 generalize (W11.alloc (.cells #[.string ⟨#[97]⟩,.string ⟨#[48]⟩,.string ⟨#[50]⟩,.string ⟨#[97]⟩,.string ⟨#[50]⟩,.string ⟨#[52]⟩] 86))=W12 at *
 obtain ⟨g5,hg_⟩:∃ g,W11.heap.size=g:=⟨_,rfl⟩
 rw [hg_] at k_ ⊢
 replace K1:=Lib.hid (K1.out.below q_)
 replace K2:=Lib.hid (K2.out.below q_)
 replace K3:=Lib.hid (K3.out.below q_)
 replace Rd1:=Lib.hid (Rd1.out.below q_)
 replace K4:=Lib.hid (K4.out.below q_)
 replace B:=Lib.hid (B.out.trans (q_.mono B.out.size))
 have K5:=Lib.hid k_
 clear q_ k_ hg_
 with_reducible refine (part_any ⟨#[97]⟩ ⟨#[48]⟩ ⟨#[50]⟩ W12).mono ?_
 rintro e W13 ⟨rfl,q_W13⟩
 replace K1:=Lib.hid (K1.out.below q_W13)
 replace K2:=Lib.hid (K2.out.below q_W13)
 replace K3:=Lib.hid (K3.out.below q_W13)
 replace Rd1:=Lib.hid (Rd1.out.below q_W13)
 replace K4:=Lib.hid (K4.out.below q_W13)
 replace K5:=Lib.hid (K5.out.below q_W13)
 replace B:=Lib.hid (B.out.trans (q_W13.mono B.out.size))
 clear q_W13
 go_wp2_with (fail)
 have hz_:(W13.alloc (.cells #[.string ⟨#[97]⟩,.string ⟨#[48]⟩,.string ⟨#[50]⟩] 86)).heap.size=W13.heap.size + 1:=by simp
 have k_:=Blk.fresh W13 #[.string ⟨#[97]⟩,.string ⟨#[48]⟩,.string ⟨#[50]⟩] 86
 have q_:=below_new W13 (.cells #[.string ⟨#[97]⟩,.string ⟨#[48]⟩,.string ⟨#[50]⟩] 86)
 generalize (W13.alloc (.cells #[.string ⟨#[97]⟩,.string ⟨#[48]⟩,.string ⟨#[50]⟩] 86))=W14 at *
 obtain ⟨g6,hg_⟩:∃ g,W13.heap.size=g:=⟨_,rfl⟩
 rw [hg_] at k_ ⊢
 rw [hg_] at hz_
 have HZ:=Lib.hid hz_
 clear hz_
 replace K1:=Lib.hid (K1.out.below q_)
 replace K2:=Lib.hid (K2.out.below q_)
 replace K3:=Lib.hid (K3.out.below q_)
 replace Rd1:=Lib.hid (Rd1.out.below q_)
 replace K4:=Lib.hid (K4.out.below q_)
 replace K5:=Lib.hid (K5.out.below q_)
 replace B:=Lib.hid (B.out.trans (q_.mono B.out.size))
 have K6:=Lib.hid k_
 clear q_ k_ hg_
 have k_:=Blk.fresh W14 #[.slice (some ⟨g5,0,none⟩) 2 2,.slice (some ⟨g6,0,none⟩) 1 1,.string ⟨#[49]⟩,.string ⟨#[50]⟩,.string ⟨#[51]⟩,.string ⟨#[49]⟩] 32
 have q_:=below_new W14 (.cells #[.slice (some ⟨g5,0,none⟩) 2 2,.slice (some ⟨g6,0,none⟩) 1 1,.string ⟨#[49]⟩,.string ⟨#[50]⟩,.string ⟨#[51]⟩,.string ⟨#[49]⟩] 32)
 generalize (W14.alloc (.cells #[.slice (some ⟨g5,0,none⟩) 2 2,.slice (some ⟨g6,0,none⟩) 1 1,.string ⟨#[49]⟩,.string ⟨#[50]⟩,.string ⟨#[51]⟩,.string ⟨#[49]⟩] 32))=W15 at *
 rw [HZ.out] at k_
 replace K1:=Lib.hid (K1.out.below q_)
 replace K2:=Lib.hid (K2.out.below q_)
 replace K3:=Lib.hid (K3.out.below q_)
 replace Rd1:=Lib.hid (Rd1.out.below q_)
 replace K4:=Lib.hid (K4.out.below q_)
 replace K5:=Lib.hid (K5.out.below q_)
 replace K6:=Lib.hid (K6.out.below q_)
 replace B:=Lib.hid (B.out.trans (q_.mono B.out.size))
 have K7:=Lib.hid k_
 clear q_ k_ HZ
 have sa_:SAt IV.cells 3 W15 (.slice (some ⟨g5,0,none⟩) 2 2) [iv ⟨#[97]⟩ 0 2,iv ⟨#[97]⟩ 2 4]:=blk_SAt IV.len (T := 86) (by
  have h:=K5.out
  have e:([iv ⟨#[97]⟩ 0 2,iv ⟨#[97]⟩ 2 4].flatMap IV.cells).toArray=#[.string ⟨#[97]⟩,.string ⟨#[48]⟩,.string ⟨#[50]⟩,.string ⟨#[97]⟩,.string ⟨#[50]⟩,.string ⟨#[52]⟩]:=by
   simp only [List.flatMap_cons,List.flatMap_nil,iv_cells ⟨#[97]⟩ 0 2 (by omega) (by omega),iv_cells ⟨#[97]⟩ 2 4 (by omega) (by omega)]
   rfl
  rw [e]
  exact h) 2
 have sb_:SAt IV.cells 3 W15 (.slice (some ⟨g6,0,none⟩) 1 1) [iv ⟨#[97]⟩ 0 2]:=blk_SAt IV.len (T := 86) (by
  have h:=K6.out
  have e:([iv ⟨#[97]⟩ 0 2].flatMap IV.cells).toArray=#[.string ⟨#[97]⟩,.string ⟨#[48]⟩,.string ⟨#[50]⟩]:=by
   simp only [List.flatMap_cons,List.flatMap_nil,iv_cells ⟨#[97]⟩ 0 2 (by omega) (by omega)]
   rfl
  rw [e]
  exact h) 1
 have HB:=best_any exQ2 exQ2_ok _ _ W15 (HE.out.below B.out) ⟨sa_,sb_⟩
 rw [show qT (2 * exQ2.ch)=⟨#[49]⟩ from qT_dig 1 (by omega),show qT (2 * exQ2.mi)=⟨#[50]⟩ from qT_dig 2 (by omega),show qT (2 * exQ2.ga)=⟨#[51]⟩ from qT_dig 3 (by omega),show qT (2 * exQ2.re)=⟨#[49]⟩ from qT_dig 1 (by omega)] at HB
 rw [exQ2_rst,exQ2_way,show qT 8=⟨#[50]⟩ from qT_dig 2 (by omega)] at HB
 clear sa_ sb_
 with_reducible refine HB.mono ?_
 clear HB
 rintro e W16 ⟨v2,rfl,row2,q_W16⟩
 replace K1:=Lib.hid (K1.out.below q_W16)
 replace K2:=Lib.hid (K2.out.below q_W16)
 replace K3:=Lib.hid (K3.out.below q_W16)
 replace Rd1:=Lib.hid (Rd1.out.below q_W16)
 replace K4:=Lib.hid (K4.out.below q_W16)
 replace K5:=Lib.hid (K5.out.below q_W16)
 replace K6:=Lib.hid (K6.out.below q_W16)
 replace K7:=Lib.hid (K7.out.below q_W16)
 replace B:=Lib.hid (B.out.trans (q_W16.mono B.out.size))
 clear q_W16
 obtain ⟨d2,cd2,rd2,rfl,_,_,k_,_⟩:∃ d c r,v2=.slice (some ⟨d,0,none⟩) 2 c∧True∧True∧Blk W16 d ([(1,0,0),(4,1,1)].flatMap stC ++ r).toArray 56 ∧ True:=by
  rcases row2 with ⟨h,_⟩ | ⟨d,c,r,h1,_,_,h4,_⟩
  ·cases h
  ·exact ⟨d,c,r,h1,trivial,trivial,h4,trivial⟩
 have Rd2:=Lib.hid k_
 clear k_
 go_upto_region 5 with (fail)
 have k_:=Blk.fresh W16 #[.slice (some ⟨d2,0,none⟩) 2 cd2,.string ⟨#[50]⟩] 36
 have q_:=below_new W16 (.cells #[.slice (some ⟨d2,0,none⟩) 2 cd2,.string ⟨#[50]⟩] 36)
 generalize (W16.alloc (.cells #[.slice (some ⟨d2,0,none⟩) 2 cd2,.string ⟨#[50]⟩] 36))=W17 at *
 obtain ⟨g8,hg_⟩:∃ g,W16.heap.size=g:=⟨_,rfl⟩
 rw [hg_] at k_ ⊢
 replace K1:=Lib.hid (K1.out.below q_)
 replace K2:=Lib.hid (K2.out.below q_)
 replace K3:=Lib.hid (K3.out.below q_)
 replace Rd1:=Lib.hid (Rd1.out.below q_)
 replace K4:=Lib.hid (K4.out.below q_)
 replace K5:=Lib.hid (K5.out.below q_)
 replace K6:=Lib.hid (K6.out.below q_)
 replace K7:=Lib.hid (K7.out.below q_)
 replace Rd2:=Lib.hid (Rd2.out.below q_)
 replace B:=Lib.hid (B.out.trans (q_.mono B.out.size))
 have K8:=Lib.hid k_
 clear q_ k_ hg_
 have y0:=K7.out.at_ 0 _ rfl
 have y1:=K7.out.at_ 1 _ rfl
 have y2:=K7.out.at_ 2 _ rfl
 have y3:=K7.out.at_ 3 _ rfl
 have y4:=K7.out.at_ 4 _ rfl
 have y5:=K7.out.at_ 5 _ rfl
 go_wp2_with (fail)
 have sa_:SAt IV.cells 3 W17 (.slice (some ⟨g5,0,none⟩) 2 2) [iv ⟨#[97]⟩ 0 2,iv ⟨#[97]⟩ 2 4]:=blk_SAt IV.len (T := 86) (by
  have h:=K5.out
  have e:([iv ⟨#[97]⟩ 0 2,iv ⟨#[97]⟩ 2 4].flatMap IV.cells).toArray=#[.string ⟨#[97]⟩,.string ⟨#[48]⟩,.string ⟨#[50]⟩,.string ⟨#[97]⟩,.string ⟨#[50]⟩,.string ⟨#[52]⟩]:=by
   simp only [List.flatMap_cons,List.flatMap_nil,iv_cells ⟨#[97]⟩ 0 2 (by omega) (by omega),iv_cells ⟨#[97]⟩ 2 4 (by omega) (by omega)]
   rfl
  rw [e]
  exact h) 2
 have sb_:SAt IV.cells 3 W17 (.slice (some ⟨g6,0,none⟩) 1 1) [iv ⟨#[97]⟩ 0 2]:=blk_SAt IV.len (T := 86) (by
  have h:=K6.out
  have e:([iv ⟨#[97]⟩ 0 2].flatMap IV.cells).toArray=#[.string ⟨#[97]⟩,.string ⟨#[48]⟩,.string ⟨#[50]⟩]:=by
   simp only [List.flatMap_cons,List.flatMap_nil,iv_cells ⟨#[97]⟩ 0 2 (by omega) (by omega)]
   rfl
  rw [e]
  exact h) 1
 have HB:=count_any exQ2 exQ2_ok _ _ W17 (HE.out.below B.out) ⟨sa_,sb_⟩
 rw [show qT (2 * exQ2.ch)=⟨#[49]⟩ from qT_dig 1 (by omega),show qT (2 * exQ2.mi)=⟨#[50]⟩ from qT_dig 2 (by omega),show qT (2 * exQ2.ga)=⟨#[51]⟩ from qT_dig 3 (by omega),show qT (2 * exQ2.re)=⟨#[49]⟩ from qT_dig 1 (by omega)] at HB
 rw [exQ2_cnt,show canon ((1:Nat):Int)=⟨#[49]⟩ from canon_dig 1 (by omega)] at HB
 clear sa_ sb_ y0 y1 y2 y3 y4 y5
 with_reducible refine HB.mono ?_
 clear HB
 rintro e W18 ⟨rfl,q_W18⟩
 replace K1:=Lib.hid (K1.out.below q_W18)
 replace K2:=Lib.hid (K2.out.below q_W18)
 replace K3:=Lib.hid (K3.out.below q_W18)
 replace Rd1:=Lib.hid (Rd1.out.below q_W18)
 replace K4:=Lib.hid (K4.out.below q_W18)
 replace K5:=Lib.hid (K5.out.below q_W18)
 replace K6:=Lib.hid (K6.out.below q_W18)
 replace K7:=Lib.hid (K7.out.below q_W18)
 replace Rd2:=Lib.hid (Rd2.out.below q_W18)
 replace K8:=Lib.hid (K8.out.below q_W18)
 replace B:=Lib.hid (B.out.trans (q_W18.mono B.out.size))
 clear q_W18
 have c3:W18.cell? ⟨d1,3,none⟩=some (.int .i64 1):=Rd1.out.at_ 3 _ rfl
 have d3:W18.cell? ⟨d2,3,none⟩=some (.int .i64 4):=Rd2.out.at_ 3 _ rfl
 have c4:W18.cell? ⟨d1,4,none⟩=some (.int .i64 1):=Rd1.out.at_ 4 _ rfl
 have d4:W18.cell? ⟨d2,4,none⟩=some (.int .i64 1):=Rd2.out.at_ 4 _ rfl
 have c5:W18.cell? ⟨d1,5,none⟩=some (.int .i64 1):=Rd1.out.at_ 5 _ rfl
 have d5:W18.cell? ⟨d2,5,none⟩=some (.int .i64 1):=Rd2.out.at_ 5 _ rfl
 have a0:=K4.out.at_ 0 _ rfl
 have a1:=K4.out.at_ 1 _ rfl
 have b0:=K8.out.at_ 0 _ rfl
 have b1:=K8.out.at_ 1 _ rfl
 go_wp2
 go_ret
 exact ⟨rfl,B.out⟩

end Go.Proofs.YthhkmihjnnfpgaaGreatDoor
