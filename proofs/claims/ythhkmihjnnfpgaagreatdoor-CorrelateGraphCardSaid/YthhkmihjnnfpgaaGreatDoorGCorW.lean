/- The law's fronts and proves of chapter 44. -/
import Derived.Test.YthhkmihjnnfpgaaGreatDoorGCorRa
import Derived.Test.YthhkmihjnnfpgaaGreatDoorGCorE
/- The law's fronts. -/
namespace Go.Proofs.YthhkmihjnnfpgaaGreatDoor
set_option linter.all false
open Go.RowKit

attribute [local go_sem] Oper.semAt_some

structure StF (w0:World) (b1 ob:Nat) (rb:List Nat) (q:CQ) (sl sr:Value) (c:Nat→Nat→ByteArray) (W:World):Prop where
 bb:Below w0.heap.size w0 W
 kq:Blk W b1 #[sl,sr,.string (qT (2 * q.ch)),.string (qT (2 * q.mi)),.string (qT (2 * q.ga)),.string (qT (2 * q.re))] 32
 tab:TabT W ob rb (q.R.length + 1) c 71 28
 s1:w0.heap.size≤b1∧b1 < ob
 s3:∀ g ∈ rb,b1 < g
section
variable {w0 W W':World} {b1 ob:Nat} {rb:List Nat} {q:CQ} {sl sr:Value} {c:Nat→Nat→ByteArray}
theorem StF.below (h:StF w0 b1 ob rb q sl sr c W) (k:Below W.heap.size W W'):StF w0 b1 ob rb q sl sr c W':=⟨h.bb.trans (k.mono h.bb.size),h.kq.below k,h.tab.below k,h.s1,h.s3⟩
theorem StF.congr {c':Nat→Nat→ByteArray} (h:StF w0 b1 ob rb q sl sr c W) (e:∀ p r,p < rb.length→r < q.R.length + 1→c p r=c' p r):StF w0 b1 ob rb q sl sr c' W:=⟨h.bb,h.kq,h.tab.congr (fun p r a b=>by rw [e p r a b]),h.s1,h.s3⟩
theorem StF.set (h:StF w0 b1 ob rb q sl sr c W) (i j:Nat) (hi:i < rb.length) (t:ByteArray):StF w0 b1 ob rb q sl sr (fun p r=>if p=i∧r=j then t else c p r) (W.setCell ⟨rb[i],j,none⟩ (.string t)):=by
 have hm:=List.getElem_mem hi
 have h3:=h.s3 _ hm
 have h1:=h.s1
 have k:=Wrote.set (h.tab.row i hi) j (.string t)
 refine ⟨h.bb.trans (k.below.mono (by omega)),h.kq.keptC k.kept (show b1 ≠ rb[i] by omega),(h.tab.set i j hi (.string t)).congr (fun p r _ _=>?_),h.s1,h.s3⟩
 show (if p=i∧r=j then Value.string t else Value.string (c p r))=Value.string (if p=i∧r=j then t else c p r)
 by_cases e:p=i∧r=j
 ·rw [if_pos e,if_pos e]
 ·rw [if_neg e,if_neg e]
end
theorem stepT_tabN (q:CQ) (i j k:Nat) (t:Nat→Nat→Option Int) (ho:okS q k i j) (u:Int) (hu:t i j=some u) (p r:Nat) :
  optT (stepT q i j t k p r)=(if p=nxI k i∧r=nxJ k j then optT (imp (t (nxI k i) (nxJ k j)) (u + cst q k i j)) else optT (t p r)):=by
 unfold stepT
 rw [if_pos ho,hu]
 unfold updO
 by_cases h:p=nxI k i∧r=nxJ k j
 ·rw [if_pos h,if_pos h]; rfl
 ·rw [if_neg h,if_neg h]
theorem posTk_st (q:CQ) (i j:Nat) (t:Nat→Nat→Option Int) (k:Nat) (h1:1≤k) (h2:k≤5):posTk q i j t k=stepT q i j (posTk q i j t (k - 1)) k:=by
 have h:=posTk_next q i j t (k - 1) (by omega)
 rw [show k - 1 + 1=k by omega] at h
 exact h
set_option maxRecDepth 100000 in
set_option maxHeartbeats 8000000 in
theorem fronts_any (q:CQ) (ok:OkQ q) (sl sr:Value) (w0:World) (he:Env w0) (hq:QAt w0 sl sr q) :
  Calls Tryz.prog 31 #[.agg #[sl,sr,.string (qT (2 * q.ch)),.string (qT (2 * q.mi)),.string (qT (2 * q.ga)),.string (qT (2 * q.re))]] w0 fun e w'=>∃ ob rb,e=.returned (.slice (some ⟨ob,0,none⟩) (q.L.length + 1) (q.L.length + 1))∧rb.length=q.L.length + 1 ∧
   TabT w' ob rb (q.R.length + 1) (frnT q) 71 28∧w0.heap.size≤ob∧(∀ g ∈ rb,w0.heap.size≤g)∧Below w0.heap.size w0 w':=by
 have hll:=ok.hl
 have hrr:=ok.hr
 have HE:=Lib.hid he
 have HQ:=Lib.hid hq
 have OK:=Lib.hid ok
 obtain ⟨A1,n1,rfl,_⟩:=hq.l
 obtain ⟨A2,n2,rfl,_⟩:=hq.r
 clear he hq ok
 have B:=Lib.hid (Below.refl w0.heap.size w0)
 go_enter Tryz.func31,Tryz.ntmps31
 obtain ⟨l1,hl1⟩:∃ n,q.L.length=n:=⟨_,rfl⟩
 obtain ⟨l2,hl2⟩:∃ n,q.R.length=n:=⟨_,rfl⟩
 have HL1:=Lib.hid hl1
 have HL2:=Lib.hid hl2
 rw [hl1,hl2] at HQ
 rw [hl1,hl2]
 rw [hl1] at hll
 rw [hl2] at hrr
 clear hl1 hl2
 obtain ⟨N,hN⟩:∃ n,l1 + 1=n:=⟨_,rfl⟩
 obtain ⟨M,hM⟩:∃ n,l2 + 1=n:=⟨_,rfl⟩
 have HN:=Lib.hid hN
 have HM:=Lib.hid hM
 have hm1:=run_mkv (P:=Tryz.prog) (t:=44) (e:=71) (z:=.slice none 0 0) (bytes:=24) Tryz.underlying44 (by kernel_rfl) rfl (by omega) N (by omega) ((l1:Int) + 1) (by omega)
 have hm2:=run_mkv (P:=Tryz.prog) (t:=71) (e:=28) (z:=.string ⟨#[]⟩) (bytes:=16) Tryz.underlying71 (by kernel_rfl) rfl (by omega) M (by omega) ((l2:Int) + 1) (by omega)
 obtain ⟨z1,hz1⟩:∃ z,((List.range N).map (fun _=>Value.slice none 0 0)).toArray=z:=⟨_,rfl⟩
 obtain ⟨z2,hz2⟩:∃ z,((List.range M).map (fun _=>Value.string ⟨#[]⟩)).toArray=z:=⟨_,rfl⟩
 rw [hz1] at hm1
 rw [hz2] at hm2
 have HZ1:=Lib.hid hz1
 have HZ2:=Lib.hid hz2
 have HM2:=Lib.hid hm2
 clear hz1 hz2 hm2
 rw [hN]
 go_upto_region 1 with (fail)
 have K1:=Lib.hid (Blk.fresh w0 #[.slice A1 l1 n1,.slice A2 l2 n2,.string (qT (2 * q.ch)),.string (qT (2 * q.mi)),.string (qT (2 * q.ga)),.string (qT (2 * q.re))] 32)
 have q1:=below_new w0 (.cells #[.slice A1 l1 n1,.slice A2 l2 n2,.string (qT (2 * q.ch)),.string (qT (2 * q.mi)),.string (qT (2 * q.ga)),.string (qT (2 * q.re))] 32)
 replace B:=Lib.hid (B.out.trans (q1.mono B.out.size))
 clear q1
 generalize (w0.alloc (.cells #[.slice A1 l1 n1,.slice A2 l2 n2,.string (qT (2 * q.ch)),.string (qT (2 * q.mi)),.string (qT (2 * q.ga)),.string (qT (2 * q.re))] 32))=W1 at *
 obtain ⟨b1,hb1⟩:∃ b,w0.heap.size=b:=⟨_,rfl⟩
 have HB1:=Lib.hid hb1
 rw [hb1] at K1 ⊢
 clear hb1
 refine wp_tab (.v 15 (.pointer (some ⟨b1,0,none⟩)) :: .v 16 (.slice A1 l1 n1) :: .v 17 (.int .i64 l1) :: .v 18 (.pointer (some ⟨b1,1,none⟩)) :: .v 19 (.slice A2 l2 n2) :: .v 20 (.int .i64 l2) :: .v 3 (.int .i64 l1) :: .v 4 (.int .i64 l2) :: []) [] [⟨b1,#[.slice A1 l1 n1,.slice A2 l2 n2,.string (qT (2 * q.ch)),.string (qT (2 * q.mi)),.string (qT (2 * q.ga)),.string (qT (2 * q.re))],32,none⟩] [] [] [] [] [] (by kernel_rfl) B.out ⟨K1.out,trivial⟩ trivial ⟨pu,ld 0 0,pu,pu,ld 0 1,pu,pu,pu,trivial⟩ ?_
 clear K1 B
 rintro σ W2 _ ⟨K1,_⟩ _ _ B
 simp only [slotsOf,finX,nval,nvalN,nvalA,Nat.reduceBEq,cond_true,cond_false,putAll,Act.put,List.setIfInBounds_toArray,List.set_cons_succ,List.set_cons_zero]
 go_upto_region 3 with (fail)
 have kl:=Blk.fresh W2 z1 71
 have q3:=below_new W2 (.cells z1 71)
 have h3:b1 < W2.heap.size:=K1.out.lt
 replace K1:=Lib.hid (K1.out.below q3)
 replace B:=Lib.hid (B.out.trans (q3.mono B.out.size))
 generalize (W2.alloc (.cells z1 71))=W3 at *
 obtain ⟨ob,hob⟩:∃ b,W2.heap.size=b:=⟨_,rfl⟩
 rw [hob] at kl h3 ⊢
 have HS:Hid (w0.heap.size≤b1∧b1 < ob):=Lib.hid (by have h2:=HB1.out; omega)
 have TP:Hid (TabP W3 ob [] N M (.string ⟨#[]⟩) 71 28):=Lib.hid ⟨by
  rw [← HZ1.out] at kl
  rw [show ([]:List Nat).map (fun b=>Value.slice (some ⟨b,0,none⟩) M M) ++ List.replicate (N - ([]:List Nat).length) (Value.slice none 0 0)=(List.range N).map (fun _=>Value.slice none 0 0) from by
   rw [List.map_const',List.length_range]; rfl]
  exact kl,fun i hi=>by simp at hi,by simp,by simp⟩
 clear kl q3 h3 hob hm1 hN hM
 go_wp2
 go_loopw [6] (fun iv wr=>∃ (i:Nat) (rb:List Nat),rb.length=i∧i≤N∧iv=.int .i64 i∧TabP wr ob rb N M (.string ⟨#[]⟩) 71 28∧(∀ g ∈ rb,b1 < g)∧Blk wr b1 #[.slice A1 l1 n1,.slice A2 l2 n2,.string (qT (2 * q.ch)),.string (qT (2 * q.mi)),.string (qT (2 * q.ga)),.string (qT (2 * q.re))] 32∧Below w0.heap.size w0 wr) (fun iv _=>N - (intOf iv).toNat)
 case atStart=>exact ⟨0,[],rfl,Nat.zero_le _,rfl,TP.out,fun g h=>(by cases h),K1.out,B.out⟩
 case round =>
  clear TP K1 B
  obtain ⟨i,rb,hrl,hi,rfl,htp,hrg,hk1,hb⟩:=hrel
  have TP:=Lib.hid htp
  have K1:=Lib.hid hk1
  have B:=Lib.hid hb
  have HRG:=Lib.hid hrg
  have HRL:=Lib.hid hrl
  clear htp hk1 hb hrg hrl
  by_cases hlt:i < N
  ·have hz1:(i:Int)≤(l1:Int):=by have:=HN.out; omega
   have hz2:decide ((i:Int)≤(l1:Int))=true:=decide_eq_true hz1
   have hiN:(i:Int) < (N:Int):=by omega
   have hwi:IntKind.i64.wrap ((i:Int) + 1)=(i:Int) + 1:=IntWalk.i64_in _ (by have:=HN.out; omega)
   have hwm:IntKind.i64.wrap ((l2:Int) + 1)=(l2:Int) + 1:=IntWalk.i64_in _ (by omega)
   have hm2:=HM2.out
   have qn:=below_new wr (.cells z2 28)
   have z0:=(TP.out.out.below qn).free i
   have x0:=(TP.out.out.below qn).atL i (.slice none 0 0) (by
    have:=HRL.out
    rw [List.getElem?_append_right (by simp; omega),List.getElem?_replicate,if_pos (by simp; omega)])
   have hnx:=TP.out.next (by have:=HRL.out; omega)
   rw [HZ2.out,HRL.out] at hnx
   have HNX:=Lib.hid hnx
   have HBB:Hid (Below w0.heap.size w0 ((wr.alloc (.cells z2 28)).setCell ⟨ob,i,none⟩ (.slice (some ⟨wr.heap.size,0,none⟩) M M))):=Lib.hid (Below.setCell (p:=⟨ob,i,none⟩) (B.out.trans (qn.mono B.out.size)) (by have:=HS.out; show w0.heap.size≤ob; omega) _)
   have HK:Hid (Blk ((wr.alloc (.cells z2 28)).setCell ⟨ob,i,none⟩ (.slice (some ⟨wr.heap.size,0,none⟩) M M)) b1 #[.slice A1 l1 n1,.slice A2 l2 n2,.string (qT (2 * q.ch)),.string (qT (2 * q.mi)),.string (qT (2 * q.ga)),.string (qT (2 * q.re))] 32):=Lib.hid ((K1.out.below qn).one (show b1 ≠ ob by have:=HS.out; omega) i _)
   have HLW:Hid (b1 < wr.heap.size):=Lib.hid K1.out.lt
   clear hnx qn K1 B TP
   go_wp2
   exact ⟨⟨i + 1,rb ++ [wr.heap.size],by rw [List.length_append,HRL.out]; rfl,by omega,by go_num,HNX.out,fun g hg=>by
    rcases List.mem_append.1 hg with h | h
    ·exact HRG.out g h
    ·rw [List.mem_singleton] at h; subst h; exact HLW.out,HK.out,HBB.out⟩,by simp [intOf]; omega⟩
  have hz3:¬ (i:Int)≤(l1:Int):=by have:=HN.out; omega
  have hz4:decide ((i:Int)≤(l1:Int))=false:=decide_eq_false hz3
  have hiN:i=N:=by omega
  rw [hiN] at HRL hz3 hz4
  rw [hiN]
  have hm2:=HM2.out
  have HTAB:=Lib.hid (TP.out.done HRL.out)
  have KQ:=Lib.hid K1.out
  have HRM:Hid (q.R.length + 1=M):=Lib.hid (by have:=HL2.out; have:=HM.out; omega)
  have HLN:Hid (q.L.length + 1=N):=Lib.hid (by have:=HL1.out; have:=HN.out; omega)
  clear TP K1 hi hlt hiN
  clear i
  have l0:0 < rb.length:=by have:=HRL.out; have:=HN.out; omega
  have hS0:StF w0 b1 ob rb q (.slice A1 l1 n1) (.slice A2 l2 n2) (fun _ _=>⟨#[]⟩) wr:=⟨B.out,KQ.out,by rw [HRM.out]; exact HTAB.out,HS.out,HRG.out⟩
  have x1:=hS0.tab.cell1 0 l0
  have x2:=hS0.tab.cell2 0 0 l0 (by omega)
  have x3:=hS0.tab.free 0 0 l0
  have HS1:=Lib.hid (hS0.set 0 0 l0 ⟨#[48]⟩)
  have t1:(0:Int) < (N:Int):=by have:=HN.out; omega
  have t2:(0:Int) < (M:Int):=by have:=HM.out; omega
  have t3:0 < N:=by omega
  have t4:0 < M:=by omega
  rw [HRM.out] at x1
  clear hS0 HTAB KQ B
  generalize rb[0]=r0 at *
  clear l0
  go_upto_region 8 with (fail)
  clear x1 x2 x3 hz3 hz4 t1 t2 t3 t4
  have S:Hid (StF w0 b1 ob rb q (.slice A1 l1 n1) (.slice A2 l2 n2) (potT q (potA q 0)) (wr.setCell ⟨r0,0,none⟩ (.string ⟨#[48]⟩))):=Lib.hid (HS1.out.congr (fun p r _ _=>by
   unfold potT
   rw [potA_zero]
   by_cases h:p=0∧r=0
   ·rw [if_pos h,if_pos h]
    show _=qT 0
    rw [qT_zero]
   ·rw [if_neg h,if_neg h]; rfl))
  clear HS1
  generalize (wr.setCell ⟨r0,0,none⟩ (.string ⟨#[48]⟩))=W8 at *
  go_wp2
  go_loopw [7] (fun iv wx=>∃ i:Nat,i≤N∧iv=.int .i64 i∧StF w0 b1 ob rb q (.slice A1 l1 n1) (.slice A2 l2 n2) (potT q (potA q (i * M))) wx) (fun iv _=>N - (intOf iv).toNat)
  case atStart=>exact ⟨0,Nat.zero_le _,rfl,by rw [Nat.zero_mul]; exact S.out⟩
  case round =>
   clear S
   obtain ⟨i,hi,rfl,hS⟩:=hrel
   have S:=Lib.hid hS
   clear hS
   by_cases hlt:i < N
   case neg =>
    have hz1:¬ (i:Int)≤(l1:Int):=by have:=HN.out; omega
    have hz2:decide ((i:Int)≤(l1:Int))=false:=decide_eq_false hz1
    obtain rfl:i=N:=by omega
    have HF:Hid (TabT wr ob rb (q.R.length + 1) (frnT q) 71 28):=Lib.hid (S.out.tab.congr (fun p r hp hr=>by
     have e:potA q (i * M) p r=some (frn q p r):=by
      rw [← HLN.out,← HRM.out]
      exact frn_some (cst_bdS q OK.out) (by have:=HRL.out; have:=HLN.out; omega) (by omega)
     unfold potT
     rw [e]; rfl))
    have HBB:=Lib.hid S.out.bb
    have HG:Hid (w0.heap.size≤ob∧∀ g ∈ rb,w0.heap.size≤g):=Lib.hid ⟨by have:=HS.out; omega,fun g hg=>by have:=HS.out; have:=HRG.out g hg; omega⟩
    clear S hi hlt
    go_wp2
    go_ret
    exact ⟨ob,rfl,rb,HRL.out,(by have h:=HF.out; rw [HL2.out] at h; exact h),HG.out.1,HG.out.2,HBB.out⟩
   have hz1:(i:Int)≤(l1:Int):=by have:=HN.out; omega
   have hz2:decide ((i:Int)≤(l1:Int))=true:=decide_eq_true hz1
   have hiQ:i≤q.L.length:=by have:=HLN.out; omega
   have hwi:IntKind.i64.wrap ((i:Int) + 1)=(i:Int) + 1:=IntWalk.i64_in _ (by have:=HN.out; omega)
   go_wp2
   go_loopw [8] (fun jv wx=>∃ j:Nat,j≤M∧jv=.int .i64 j∧StF w0 b1 ob rb q (.slice A1 l1 n1) (.slice A2 l2 n2) (potT q (potA q (i * M + j))) wx) (fun jv _=>M - (intOf jv).toNat)
   case atStart=>exact ⟨0,Nat.zero_le _,rfl,S.out⟩
   case round =>
    clear S
    obtain ⟨j,hj,rfl,hS⟩:=hrel
    have S:=Lib.hid hS
    clear hS
    by_cases hlj:j < M
    case neg =>
     have hz3:¬ (j:Int)≤(l2:Int):=by have:=HM.out; omega
     have hz4:decide ((j:Int)≤(l2:Int))=false:=decide_eq_false hz3
     have S9:Hid (StF w0 b1 ob rb q (.slice A1 l1 n1) (.slice A2 l2 n2) (potT q (potA q ((i + 1) * M))) wr):=Lib.hid (by rw [Nat.succ_mul,← (show j=M by omega)]; rw [show j=M by omega]; have h:=S.out; rw [show j=M by omega] at h; exact h)
     clear S
     go_wp2
     exact ⟨⟨i + 1,by omega,by go_num,S9.out⟩,by simp [intOf]; omega⟩
    have hz3:(j:Int)≤(l2:Int):=by have:=HM.out; omega
    have hz4:decide ((j:Int)≤(l2:Int))=true:=decide_eq_true hz3
    have hjQ:j≤q.R.length:=by have:=HRM.out; omega
    have hwj:IntKind.i64.wrap ((j:Int) + 1)=(j:Int) + 1:=IntWalk.i64_in _ (by have:=HM.out; omega)
    have hidx:Hid (i * M + j=idx q i j):=Lib.hid (by unfold idx; rw [HRM.out])
    rw [hidx.out] at S
    have HTS:Hid ((potA q (idx q i j) i j).isSome=true∧InvP q 60000 (potA q (idx q i j))):=Lib.hid (by
     have h:potA q (idx q i j) i j=some (frn q i j):=frn_at (cst_bdS q OK.out) hiQ hjQ 0 (by omega)
     exact ⟨by rw [h]; rfl,potA_bd q OK.out _ (Nat.le_of_lt (idx_lt q hiQ hjQ))⟩)
    go_wp2
    go_loopw [9] (fun kv wk=>∃ k:Nat,1≤k∧k≤6∧kv=.int .i64 k∧StF w0 b1 ob rb q (.slice A1 l1 n1) (.slice A2 l2 n2) (potT q (posTk q i j (potA q (idx q i j)) (k - 1))) wk) (fun kv _=>(6 - intOf kv).toNat)
    case atStart=>exact ⟨1,by omega,by omega,rfl,S.out⟩
    case round =>
     clear S
     obtain ⟨k,hk1,hk6,rfl,hS⟩:=hrel
     have S:=Lib.hid hS
     clear hS
     by_cases hk5:k≤5
     case neg =>
      obtain rfl:k=6:=by omega
      have S9:Hid (StF w0 b1 ob rb q (.slice A1 l1 n1) (.slice A2 l2 n2) (potT q (potA q (i * M + (j + 1)))) wr):=Lib.hid (by
       have h:=S.out
       rw [show 6 - 1=5 from rfl] at h
       rw [← Nat.add_assoc,← HRM.out,potA_next q i j hjQ,HRM.out,hidx.out]
       exact h)
      clear S
      go_wp2
      exact ⟨⟨j + 1,by omega,by go_num,S9.out⟩,by simp [intOf]; omega⟩
     have hkz:(k:Int)≤5:=by omega
     have hkd:decide ((k:Int)≤5)=true:=decide_eq_true hkz
     have hwk:IntKind.i64.wrap ((k:Int) + 1)=(k:Int) + 1:=IntWalk.i64_in _ (by omega)
     have HKK:=Lib.hid (And.intro hk1 hk5)
     have hX:∃ X er,costV q k i j=.tuple #[.string X,.int .i64 er]∧(okS q k i j→X=qT (cst q k i j)∧er=0)∧(¬ okS q k i j→er ≠ 0):=by
      by_cases ho:okS q k i j
      ·exact ⟨_,_,costV_ok HKK.out hiQ hjQ ho,fun _=>⟨rfl,rfl⟩,fun h=>absurd ho h⟩
      ·obtain ⟨er,h1,h2⟩:=costV_no HKK.out hiQ hjQ ho
       exact ⟨_,_,h2,fun h=>absurd h ho,fun _=>h1⟩
     obtain ⟨X,er,hcv,hxo,hxn⟩:=hX
     have HXO:=Lib.hid hxo
     have HXN:=Lib.hid hxn
     have hlc:=lcost_any q OK.out k i j _ _ w0 HE.out (by rw [← HL1.out,← HL2.out] at HQ; exact HQ.out)
     rw [HL1.out,HL2.out,hcv] at hlc
     have HLC0:=Lib.hid hlc
     obtain ⟨t,ht⟩:∃ t,posTk q i j (potA q (idx q i j)) (k - 1)=t:=⟨_,rfl⟩
     rw [ht] at S
     have HT:=Lib.hid ht
     clear hcv hxo hxn hlc ht
     have HNXT:Hid (posTk q i j (potA q (idx q i j)) (k + 1 - 1)=stepT q i j t k):=Lib.hid (by rw [Nat.add_sub_cancel,posTk_st q i j _ k HKK.out.1 HKK.out.2,HT.out])
     go_upto_region 18 with (fail)
     have KS:=Lib.hid (Blk.fresh wr #[.int .i64 k,.int .i64 i,.int .i64 j] 56)
     have qs:=below_new wr (.cells #[.int .i64 k,.int .i64 i,.int .i64 j] 56)
     replace S:=Lib.hid (S.out.below qs)
     clear qs
     generalize (wr.alloc (.cells #[.int .i64 k,.int .i64 i,.int .i64 j] 56))=V1 at *
     obtain ⟨bs,hbs⟩:∃ b,wr.heap.size=b:=⟨_,rfl⟩
     rw [hbs] at KS ⊢
     clear hbs
     have HLC:Hid (Ret Tryz.prog V1 24 #[.agg #[.slice A1 l1 n1,.slice A2 l2 n2,.string (qT (2 * q.ch)),.string (qT (2 * q.mi)),.string (qT (2 * q.ga)),.string (qT (2 * q.re))],.agg #[.int .i64 k,.int .i64 i,.int .i64 j]] (.tuple #[.string X,.int .i64 er])):=Lib.hid (fun W hW=>HLC0.out W (S.out.bb.trans (hW.mono S.out.bb.size)))
     refine wp_tab (.v 58 (.agg #[.slice A1 l1 n1,.slice A2 l2 n2,.string (qT (2 * q.ch)),.string (qT (2 * q.mi)),.string (qT (2 * q.ga)),.string (qT (2 * q.re))]) :: .v 59 (.agg #[.int .i64 k,.int .i64 i,.int .i64 j]) :: .v 60 (.tuple #[.string X,.int .i64 er]) :: .v 57 (.tuple #[.string X,.int .i64 er]) :: .v 61 (.string X) :: .v 62 (.int .i64 er) :: .v 11 (.string X) :: .v 12 (.int .i64 er) :: []) [] [⟨b1,#[.slice A1 l1 n1,.slice A2 l2 n2,.string (qT (2 * q.ch)),.string (qT (2 * q.mi)),.string (qT (2 * q.ga)),.string (qT (2 * q.re))],32,none⟩,⟨bs,#[.int .i64 k,.int .i64 i,.int .i64 j],56,none⟩] [] [] [] [] [] (by kernel_rfl) (Below.refl _ _) ⟨S.out.kq,KS.out,trivial⟩ trivial ⟨ld 0 0,ld 1 0,cl HLC.out,pu,pu,pu,pu,pu,trivial⟩ ?_
     clear HLC
     rintro σ V2 _ ⟨_,KS2,_⟩ _ _ q9
     simp only [slotsOf,finX,nval,nvalN,nvalA,Nat.reduceBEq,cond_true,cond_false,putAll,Act.put,List.setIfInBounds_toArray,List.set_cons_succ,List.set_cons_zero]
     replace S:=Lib.hid (S.out.below q9)
     clear KS q9 HLC0
     by_cases ho:okS q k i j
     case neg =>
      have hn0:=HXN.out ho
      have hn:(er == 0)=false:=by rw [beq_eq_false_iff_ne]; exact hn0
      have S9:Hid (StF w0 b1 ob rb q (.slice A1 l1 n1) (.slice A2 l2 n2) (potT q (posTk q i j (potA q (idx q i j)) (k + 1 - 1))) V2):=Lib.hid (by rw [HNXT.out,show stepT q i j t k=t from if_neg ho]; exact S.out)
      clear S HXO HXN KS2
      go_wp2
      exact ⟨⟨k + 1,by omega,by omega,rfl,S9.out⟩,by simp [intOf]; omega⟩
     obtain ⟨rfl,rfl⟩:=HXO.out ho
     have d0:=KS2.at_ 0 _ rfl
     have d1:=KS2.at_ 1 _ rfl
     have d2:=KS2.at_ 2 _ rfl
     have hnx:=lafter_any k i j (by omega) (by omega) V2
     rw [nzI_nat,nzJ_nat k j HKK.out] at hnx
     have HAF:=Lib.hid hnx
     clear hnx HXO HXN KS2
     go_upto_region 21 with (first
      | (go_at_call 32; with_reducible refine (HAF.out _ (Below.refl _ _)).mono ?_; rintro e V3 ⟨rfl,q3⟩)
      | fail "arm")
     clear d0 d1 d2 HAF
     replace S:=Lib.hid (S.out.below q3)
     clear q3
     have hoa:=ho.1
     have hob:=ho.2.1
     have hu:t i j=some (frn q i j):=by
      rw [← HT.out]
      exact frn_at (cst_bdS q OK.out) hiQ hjQ (k - 1) (by omega)
     have hinv:InvP q 60000 t:=by
      rw [← HT.out]
      exact posTk_inv (cst_bdS q OK.out) HTS.out.1 HTS.out.2 (k - 1) (by omega)
     have hb1:=inv_bd OK.out hinv i j _ hu
     have hb2:=cst_bd q OK.out k i j
     have hb3:∀ y,t (nxI k i) (nxJ k j)=some y→0≤y∧y≤720000:=fun y hy=>inv_bd OK.out hinv _ _ y hy
     have HB3:=Lib.hid hb3
     have hadd:=rAddQ (cst q k i j) (frn q i j) (by omega) (by omega) w0 HE.out
     rw [Int.add_comm] at hadd
     have HADD:=Lib.hid hadd
     have HRC:Hid (0≤frn q i j + cst q k i j∧frn q i j + cst q k i j≤780000):=Lib.hid (by omega)
     have li:i < rb.length:=by rw [HRL.out]; exact hlt
     have la:nxI k i < rb.length:=by have:=HRL.out; have:=HLN.out; omega
     have HAB:Hid (nxI k i < N∧nxJ k j < M):=Lib.hid (by have:=HLN.out; have:=HRM.out; omega)
     have HSTEP:Hid (∀ p r,optT (stepT q i j t k p r)=(if p=nxI k i∧r=nxJ k j then optT (imp (t (nxI k i) (nxJ k j)) (frn q i j + cst q k i j)) else optT (t p r))):=Lib.hid (fun p r=>stepT_tabN q i j k t ho _ hu p r)
     have x1:=S.out.tab.cell1 i li
     have x2:=S.out.tab.cell2 i j li (by omega)
     rw [HRM.out] at x1
     rw [show potT q t i j=qT (frn q i j) by unfold potT; rw [hu]; rfl] at x2
     have z1:(i:Int) < (N:Int):=by omega
     have z2':(j:Int) < (M:Int):=by omega
     have z3:(nxI k i:Int) < (N:Int):=by have:=HAB.out; omega
     have z4:(nxJ k j:Int) < (M:Int):=by have:=HAB.out; omega
     clear hoa hob hu hinv hb1 hb2 hb3 hadd ho
     generalize rb[i]=ri at *
     clear li
     obtain ⟨rc,hrc⟩:∃ x,frn q i j + cst q k i j=x:=⟨_,rfl⟩
     rw [hrc] at HADD HRC HSTEP
     clear hrc
     generalize qT (frn q i j)=tf at *
     generalize qT (cst q k i j)=tk at *
     go_upto_region 22 with (first
      | (go_at_call 21; with_reducible refine (HADD.out _ S.out.bb).mono ?_; rintro e V4 ⟨rfl,q4⟩)
      | fail "arm")
     clear x1 x2 HADD
     replace S:=Lib.hid (S.out.below q4)
     clear q4
     have HX1:Hid (∀ W,StF w0 b1 ob rb q (.slice A1 l1 n1) (.slice A2 l2 n2) (potT q t) W→W.cell? ⟨ob,nxI k i,none⟩=some (.slice (some ⟨rb[nxI k i],0,none⟩) M M)∧W.cell? ⟨rb[nxI k i],nxJ k j,none⟩=some (.string (optT (t (nxI k i) (nxJ k j))))∧W.frozen? ⟨rb[nxI k i],nxJ k j,none⟩=false):=Lib.hid (fun W h=>by
      have a:=h.tab.cell1 (nxI k i) la
      rw [HRM.out] at a
      exact ⟨a,h.tab.cell2 (nxI k i) (nxJ k j) la (by have:=HAB.out; have:=HRM.out; omega),h.tab.free _ _ la⟩)
     have HSET:Hid (∀ W,StF w0 b1 ob rb q (.slice A1 l1 n1) (.slice A2 l2 n2) (potT q t) W→imp (t (nxI k i) (nxJ k j)) rc=some rc→StF w0 b1 ob rb q (.slice A1 l1 n1) (.slice A2 l2 n2) (potT q (posTk q i j (potA q (idx q i j)) (k + 1 - 1))) (W.setCell ⟨rb[nxI k i],nxJ k j,none⟩ (.string (qT rc)))):=Lib.hid (fun W h e=>by
      rw [HNXT.out]
      refine (h.set (nxI k i) (nxJ k j) la (qT rc)).congr (fun p r _ _=>?_)
      show _=optT (stepT q i j t k p r)
      rw [HSTEP.out,e]; rfl)
     have HSAME:Hid (∀ W,StF w0 b1 ob rb q (.slice A1 l1 n1) (.slice A2 l2 n2) (potT q t) W→imp (t (nxI k i) (nxJ k j)) rc=t (nxI k i) (nxJ k j)→StF w0 b1 ob rb q (.slice A1 l1 n1) (.slice A2 l2 n2) (potT q (posTk q i j (potA q (idx q i j)) (k + 1 - 1))) W):=Lib.hid (fun W h e=>by
      rw [HNXT.out]
      refine h.congr (fun p r _ _=>?_)
      show optT (t p r)=optT (stepT q i j t k p r)
      rw [HSTEP.out]
      by_cases h:p=nxI k i∧r=nxJ k j
      ·rw [if_pos h,e,h.1,h.2]
      ·rw [if_neg h])
     generalize rb[nxI k i]=ra at *
     clear la HSTEP HT
     generalize hoa:t (nxI k i) (nxJ k j)=oa at *
     clear hoa
     generalize nxI k i=am at *
     generalize nxJ k j=bm at *
     obtain ⟨y1,y2,y3⟩:=HX1.out _ S.out
     cases oa with
     | none =>
      have e1:optT none=⟨#[]⟩:=rfl
      rw [e1] at y2
      have S9:=Lib.hid (HSET.out _ S.out rfl)
      clear e1 S HSET HSAME HX1 HB3 HRC HAB
      generalize qT rc=tc at *
      go_wp2
      exact ⟨⟨k + 1,by omega,by omega,rfl,S9.out⟩,by simp [intOf]; omega⟩
     | some y =>
      have e1:optT (some y)=qT y:=rfl
      rw [e1] at y2
      have hyb:=HB3.out y rfl
      have hne:=qT_ne y
      have hcm:=rCmpQ rc y (by have:=HRC.out; omega) (by omega) w0 HE.out
      have HCM:=Lib.hid hcm
      have HX2:Hid (∀ W,StF w0 b1 ob rb q (.slice A1 l1 n1) (.slice A2 l2 n2) (potT q t) W→W.cell? ⟨ob,am,none⟩=some (.slice (some ⟨ra,0,none⟩) M M)∧W.cell? ⟨ra,bm,none⟩=some (.string (qT y))∧W.frozen? ⟨ra,bm,none⟩=false):=Lib.hid (fun W h=>HX1.out W h)
      clear e1 hcm HX1
      by_cases hly:rc < y
      ·have g1:decide ((rc - y).sign < 0)=true:=by rw [dsign_ltC]; exact decide_eq_true (by omega)
       have HST2:=Lib.hid (fun W h=>HSET.out W h (show imp (some y) rc=some rc from if_pos hly))
       generalize (rc - y).sign=sg at *
       clear hly hyb HSET HSAME HB3 HRC HAB
       generalize qT rc=tc at *
       generalize qT y=ty at *
       go_upto_region 23 with (first
        | (go_at_call 22; with_reducible refine (HCM.out _ S.out.bb).mono ?_; rintro e V5 ⟨rfl,q5⟩; replace S:=Lib.hid (S.out.below q5); clear q5 y1 y2 y3)
        | fail "arm")
       obtain ⟨y1,y2,y3⟩:=HX2.out _ S.out
       have S9:=Lib.hid (HST2.out _ S.out)
       clear S HST2 HX2 HCM
       go_wp2
       exact ⟨⟨k + 1,by omega,by omega,rfl,S9.out⟩,by simp [intOf]; omega⟩
      ·have g1:decide ((rc - y).sign < 0)=false:=by rw [dsign_ltC]; exact decide_eq_false (by omega)
       have HST2:=Lib.hid (fun W h=>HSAME.out W h (show imp (some y) rc=some y from if_neg hly))
       generalize (rc - y).sign=sg at *
       clear hly hyb HSET HSAME HB3 HRC HAB
       generalize qT rc=tc at *
       generalize qT y=ty at *
       go_wp2_with (first
        | (go_at_call 22; with_reducible refine (HCM.out _ S.out.bb).mono ?_; rintro e V5 ⟨rfl,q5⟩; replace S:=Lib.hid (S.out.below q5); clear q5 y1 y2 y3)
        | fail "arm")
       have S9:=Lib.hid (HST2.out _ S.out)
       exact ⟨⟨k + 1,by omega,by omega,rfl,S9.out⟩,by simp [intOf]; omega⟩

end Go.Proofs.YthhkmihjnnfpgaaGreatDoor
