/- The law's fronts and proves of chapter 44. -/
import Derived.Test.YthhkmihjnnfpgaaGreatDoorGCorRa
import Derived.Test.YthhkmihjnnfpgaaGreatDoorGCorE
import Derived.Test.YthhkmihjnnfpgaaGreatDoorGCorV
import Derived.Test.YthhkmihjnnfpgaaGreatDoorGCorTh
import Derived.Test.YthhkmihjnnfpgaaGreatDoorGCorB
/- The law's fronts. -/
namespace Go.Proofs.YthhkmihjnnfpgaaGreatDoor
set_option linter.all false
open Go.RowKit

attribute [local go_sem] Oper.semAt_some

structure StF (w0:World) (b1 ob:Nat) (rb:List Nat) (q:CQ) (sl sr:Value) (c:Nat→Nat→ByteArray) (W:World):Prop where
 bb:Below w0.heap.size w0 W
 kq:Blk W b1 #[sl,sr,.string (qT (2 * q.ch)),.string (qT (2 * q.mi)),.string (qT (2 * q.ga)),.string (qT (2 * q.re))] 32
 tab:TabT W ob rb (q.R.length + 1) c 71 28
 s1:w0.heap.size≤b1∧b1 < ob
 s3:∀ g ∈ rb,b1 < g
section
variable {w0 W W':World} {b1 ob:Nat} {rb:List Nat} {q:CQ} {sl sr:Value} {c:Nat→Nat→ByteArray}
theorem StF.below (h:StF w0 b1 ob rb q sl sr c W) (k:Below W.heap.size W W'):StF w0 b1 ob rb q sl sr c W':=⟨h.bb.trans (k.mono h.bb.size),h.kq.below k,h.tab.below k,h.s1,h.s3⟩
theorem StF.congr {c':Nat→Nat→ByteArray} (h:StF w0 b1 ob rb q sl sr c W) (e:∀ p r,p < rb.length→r < q.R.length + 1→c p r=c' p r):StF w0 b1 ob rb q sl sr c' W:=⟨h.bb,h.kq,h.tab.congr (fun p r a b=>by rw [e p r a b]),h.s1,h.s3⟩
theorem StF.set (h:StF w0 b1 ob rb q sl sr c W) (i j:Nat) (hi:i < rb.length) (t:ByteArray):StF w0 b1 ob rb q sl sr (fun p r=>if p=i∧r=j then t else c p r) (W.setCell ⟨rb[i],j,none⟩ (.string t)):=by
 have hm:=List.getElem_mem hi
 have h3:=h.s3 _ hm
 have h1:=h.s1
 have k:=Wrote.set (h.tab.row i hi) j (.string t)
 refine ⟨h.bb.trans (k.below.mono (by omega)),h.kq.keptC k.kept (show b1 ≠ rb[i] by omega),(h.tab.set i j hi (.string t)).congr (fun p r _ _=>?_),h.s1,h.s3⟩
 show (if p=i∧r=j then Value.string t else Value.string (c p r))=Value.string (if p=i∧r=j then t else c p r)
 by_cases e:p=i∧r=j
 ·rw [if_pos e,if_pos e]
 ·rw [if_neg e,if_neg e]
end
theorem stepT_tabN (q:CQ) (i j k:Nat) (t:Nat→Nat→Option Int) (ho:okS q k i j) (u:Int) (hu:t i j=some u) (p r:Nat) :
  optT (stepT q i j t k p r)=(if p=nxI k i∧r=nxJ k j then optT (imp (t (nxI k i) (nxJ k j)) (u + cst q k i j)) else optT (t p r)):=by
 unfold stepT
 rw [if_pos ho,hu]
 unfold updO
 by_cases h:p=nxI k i∧r=nxJ k j
 ·rw [if_pos h,if_pos h]; rfl
 ·rw [if_neg h,if_neg h]
theorem posTk_st (q:CQ) (i j:Nat) (t:Nat→Nat→Option Int) (k:Nat) (h1:1≤k) (h2:k≤5):posTk q i j t k=stepT q i j (posTk q i j t (k - 1)) k:=by
 have h:=posTk_next q i j t (k - 1) (by omega)
 rw [show k - 1 + 1=k by omega] at h
 exact h
set_option maxRecDepth 100000 in
set_option maxHeartbeats 8000000 in
theorem fronts_any (q:CQ) (ok:OkQ q) (sl sr:Value) (w0:World) (he:Env w0) (hq:QAt w0 sl sr q) :
  Calls Tryz.prog 31 #[.agg #[sl,sr,.string (qT (2 * q.ch)),.string (qT (2 * q.mi)),.string (qT (2 * q.ga)),.string (qT (2 * q.re))]] w0 fun e w'=>∃ ob rb,e=.returned (.slice (some ⟨ob,0,none⟩) (q.L.length + 1) (q.L.length + 1))∧rb.length=q.L.length + 1 ∧
   TabT w' ob rb (q.R.length + 1) (frnT q) 71 28∧w0.heap.size≤ob∧(∀ g ∈ rb,w0.heap.size≤g)∧Below w0.heap.size w0 w':=by
 have hll:=ok.hl
 have hrr:=ok.hr
 have HE:=Lib.hid he
 have HQ:=Lib.hid hq
 have OK:=Lib.hid ok
 obtain ⟨A1,n1,rfl,_⟩:=hq.l
 obtain ⟨A2,n2,rfl,_⟩:=hq.r
 clear he hq ok
 have B:=Lib.hid (Below.refl w0.heap.size w0)
 go_enter Tryz.func31,Tryz.ntmps31
 obtain ⟨l1,hl1⟩:∃ n,q.L.length=n:=⟨_,rfl⟩
 obtain ⟨l2,hl2⟩:∃ n,q.R.length=n:=⟨_,rfl⟩
 have HL1:=Lib.hid hl1
 have HL2:=Lib.hid hl2
 rw [hl1,hl2] at HQ
 rw [hl1,hl2]
 rw [hl1] at hll
 rw [hl2] at hrr
 clear hl1 hl2
 obtain ⟨N,hN⟩:∃ n,l1 + 1=n:=⟨_,rfl⟩
 obtain ⟨M,hM⟩:∃ n,l2 + 1=n:=⟨_,rfl⟩
 have HN:=Lib.hid hN
 have HM:=Lib.hid hM
 have hm1:=run_mkv (P:=Tryz.prog) (t:=44) (e:=71) (z:=.slice none 0 0) (bytes:=24) Tryz.underlying44 (by kernel_rfl) rfl (by omega) N (by omega) ((l1:Int) + 1) (by omega)
 have hm2:=run_mkv (P:=Tryz.prog) (t:=71) (e:=28) (z:=.string ⟨#[]⟩) (bytes:=16) Tryz.underlying71 (by kernel_rfl) rfl (by omega) M (by omega) ((l2:Int) + 1) (by omega)
 obtain ⟨z1,hz1⟩:∃ z,((List.range N).map (fun _=>Value.slice none 0 0)).toArray=z:=⟨_,rfl⟩
 obtain ⟨z2,hz2⟩:∃ z,((List.range M).map (fun _=>Value.string ⟨#[]⟩)).toArray=z:=⟨_,rfl⟩
 rw [hz1] at hm1
 rw [hz2] at hm2
 have HZ1:=Lib.hid hz1
 have HZ2:=Lib.hid hz2
 have HM2:=Lib.hid hm2
 clear hz1 hz2 hm2
 rw [hN]
 go_upto_region 1 with (fail)
 have K1:=Lib.hid (Blk.fresh w0 #[.slice A1 l1 n1,.slice A2 l2 n2,.string (qT (2 * q.ch)),.string (qT (2 * q.mi)),.string (qT (2 * q.ga)),.string (qT (2 * q.re))] 32)
 have q1:=below_new w0 (.cells #[.slice A1 l1 n1,.slice A2 l2 n2,.string (qT (2 * q.ch)),.string (qT (2 * q.mi)),.string (qT (2 * q.ga)),.string (qT (2 * q.re))] 32)
 replace B:=Lib.hid (B.out.trans (q1.mono B.out.size))
 clear q1
 generalize (w0.alloc (.cells #[.slice A1 l1 n1,.slice A2 l2 n2,.string (qT (2 * q.ch)),.string (qT (2 * q.mi)),.string (qT (2 * q.ga)),.string (qT (2 * q.re))] 32))=W1 at *
 obtain ⟨b1,hb1⟩:∃ b,w0.heap.size=b:=⟨_,rfl⟩
 have HB1:=Lib.hid hb1
 rw [hb1] at K1 ⊢
 clear hb1
 refine wp_tab (.v 15 (.pointer (some ⟨b1,0,none⟩)) :: .v 16 (.slice A1 l1 n1) :: .v 17 (.int .i64 l1) :: .v 18 (.pointer (some ⟨b1,1,none⟩)) :: .v 19 (.slice A2 l2 n2) :: .v 20 (.int .i64 l2) :: .v 3 (.int .i64 l1) :: .v 4 (.int .i64 l2) :: []) [] [⟨b1,#[.slice A1 l1 n1,.slice A2 l2 n2,.string (qT (2 * q.ch)),.string (qT (2 * q.mi)),.string (qT (2 * q.ga)),.string (qT (2 * q.re))],32,none⟩] [] [] [] [] [] (by kernel_rfl) B.out ⟨K1.out,trivial⟩ trivial ⟨pu,ld 0 0,pu,pu,ld 0 1,pu,pu,pu,trivial⟩ ?_
 clear K1 B
 rintro σ W2 _ ⟨K1,_⟩ _ _ B
 simp only [slotsOf,finX,nval,nvalN,nvalA,Nat.reduceBEq,cond_true,cond_false,putAll,Act.put,List.setIfInBounds_toArray,List.set_cons_succ,List.set_cons_zero]
 go_upto_region 3 with (fail)
 have kl:=Blk.fresh W2 z1 71
 have q3:=below_new W2 (.cells z1 71)
 have h3:b1 < W2.heap.size:=K1.out.lt
 replace K1:=Lib.hid (K1.out.below q3)
 replace B:=Lib.hid (B.out.trans (q3.mono B.out.size))
 generalize (W2.alloc (.cells z1 71))=W3 at *
 obtain ⟨ob,hob⟩:∃ b,W2.heap.size=b:=⟨_,rfl⟩
 rw [hob] at kl h3 ⊢
 have HS:Hid (w0.heap.size≤b1∧b1 < ob):=Lib.hid (by have h2:=HB1.out; omega)
 have TP:Hid (TabP W3 ob [] N M (.string ⟨#[]⟩) 71 28):=Lib.hid ⟨by
  rw [← HZ1.out] at kl
  rw [show ([]:List Nat).map (fun b=>Value.slice (some ⟨b,0,none⟩) M M) ++ List.replicate (N - ([]:List Nat).length) (Value.slice none 0 0)=(List.range N).map (fun _=>Value.slice none 0 0) from by
   rw [List.map_const',List.length_range]; rfl]
  exact kl,fun i hi=>by simp at hi,by simp,by simp⟩
 clear kl q3 h3 hob hm1 hN hM
 go_wp2
 go_loopw [6] (fun iv wr=>∃ (i:Nat) (rb:List Nat),rb.length=i∧i≤N∧iv=.int .i64 i∧TabP wr ob rb N M (.string ⟨#[]⟩) 71 28∧(∀ g ∈ rb,b1 < g)∧Blk wr b1 #[.slice A1 l1 n1,.slice A2 l2 n2,.string (qT (2 * q.ch)),.string (qT (2 * q.mi)),.string (qT (2 * q.ga)),.string (qT (2 * q.re))] 32∧Below w0.heap.size w0 wr) (fun iv _=>N - (intOf iv).toNat)
 case atStart=>exact ⟨0,[],rfl,Nat.zero_le _,rfl,TP.out,fun g h=>(by cases h),K1.out,B.out⟩
 case round =>
  clear TP K1 B
  obtain ⟨i,rb,hrl,hi,rfl,htp,hrg,hk1,hb⟩:=hrel
  have TP:=Lib.hid htp
  have K1:=Lib.hid hk1
  have B:=Lib.hid hb
  have HRG:=Lib.hid hrg
  have HRL:=Lib.hid hrl
  clear htp hk1 hb hrg hrl
  by_cases hlt:i < N
  ·have hz1:(i:Int)≤(l1:Int):=by have:=HN.out; omega
   have hz2:decide ((i:Int)≤(l1:Int))=true:=decide_eq_true hz1
   have hiN:(i:Int) < (N:Int):=by omega
   have hwi:IntKind.i64.wrap ((i:Int) + 1)=(i:Int) + 1:=IntWalk.i64_in _ (by have:=HN.out; omega)
   have hwm:IntKind.i64.wrap ((l2:Int) + 1)=(l2:Int) + 1:=IntWalk.i64_in _ (by omega)
   have hm2:=HM2.out
   have qn:=below_new wr (.cells z2 28)
   have z0:=(TP.out.out.below qn).free i
   have x0:=(TP.out.out.below qn).atL i (.slice none 0 0) (by
    have:=HRL.out
    rw [List.getElem?_append_right (by simp; omega),List.getElem?_replicate,if_pos (by simp; omega)])
   have hnx:=TP.out.next (by have:=HRL.out; omega)
   rw [HZ2.out,HRL.out] at hnx
   have HNX:=Lib.hid hnx
   have HBB:Hid (Below w0.heap.size w0 ((wr.alloc (.cells z2 28)).setCell ⟨ob,i,none⟩ (.slice (some ⟨wr.heap.size,0,none⟩) M M))):=Lib.hid (Below.setCell (p:=⟨ob,i,none⟩) (B.out.trans (qn.mono B.out.size)) (by have:=HS.out; show w0.heap.size≤ob; omega) _)
   have HK:Hid (Blk ((wr.alloc (.cells z2 28)).setCell ⟨ob,i,none⟩ (.slice (some ⟨wr.heap.size,0,none⟩) M M)) b1 #[.slice A1 l1 n1,.slice A2 l2 n2,.string (qT (2 * q.ch)),.string (qT (2 * q.mi)),.string (qT (2 * q.ga)),.string (qT (2 * q.re))] 32):=Lib.hid ((K1.out.below qn).one (show b1 ≠ ob by have:=HS.out; omega) i _)
   have HLW:Hid (b1 < wr.heap.size):=Lib.hid K1.out.lt
   clear hnx qn K1 B TP
   go_wp2
   exact ⟨⟨i + 1,rb ++ [wr.heap.size],by rw [List.length_append,HRL.out]; rfl,by omega,by go_num,HNX.out,fun g hg=>by
    rcases List.mem_append.1 hg with h | h
    ·exact HRG.out g h
    ·rw [List.mem_singleton] at h; subst h; exact HLW.out,HK.out,HBB.out⟩,by simp [intOf]; omega⟩
  have hz3:¬ (i:Int)≤(l1:Int):=by have:=HN.out; omega
  have hz4:decide ((i:Int)≤(l1:Int))=false:=decide_eq_false hz3
  have hiN:i=N:=by omega
  rw [hiN] at HRL hz3 hz4
  rw [hiN]
  have hm2:=HM2.out
  have HTAB:=Lib.hid (TP.out.done HRL.out)
  have KQ:=Lib.hid K1.out
  have HRM:Hid (q.R.length + 1=M):=Lib.hid (by have:=HL2.out; have:=HM.out; omega)
  have HLN:Hid (q.L.length + 1=N):=Lib.hid (by have:=HL1.out; have:=HN.out; omega)
  clear TP K1 hi hlt hiN
  clear i
  have l0:0 < rb.length:=by have:=HRL.out; have:=HN.out; omega
  have hS0:StF w0 b1 ob rb q (.slice A1 l1 n1) (.slice A2 l2 n2) (fun _ _=>⟨#[]⟩) wr:=⟨B.out,KQ.out,by rw [HRM.out]; exact HTAB.out,HS.out,HRG.out⟩
  have x1:=hS0.tab.cell1 0 l0
  have x2:=hS0.tab.cell2 0 0 l0 (by omega)
  have x3:=hS0.tab.free 0 0 l0
  have HS1:=Lib.hid (hS0.set 0 0 l0 ⟨#[48]⟩)
  have t1:(0:Int) < (N:Int):=by have:=HN.out; omega
  have t2:(0:Int) < (M:Int):=by have:=HM.out; omega
  have t3:0 < N:=by omega
  have t4:0 < M:=by omega
  rw [HRM.out] at x1
  clear hS0 HTAB KQ B
  generalize rb[0]=r0 at *
  clear l0
  go_upto_region 8 with (fail)
  clear x1 x2 x3 hz3 hz4 t1 t2 t3 t4
  have S:Hid (StF w0 b1 ob rb q (.slice A1 l1 n1) (.slice A2 l2 n2) (potT q (potA q 0)) (wr.setCell ⟨r0,0,none⟩ (.string ⟨#[48]⟩))):=Lib.hid (HS1.out.congr (fun p r _ _=>by
   unfold potT
   rw [potA_zero]
   by_cases h:p=0∧r=0
   ·rw [if_pos h,if_pos h]
    show _=qT 0
    rw [qT_zero]
   ·rw [if_neg h,if_neg h]; rfl))
  clear HS1
  generalize (wr.setCell ⟨r0,0,none⟩ (.string ⟨#[48]⟩))=W8 at *
  go_wp2
  go_loopw [7] (fun iv wx=>∃ i:Nat,i≤N∧iv=.int .i64 i∧StF w0 b1 ob rb q (.slice A1 l1 n1) (.slice A2 l2 n2) (potT q (potA q (i * M))) wx) (fun iv _=>N - (intOf iv).toNat)
  case atStart=>exact ⟨0,Nat.zero_le _,rfl,by rw [Nat.zero_mul]; exact S.out⟩
  case round =>
   clear S
   obtain ⟨i,hi,rfl,hS⟩:=hrel
   have S:=Lib.hid hS
   clear hS
   by_cases hlt:i < N
   case neg =>
    have hz1:¬ (i:Int)≤(l1:Int):=by have:=HN.out; omega
    have hz2:decide ((i:Int)≤(l1:Int))=false:=decide_eq_false hz1
    obtain rfl:i=N:=by omega
    have HF:Hid (TabT wr ob rb (q.R.length + 1) (frnT q) 71 28):=Lib.hid (S.out.tab.congr (fun p r hp hr=>by
     have e:potA q (i * M) p r=some (frn q p r):=by
      rw [← HLN.out,← HRM.out]
      exact frn_some (cst_bdS q OK.out) (by have:=HRL.out; have:=HLN.out; omega) (by omega)
     unfold potT
     rw [e]; rfl))
    have HBB:=Lib.hid S.out.bb
    have HG:Hid (w0.heap.size≤ob∧∀ g ∈ rb,w0.heap.size≤g):=Lib.hid ⟨by have:=HS.out; omega,fun g hg=>by have:=HS.out; have:=HRG.out g hg; omega⟩
    clear S hi hlt
    go_wp2
    go_ret
    exact ⟨ob,rfl,rb,HRL.out,(by have h:=HF.out; rw [HL2.out] at h; exact h),HG.out.1,HG.out.2,HBB.out⟩
   have hz1:(i:Int)≤(l1:Int):=by have:=HN.out; omega
   have hz2:decide ((i:Int)≤(l1:Int))=true:=decide_eq_true hz1
   have hiQ:i≤q.L.length:=by have:=HLN.out; omega
   have hwi:IntKind.i64.wrap ((i:Int) + 1)=(i:Int) + 1:=IntWalk.i64_in _ (by have:=HN.out; omega)
   go_wp2
   go_loopw [8] (fun jv wx=>∃ j:Nat,j≤M∧jv=.int .i64 j∧StF w0 b1 ob rb q (.slice A1 l1 n1) (.slice A2 l2 n2) (potT q (potA q (i * M + j))) wx) (fun jv _=>M - (intOf jv).toNat)
   case atStart=>exact ⟨0,Nat.zero_le _,rfl,S.out⟩
   case round =>
    clear S
    obtain ⟨j,hj,rfl,hS⟩:=hrel
    have S:=Lib.hid hS
    clear hS
    by_cases hlj:j < M
    case neg =>
     have hz3:¬ (j:Int)≤(l2:Int):=by have:=HM.out; omega
     have hz4:decide ((j:Int)≤(l2:Int))=false:=decide_eq_false hz3
     have S9:Hid (StF w0 b1 ob rb q (.slice A1 l1 n1) (.slice A2 l2 n2) (potT q (potA q ((i + 1) * M))) wr):=Lib.hid (by rw [Nat.succ_mul,← (show j=M by omega)]; rw [show j=M by omega]; have h:=S.out; rw [show j=M by omega] at h; exact h)
     clear S
     go_wp2
     exact ⟨⟨i + 1,by omega,by go_num,S9.out⟩,by simp [intOf]; omega⟩
    have hz3:(j:Int)≤(l2:Int):=by have:=HM.out; omega
    have hz4:decide ((j:Int)≤(l2:Int))=true:=decide_eq_true hz3
    have hjQ:j≤q.R.length:=by have:=HRM.out; omega
    have hwj:IntKind.i64.wrap ((j:Int) + 1)=(j:Int) + 1:=IntWalk.i64_in _ (by have:=HM.out; omega)
    have hidx:Hid (i * M + j=idx q i j):=Lib.hid (by unfold idx; rw [HRM.out])
    rw [hidx.out] at S
    have HTS:Hid ((potA q (idx q i j) i j).isSome=true∧InvP q 60000 (potA q (idx q i j))):=Lib.hid (by
     have h:potA q (idx q i j) i j=some (frn q i j):=frn_at (cst_bdS q OK.out) hiQ hjQ 0 (by omega)
     exact ⟨by rw [h]; rfl,potA_bd q OK.out _ (Nat.le_of_lt (idx_lt q hiQ hjQ))⟩)
    go_wp2
    go_loopw [9] (fun kv wk=>∃ k:Nat,1≤k∧k≤6∧kv=.int .i64 k∧StF w0 b1 ob rb q (.slice A1 l1 n1) (.slice A2 l2 n2) (potT q (posTk q i j (potA q (idx q i j)) (k - 1))) wk) (fun kv _=>(6 - intOf kv).toNat)
    case atStart=>exact ⟨1,by omega,by omega,rfl,S.out⟩
    case round =>
     clear S
     obtain ⟨k,hk1,hk6,rfl,hS⟩:=hrel
     have S:=Lib.hid hS
     clear hS
     by_cases hk5:k≤5
     case neg =>
      obtain rfl:k=6:=by omega
      have S9:Hid (StF w0 b1 ob rb q (.slice A1 l1 n1) (.slice A2 l2 n2) (potT q (potA q (i * M + (j + 1)))) wr):=Lib.hid (by
       have h:=S.out
       rw [show 6 - 1=5 from rfl] at h
       rw [← Nat.add_assoc,← HRM.out,potA_next q i j hjQ,HRM.out,hidx.out]
       exact h)
      clear S
      go_wp2
      exact ⟨⟨j + 1,by omega,by go_num,S9.out⟩,by simp [intOf]; omega⟩
     have hkz:(k:Int)≤5:=by omega
     have hkd:decide ((k:Int)≤5)=true:=decide_eq_true hkz
     have hwk:IntKind.i64.wrap ((k:Int) + 1)=(k:Int) + 1:=IntWalk.i64_in _ (by omega)
     have HKK:=Lib.hid (And.intro hk1 hk5)
     have hX:∃ X er,costV q k i j=.tuple #[.string X,.int .i64 er]∧(okS q k i j→X=qT (cst q k i j)∧er=0)∧(¬ okS q k i j→er ≠ 0):=by
      by_cases ho:okS q k i j
      ·exact ⟨_,_,costV_ok HKK.out hiQ hjQ ho,fun _=>⟨rfl,rfl⟩,fun h=>absurd ho h⟩
      ·obtain ⟨er,h1,h2⟩:=costV_no HKK.out hiQ hjQ ho
       exact ⟨_,_,h2,fun h=>absurd h ho,fun _=>h1⟩
     obtain ⟨X,er,hcv,hxo,hxn⟩:=hX
     have HXO:=Lib.hid hxo
     have HXN:=Lib.hid hxn
     have hlc:=lcost_any q OK.out k i j _ _ w0 HE.out (by rw [← HL1.out,← HL2.out] at HQ; exact HQ.out)
     rw [HL1.out,HL2.out,hcv] at hlc
     have HLC0:=Lib.hid hlc
     obtain ⟨t,ht⟩:∃ t,posTk q i j (potA q (idx q i j)) (k - 1)=t:=⟨_,rfl⟩
     rw [ht] at S
     have HT:=Lib.hid ht
     clear hcv hxo hxn hlc ht
     have HNXT:Hid (posTk q i j (potA q (idx q i j)) (k + 1 - 1)=stepT q i j t k):=Lib.hid (by rw [Nat.add_sub_cancel,posTk_st q i j _ k HKK.out.1 HKK.out.2,HT.out])
     go_upto_region 18 with (fail)
     have KS:=Lib.hid (Blk.fresh wr #[.int .i64 k,.int .i64 i,.int .i64 j] 56)
     have qs:=below_new wr (.cells #[.int .i64 k,.int .i64 i,.int .i64 j] 56)
     replace S:=Lib.hid (S.out.below qs)
     clear qs
     generalize (wr.alloc (.cells #[.int .i64 k,.int .i64 i,.int .i64 j] 56))=V1 at *
     obtain ⟨bs,hbs⟩:∃ b,wr.heap.size=b:=⟨_,rfl⟩
     rw [hbs] at KS ⊢
     clear hbs
     have HLC:Hid (Ret Tryz.prog V1 24 #[.agg #[.slice A1 l1 n1,.slice A2 l2 n2,.string (qT (2 * q.ch)),.string (qT (2 * q.mi)),.string (qT (2 * q.ga)),.string (qT (2 * q.re))],.agg #[.int .i64 k,.int .i64 i,.int .i64 j]] (.tuple #[.string X,.int .i64 er])):=Lib.hid (fun W hW=>HLC0.out W (S.out.bb.trans (hW.mono S.out.bb.size)))
     refine wp_tab (.v 58 (.agg #[.slice A1 l1 n1,.slice A2 l2 n2,.string (qT (2 * q.ch)),.string (qT (2 * q.mi)),.string (qT (2 * q.ga)),.string (qT (2 * q.re))]) :: .v 59 (.agg #[.int .i64 k,.int .i64 i,.int .i64 j]) :: .v 60 (.tuple #[.string X,.int .i64 er]) :: .v 57 (.tuple #[.string X,.int .i64 er]) :: .v 61 (.string X) :: .v 62 (.int .i64 er) :: .v 11 (.string X) :: .v 12 (.int .i64 er) :: []) [] [⟨b1,#[.slice A1 l1 n1,.slice A2 l2 n2,.string (qT (2 * q.ch)),.string (qT (2 * q.mi)),.string (qT (2 * q.ga)),.string (qT (2 * q.re))],32,none⟩,⟨bs,#[.int .i64 k,.int .i64 i,.int .i64 j],56,none⟩] [] [] [] [] [] (by kernel_rfl) (Below.refl _ _) ⟨S.out.kq,KS.out,trivial⟩ trivial ⟨ld 0 0,ld 1 0,cl HLC.out,pu,pu,pu,pu,pu,trivial⟩ ?_
     clear HLC
     rintro σ V2 _ ⟨_,KS2,_⟩ _ _ q9
     simp only [slotsOf,finX,nval,nvalN,nvalA,Nat.reduceBEq,cond_true,cond_false,putAll,Act.put,List.setIfInBounds_toArray,List.set_cons_succ,List.set_cons_zero]
     replace S:=Lib.hid (S.out.below q9)
     clear KS q9 HLC0
     by_cases ho:okS q k i j
     case neg =>
      have hn0:=HXN.out ho
      have hn:(er == 0)=false:=by rw [beq_eq_false_iff_ne]; exact hn0
      have S9:Hid (StF w0 b1 ob rb q (.slice A1 l1 n1) (.slice A2 l2 n2) (potT q (posTk q i j (potA q (idx q i j)) (k + 1 - 1))) V2):=Lib.hid (by rw [HNXT.out,show stepT q i j t k=t from if_neg ho]; exact S.out)
      clear S HXO HXN KS2
      go_wp2
      exact ⟨⟨k + 1,by omega,by omega,rfl,S9.out⟩,by simp [intOf]; omega⟩
     obtain ⟨rfl,rfl⟩:=HXO.out ho
     have d0:=KS2.at_ 0 _ rfl
     have d1:=KS2.at_ 1 _ rfl
     have d2:=KS2.at_ 2 _ rfl
     have hnx:=lafter_any k i j (by omega) (by omega) V2
     rw [nzI_nat,nzJ_nat k j HKK.out] at hnx
     have HAF:=Lib.hid hnx
     clear hnx HXO HXN KS2
     go_upto_region 21 with (first
      | (go_at_call 32; with_reducible refine (HAF.out _ (Below.refl _ _)).mono ?_; rintro e V3 ⟨rfl,q3⟩)
      | fail "arm")
     clear d0 d1 d2 HAF
     replace S:=Lib.hid (S.out.below q3)
     clear q3
     have hoa:=ho.1
     have hob:=ho.2.1
     have hu:t i j=some (frn q i j):=by
      rw [← HT.out]
      exact frn_at (cst_bdS q OK.out) hiQ hjQ (k - 1) (by omega)
     have hinv:InvP q 60000 t:=by
      rw [← HT.out]
      exact posTk_inv (cst_bdS q OK.out) HTS.out.1 HTS.out.2 (k - 1) (by omega)
     have hb1:=inv_bd OK.out hinv i j _ hu
     have hb2:=cst_bd q OK.out k i j
     have hb3:∀ y,t (nxI k i) (nxJ k j)=some y→0≤y∧y≤720000:=fun y hy=>inv_bd OK.out hinv _ _ y hy
     have HB3:=Lib.hid hb3
     have hadd:=rAddQ (cst q k i j) (frn q i j) (by omega) (by omega) w0 HE.out
     rw [Int.add_comm] at hadd
     have HADD:=Lib.hid hadd
     have HRC:Hid (0≤frn q i j + cst q k i j∧frn q i j + cst q k i j≤780000):=Lib.hid (by omega)
     have li:i < rb.length:=by rw [HRL.out]; exact hlt
     have la:nxI k i < rb.length:=by have:=HRL.out; have:=HLN.out; omega
     have HAB:Hid (nxI k i < N∧nxJ k j < M):=Lib.hid (by have:=HLN.out; have:=HRM.out; omega)
     have HSTEP:Hid (∀ p r,optT (stepT q i j t k p r)=(if p=nxI k i∧r=nxJ k j then optT (imp (t (nxI k i) (nxJ k j)) (frn q i j + cst q k i j)) else optT (t p r))):=Lib.hid (fun p r=>stepT_tabN q i j k t ho _ hu p r)
     have x1:=S.out.tab.cell1 i li
     have x2:=S.out.tab.cell2 i j li (by omega)
     rw [HRM.out] at x1
     rw [show potT q t i j=qT (frn q i j) by unfold potT; rw [hu]; rfl] at x2
     have z1:(i:Int) < (N:Int):=by omega
     have z2':(j:Int) < (M:Int):=by omega
     have z3:(nxI k i:Int) < (N:Int):=by have:=HAB.out; omega
     have z4:(nxJ k j:Int) < (M:Int):=by have:=HAB.out; omega
     clear hoa hob hu hinv hb1 hb2 hb3 hadd ho
     generalize rb[i]=ri at *
     clear li
     obtain ⟨rc,hrc⟩:∃ x,frn q i j + cst q k i j=x:=⟨_,rfl⟩
     rw [hrc] at HADD HRC HSTEP
     clear hrc
     generalize qT (frn q i j)=tf at *
     generalize qT (cst q k i j)=tk at *
     go_upto_region 22 with (first
      | (go_at_call 21; with_reducible refine (HADD.out _ S.out.bb).mono ?_; rintro e V4 ⟨rfl,q4⟩)
      | fail "arm")
     clear x1 x2 HADD
     replace S:=Lib.hid (S.out.below q4)
     clear q4
     have HX1:Hid (∀ W,StF w0 b1 ob rb q (.slice A1 l1 n1) (.slice A2 l2 n2) (potT q t) W→W.cell? ⟨ob,nxI k i,none⟩=some (.slice (some ⟨rb[nxI k i],0,none⟩) M M)∧W.cell? ⟨rb[nxI k i],nxJ k j,none⟩=some (.string (optT (t (nxI k i) (nxJ k j))))∧W.frozen? ⟨rb[nxI k i],nxJ k j,none⟩=false):=Lib.hid (fun W h=>by
      have a:=h.tab.cell1 (nxI k i) la
      rw [HRM.out] at a
      exact ⟨a,h.tab.cell2 (nxI k i) (nxJ k j) la (by have:=HAB.out; have:=HRM.out; omega),h.tab.free _ _ la⟩)
     have HSET:Hid (∀ W,StF w0 b1 ob rb q (.slice A1 l1 n1) (.slice A2 l2 n2) (potT q t) W→imp (t (nxI k i) (nxJ k j)) rc=some rc→StF w0 b1 ob rb q (.slice A1 l1 n1) (.slice A2 l2 n2) (potT q (posTk q i j (potA q (idx q i j)) (k + 1 - 1))) (W.setCell ⟨rb[nxI k i],nxJ k j,none⟩ (.string (qT rc)))):=Lib.hid (fun W h e=>by
      rw [HNXT.out]
      refine (h.set (nxI k i) (nxJ k j) la (qT rc)).congr (fun p r _ _=>?_)
      show _=optT (stepT q i j t k p r)
      rw [HSTEP.out,e]; rfl)
     have HSAME:Hid (∀ W,StF w0 b1 ob rb q (.slice A1 l1 n1) (.slice A2 l2 n2) (potT q t) W→imp (t (nxI k i) (nxJ k j)) rc=t (nxI k i) (nxJ k j)→StF w0 b1 ob rb q (.slice A1 l1 n1) (.slice A2 l2 n2) (potT q (posTk q i j (potA q (idx q i j)) (k + 1 - 1))) W):=Lib.hid (fun W h e=>by
      rw [HNXT.out]
      refine h.congr (fun p r _ _=>?_)
      show optT (t p r)=optT (stepT q i j t k p r)
      rw [HSTEP.out]
      by_cases h:p=nxI k i∧r=nxJ k j
      ·rw [if_pos h,e,h.1,h.2]
      ·rw [if_neg h])
     generalize rb[nxI k i]=ra at *
     clear la HSTEP HT
     generalize hoa:t (nxI k i) (nxJ k j)=oa at *
     clear hoa
     generalize nxI k i=am at *
     generalize nxJ k j=bm at *
     obtain ⟨y1,y2,y3⟩:=HX1.out _ S.out
     cases oa with
     | none =>
      have e1:optT none=⟨#[]⟩:=rfl
      rw [e1] at y2
      have S9:=Lib.hid (HSET.out _ S.out rfl)
      clear e1 S HSET HSAME HX1 HB3 HRC HAB
      generalize qT rc=tc at *
      go_wp2
      exact ⟨⟨k + 1,by omega,by omega,rfl,S9.out⟩,by simp [intOf]; omega⟩
     | some y =>
      have e1:optT (some y)=qT y:=rfl
      rw [e1] at y2
      have hyb:=HB3.out y rfl
      have hne:=qT_ne y
      have hcm:=rCmpQ rc y (by have:=HRC.out; omega) (by omega) w0 HE.out
      have HCM:=Lib.hid hcm
      have HX2:Hid (∀ W,StF w0 b1 ob rb q (.slice A1 l1 n1) (.slice A2 l2 n2) (potT q t) W→W.cell? ⟨ob,am,none⟩=some (.slice (some ⟨ra,0,none⟩) M M)∧W.cell? ⟨ra,bm,none⟩=some (.string (qT y))∧W.frozen? ⟨ra,bm,none⟩=false):=Lib.hid (fun W h=>HX1.out W h)
      clear e1 hcm HX1
      by_cases hly:rc < y
      ·have g1:decide ((rc - y).sign < 0)=true:=by rw [dsign_ltC]; exact decide_eq_true (by omega)
       have HST2:=Lib.hid (fun W h=>HSET.out W h (show imp (some y) rc=some rc from if_pos hly))
       generalize (rc - y).sign=sg at *
       clear hly hyb HSET HSAME HB3 HRC HAB
       generalize qT rc=tc at *
       generalize qT y=ty at *
       go_upto_region 23 with (first
        | (go_at_call 22; with_reducible refine (HCM.out _ S.out.bb).mono ?_; rintro e V5 ⟨rfl,q5⟩; replace S:=Lib.hid (S.out.below q5); clear q5 y1 y2 y3)
        | fail "arm")
       obtain ⟨y1,y2,y3⟩:=HX2.out _ S.out
       have S9:=Lib.hid (HST2.out _ S.out)
       clear S HST2 HX2 HCM
       go_wp2
       exact ⟨⟨k + 1,by omega,by omega,rfl,S9.out⟩,by simp [intOf]; omega⟩
      ·have g1:decide ((rc - y).sign < 0)=false:=by rw [dsign_ltC]; exact decide_eq_false (by omega)
       have HST2:=Lib.hid (fun W h=>HSAME.out W h (show imp (some y) rc=some y from if_neg hly))
       generalize (rc - y).sign=sg at *
       clear hly hyb HSET HSAME HB3 HRC HAB
       generalize qT rc=tc at *
       generalize qT y=ty at *
       go_wp2_with (first
        | (go_at_call 22; with_reducible refine (HCM.out _ S.out.bb).mono ?_; rintro e V5 ⟨rfl,q5⟩; replace S:=Lib.hid (S.out.below q5); clear q5 y1 y2 y3)
        | fail "arm")
       have S9:=Lib.hid (HST2.out _ S.out)
       exact ⟨⟨k + 1,by omega,by omega,rfl,S9.out⟩,by simp [intOf]; omega⟩

end Go.Proofs.YthhkmihjnnfpgaaGreatDoor

/- The law's proves. -/
namespace Go.Proofs.YthhkmihjnnfpgaaGreatDoor
set_option linter.all false
open Go.RowKit

attribute [local go_sem] Oper.semAt_some

set_option maxRecDepth 100000 in
set_option maxHeartbeats 8000000 in
theorem lwrong_any (T:ByteArray) (hT:T.size≤1000000) (w:World) (he:Env w):Ret Tryz.prog w 42 #[.string T] (.bool (!(rightQ T))):=by
 intro W hW
 have HCK:=Lib.hid (rcheck_any T W (he.below hW) hT)
 have B:=Lib.hid (Below.refl W.heap.size W)
 clear hW he
 cases hr:rightQ T with
 | true =>
  rw [hr] at HCK
  have HC2:Hid (Calls Tryz.prog 72 #[.string T] W fun e w'=>e=.returned (.int .i64 0)∧Below W.heap.size W w'):=Lib.hid HCK.out
  clear HCK hr
  go_enter Tryz.func42,Tryz.ntmps42
  go_wp2_with (first
   | (go_at_call 72; with_reducible refine HC2.out.mono ?_; rintro e w2 ⟨rfl,q2⟩; replace B:=Lib.hid q2; clear q2)
   | fail "arm")
  go_ret
  exact ⟨rfl,B.out⟩
 | false =>
  rw [hr] at HCK
  have HC2:Hid (Calls Tryz.prog 72 #[.string T] W fun e w'=>e=.returned (.int .i64 2)∧Below W.heap.size W w'):=Lib.hid HCK.out
  clear HCK hr
  go_enter Tryz.func42,Tryz.ntmps42
  go_wp2_with (first
   | (go_at_call 72; with_reducible refine HC2.out.mono ?_; rintro e w2 ⟨rfl,q2⟩; replace B:=Lib.hid q2; clear q2)
   | fail "arm")
  go_ret
  exact ⟨rfl,B.out⟩
noncomputable def totX (r:Int × Int):ByteArray:=if r.1=0 then qT r.2 else ⟨#[]⟩
set_option maxRecDepth 100000 in
set_option maxHeartbeats 8000000 in
theorem proves_any (q:CQ) (ok:OkQ q) (l:List (Int × Int × Int)) (hl:l.length≤1000) (T:ByteArray) (hT:T.size≤20) (c:Nat→Nat→ByteArray) (hc:∀ i j,i≤q.L.length→j≤q.R.length→(c i j).size≤20) (ob:Nat) (rb:List Nat) (hrb:rb.length=q.L.length + 1)
  (sl sr v:Value) (w0:World) (he:Env w0) (hq:QAt w0 sl sr q) (hv:SAt stI 3 w0 v l) (ht:TabT w0 ob rb (q.R.length + 1) c 71 28) :
  Calls Tryz.prog 36 #[.agg #[sl,sr,.string (qT (2 * q.ch)),.string (qT (2 * q.mi)),.string (qT (2 * q.ga)),.string (qT (2 * q.re))],.agg #[v,.string T],.slice (some ⟨ob,0,none⟩) (q.L.length + 1) (q.L.length + 1)] w0 fun e w'=>(∃ z,e=.returned (.int .i64 z)∧PrfS q T c (T ≠ totX (runF q 0 0 0 l)) z)∧Below w0.heap.size w0 w':=by
 have hll:=ok.hl
 have hrr:=ok.hr
 have HQ:=Lib.hid hq
 obtain ⟨A1,n1,rfl,_⟩:=hq.l
 obtain ⟨A2,n2,rfl,_⟩:=hq.r
 have HV:=Lib.hid hv
 obtain ⟨A0,cc,rfl,_⟩:=hv
 have HE:=Lib.hid he
 have OK:=Lib.hid ok
 have TAB:=Lib.hid ht
 have HTS:=Lib.hid hT
 have HCS:=Lib.hid hc
 have HRB:=Lib.hid hrb
 have HTO:Hid (∀ W,Below w0.heap.size w0 W→Calls Tryz.prog 27 #[.agg #[.slice A1 q.L.length n1,.slice A2 q.R.length n2,.string (qT (2 * q.ch)),.string (qT (2 * q.mi)),.string (qT (2 * q.ga)),.string (qT (2 * q.re))],.slice A0 l.length cc] W fun e w'=>e=.returned (totV (runF q 0 0 0 l))∧Below W.heap.size W w'):=Lib.hid (fun W hW=>ltotal_any q ok l hl _ _ _ W (he.below hW) (hq.below hW) (HV.out.below hW))
 clear hq he ok ht hT hc hrb
 obtain ⟨rr,hrr2⟩:∃ r,runF q 0 0 0 l=r:=⟨_,rfl⟩
 rw [hrr2] at HTO ⊢
 clear hrr2 hl HV
 obtain ⟨er0,her0⟩:∃ e,rr.1=e:=⟨_,rfl⟩
 obtain ⟨sX,hsX⟩:∃ e,totX rr=e:=⟨_,rfl⟩
 have htv:totV rr=.tuple #[.string sX,.int .i64 er0]:=by unfold totV; rw [← hsX,← her0]; rfl
 rw [htv] at HTO
 rw [hsX]
 clear htv hsX her0
 obtain ⟨l1,hl1⟩:∃ n,q.L.length=n:=⟨_,rfl⟩
 obtain ⟨l2,hl2⟩:∃ n,q.R.length=n:=⟨_,rfl⟩
 have HL1:=Lib.hid hl1
 have HL2:=Lib.hid hl2
 obtain ⟨N,hN⟩:∃ n,l1 + 1=n:=⟨_,rfl⟩
 obtain ⟨M,hM⟩:∃ n,l2 + 1=n:=⟨_,rfl⟩
 have HN:=Lib.hid hN
 have HM:=Lib.hid hM
 rw [hl1,hl2] at HQ HTO
 rw [hl1] at hll HRB
 rw [hl2] at hrr TAB
 rw [hM] at TAB
 rw [hN] at HRB
 rw [hl1,hl2,hN]
 clear hl1 hl2 hN hM
 go_enter Tryz.func36,Tryz.ntmps36
 go_upto_region 1 with (fail)
 have k1:=Blk.fresh w0 #[.slice A1 l1 n1,.slice A2 l2 n2,.string (qT (2 * q.ch)),.string (qT (2 * q.mi)),.string (qT (2 * q.ga)),.string (qT (2 * q.re))] 32
 have q1:=below_new w0 (.cells #[.slice A1 l1 n1,.slice A2 l2 n2,.string (qT (2 * q.ch)),.string (qT (2 * q.mi)),.string (qT (2 * q.ga)),.string (qT (2 * q.re))] 32)
 have z1:(w0.alloc (.cells #[.slice A1 l1 n1,.slice A2 l2 n2,.string (qT (2 * q.ch)),.string (qT (2 * q.mi)),.string (qT (2 * q.ga)),.string (qT (2 * q.re))] 32)).heap.size=w0.heap.size + 1:=by simp
 generalize (w0.alloc (.cells #[.slice A1 l1 n1,.slice A2 l2 n2,.string (qT (2 * q.ch)),.string (qT (2 * q.mi)),.string (qT (2 * q.ga)),.string (qT (2 * q.re))] 32))=W1 at *
 have k2:=Blk.fresh W1 #[.slice A0 l.length cc,.string T] 36
 have q2:=below_new W1 (.cells #[.slice A0 l.length cc,.string T] 36)
 generalize (W1.alloc (.cells #[.slice A0 l.length cc,.string T] 36))=W2 at *
 obtain ⟨b3,hb3⟩:∃ b,w0.heap.size=b:=⟨_,rfl⟩
 obtain ⟨b4,hb4⟩:∃ b,w0.heap.size + 1=b:=⟨_,rfl⟩
 rw [hb3] at k1
 rw [z1,hb4] at k2
 rw [hb4,hb3]
 have KQ:=Lib.hid (k1.below q2)
 have KA:=Lib.hid k2
 have B0:=Lib.hid (q1.trans (q2.mono q1.size))
 clear k1 q1 z1 k2 q2 hb3 hb4
 have HT2:Hid (∀ p j,p < N→j < M→∃ r,(∀ W,Below W2.heap.size W2 W→W.cell? ⟨ob,p,none⟩=some (.slice (some ⟨r,0,none⟩) M M)∧ob < W.heap.size)∧(∀ W,Below W2.heap.size W2 W→W.cell? ⟨r,j,none⟩=some (.string (c p j))∧r < W.heap.size)):=Lib.hid (fun p j hp hj=>by
  have l0:p < rb.length:=by rw [HRB.out]; exact hp
  exact ⟨rb[p],fun W hW=>by
   have t:=TAB.out.below (B0.out.trans (hW.mono B0.out.size))
   exact ⟨t.cell1 p l0,t.lt1⟩,fun W hW=>by
   have t:=TAB.out.below (B0.out.trans (hW.mono B0.out.size))
   exact ⟨t.cell2 p j l0 hj,t.lt2 _ (List.getElem_mem l0)⟩⟩)
 clear TAB HRB
 have B:=Lib.hid (Below.refl W2.heap.size W2)
 go_wp2
 go_loopw [7] (fun iv wr=>∃ p:Nat,p≤N∧iv=.int .i64 p∧(∀ p' j',p' < p→j' < M→rightQ (c p' j')=true)∧Below W2.heap.size W2 wr) (fun iv _=>N - (intOf iv).toNat)
 case atStart=>exact ⟨0,Nat.zero_le _,rfl,fun p' j' h=>absurd h (Nat.not_lt_zero _),B.out⟩
 case round =>
  clear B
  obtain ⟨p,hp,rfl,hgood,hb⟩:=hrel
  have B:=Lib.hid hb
  have HGD:=Lib.hid hgood
  clear hb hgood
  by_cases hlt:p < N
  ·have hz1:(p:Int) < (N:Int):=by omega
   have hwp:IntKind.i64.wrap ((p:Int) + 1)=(p:Int) + 1:=IntWalk.i64_in _ (by have:=HN.out; omega)
   go_wp2
   go_loopw [8] (fun jv wx=>∃ j:Nat,j≤M∧jv=.int .i64 j∧(∀ j',j' < j→rightQ (c p j')=true)∧Below W2.heap.size W2 wx) (fun jv _=>M - (intOf jv).toNat)
   case atStart=>exact ⟨0,Nat.zero_le _,rfl,fun j' h=>absurd h (Nat.not_lt_zero _),B.out⟩
   case round =>
    clear B
    obtain ⟨j,hj,rfl,hgood,hb⟩:=hrel
    have B:=Lib.hid hb
    have HGJ:=Lib.hid hgood
    clear hb hgood
    by_cases hlj:j < M
    ·have hz3:(j:Int) < (M:Int):=by omega
     have hwj:IntKind.i64.wrap ((j:Int) + 1)=(j:Int) + 1:=IntWalk.i64_in _ (by have:=HM.out; omega)
     obtain ⟨rp,hx1,hx2⟩:=HT2.out p j hlt hlj
     have x1:=(hx1 wr B.out).1
     have x2:=(hx2 wr B.out).1
     have HWR:=Lib.hid (lwrong_any (c p j) (by have:=HCS.out p j (by have:=HN.out; have:=HL1.out; omega) (by have:=HM.out; have:=HL2.out; omega); omega) w0 HE.out)
     have HBB:=Lib.hid (B0.out.trans (B.out.mono B0.out.size))
     obtain ⟨tx,htx⟩:∃ t,c p j=t:=⟨_,rfl⟩
     rw [htx] at x2 HWR
     have HTE:=Lib.hid htx
     clear hx1 hx2 htx
     cases hr:rightQ tx with
     | true =>
      rw [hr] at HWR
      have HRT:=Lib.hid hr
      clear hr
      go_wp2_with (first
       | (go_at_call 42; with_reducible refine (HWR.out _ HBB.out).mono ?_; rintro e W8 ⟨rfl,q8⟩; replace B:=Lib.hid (B.out.trans (q8.mono B.out.size)); clear q8)
       | fail "arm")
      exact ⟨⟨j + 1,by omega,by go_num,(fun j' h=>by
       by_cases e:j'=j
       ·subst e; rw [HTE.out]; exact HRT.out
       ·exact HGJ.out j' (by omega)),B.out⟩,by simp [intOf]; omega⟩
     | false =>
      rw [hr] at HWR
      have HV9:Hid (PrfS q T c (T ≠ sX) 2):=Lib.hid (.inl ⟨.inl ⟨p,j,by have:=HN.out; have:=HL1.out; omega,by have:=HM.out; have:=HL2.out; omega,by rw [HTE.out]; exact hr⟩,rfl⟩)
      clear hr
      go_wp2_with (first
       | (go_at_call 42; with_reducible refine (HWR.out _ HBB.out).mono ?_; rintro e W8 ⟨rfl,q8⟩; replace B:=Lib.hid (B.out.trans (q8.mono B.out.size)); clear q8)
       | fail "arm")
      go_ret
      exact ⟨⟨_,rfl,HV9.out⟩,(B0.out.trans (B.out.mono B0.out.size))⟩
    ·have hz3:¬ (j:Int) < (M:Int):=by omega
     have hz4:decide ((j:Int) < (M:Int))=false:=decide_eq_false hz3
     obtain ⟨rp,hx1,hx2⟩:=HT2.out p 0 hlt (by have:=HM.out; omega)
     have x1:=(hx1 wr B.out).1
     have HG2:Hid (∀ p' j',p' < p + 1→j' < M→rightQ (c p' j')=true):=Lib.hid (fun p' j' h1 h2=>by
      by_cases e:p'=p
      ·subst e; exact HGJ.out j' (by omega)
      ·exact HGD.out p' j' (by omega) h2)
     clear hx1 hx2
     go_wp2
     exact ⟨⟨p + 1,by omega,by go_num,HG2.out,B.out⟩,by simp [intOf]; omega⟩
  have hz3:¬ (p:Int) < (N:Int):=by omega
  have hz4:decide ((p:Int) < (N:Int))=false:=decide_eq_false hz3
  have HRI:Hid (∀ i j,i≤q.L.length→j≤q.R.length→rightQ (c i j)=true):=Lib.hid (fun i j hi hj=>HGD.out i j (by have:=HN.out; have:=HL1.out; omega) (by have:=HM.out; have:=HL2.out; omega))
  clear HGD hp
  have HWR:=Lib.hid (lwrong_any T (by have:=HTS.out; omega) w0 HE.out)
  have HBB:=Lib.hid (B0.out.trans (B.out.mono B0.out.size))
  have a1:=(KA.out.below B.out).at_ 1 _ rfl
  cases hr:rightQ T with
  | false =>
   rw [hr] at HWR
   have HV9:Hid (PrfS q T c (T ≠ sX) 2):=Lib.hid (.inl ⟨.inr hr,rfl⟩)
   clear hr
   go_wp2_with (first
    | (go_at_call 42; with_reducible refine (HWR.out _ HBB.out).mono ?_; rintro e W8 ⟨rfl,q8⟩; replace B:=Lib.hid (B.out.trans (q8.mono B.out.size)); clear q8)
    | fail "arm")
   go_ret
   exact ⟨⟨_,rfl,HV9.out⟩,(B0.out.trans (B.out.mono B0.out.size))⟩
  | true =>
   rw [hr] at HWR
   have HNB:Hid (¬ (badN q c ∨ rightQ T=false)):=Lib.hid (fun h=>by
    rcases h with ⟨i',j',h1,h2,h3⟩ | h3
    ·rw [HRI.out i' j' h1 h2] at h3; cases h3
    ·rw [hr] at h3; cases h3)
   clear hr
   go_upto_region 11 with (first
    | (go_at_call 42; with_reducible refine (HWR.out _ HBB.out).mono ?_; rintro e W8 ⟨rfl,q8⟩; replace B:=Lib.hid (B.out.trans (q8.mono B.out.size)); clear q8)
    | fail "arm")
   clear HWR HBB a1 hz3 hz4
   refine wp_tab (.v 47 (.pointer (some ⟨b3,0,none⟩)) :: .v 48 (.slice A1 l1 n1) :: .v 49 (.int .i64 l1) :: .v 50 (.pointer (some ⟨b3,1,none⟩)) :: .v 51 (.slice A2 l2 n2) :: .v 52 (.int .i64 l2) :: .v 9 (.int .i64 l1) :: .v 10 (.int .i64 l2) :: []) [] [⟨b3,#[.slice A1 l1 n1,.slice A2 l2 n2,.string (qT (2 * q.ch)),.string (qT (2 * q.mi)),.string (qT (2 * q.ga)),.string (qT (2 * q.re))],32,none⟩] [] [] [] [] [] (by kernel_rfl) (Below.refl _ _) ⟨KQ.out.below B.out,trivial⟩ trivial ⟨pu,ld 0 0,pu,pu,ld 0 1,pu,pu,pu,trivial⟩ ?_
   rintro σ W11 _ _ _ _ q11
   simp only [slotsOf,finX,nval,nvalN,nvalA,Nat.reduceBEq,cond_true,cond_false,putAll,Act.put,List.setIfInBounds_toArray,List.set_cons_succ,List.set_cons_zero]
   replace B:=Lib.hid (B.out.trans (q11.out.mono B.out.size))
   clear q11
   obtain ⟨r0,h00,h01⟩:=HT2.out 0 0 (by have:=HN.out; omega) (by have:=HM.out; omega)
   obtain ⟨rl,hl0,hl1'⟩:=HT2.out l1 l2 (by have:=HN.out; omega) (by have:=HM.out; omega)
   have LO:=Lib.hid (h00 _ B.out).2
   have X0:=Lib.hid (h00 _ B.out).1
   have X00:=Lib.hid (h01 _ B.out).1
   have LR0:=Lib.hid (h01 _ B.out).2
   have XL:=Lib.hid (hl0 _ B.out).1
   have XLR:=Lib.hid (hl1' _ B.out).1
   have LRL:=Lib.hid (hl1' _ B.out).2
   have LBA:=Lib.hid (KA.out.below B.out).lt
   have CBA:=Lib.hid ((KA.out.below B.out).at_ 1 _ rfl)
   have HN1:Hid ((l1:Int) < (N:Int)∧l1 < N):=Lib.hid (by have:=HN.out; omega)
   have HN2:Hid ((l2:Int) < (M:Int)∧l2 < M):=Lib.hid (by have:=HM.out; omega)
   have hzN:(0:Int) < (N:Int):=by have:=HN.out; omega
   have hzM:(0:Int) < (M:Int):=by have:=HM.out; omega
   have hzN3:0 < N:=by omega
   have hzM3:0 < M:=by omega
   clear h00 h01 hl0 hl1'
   obtain ⟨c00,hc00⟩:∃ t,c 0 0=t:=⟨_,rfl⟩
   obtain ⟨cLR,hcLR⟩:∃ t,c l1 l2=t:=⟨_,rfl⟩
   rw [hc00] at X00
   rw [hcLR] at XLR
   have HC00:=Lib.hid hc00
   have HCLR:Hid (c q.L.length q.R.length=cLR):=Lib.hid (by rw [HL1.out,HL2.out]; exact hcLR)
   clear hc00 hcLR
   by_cases h0:c00=⟨#[48]⟩
   case neg =>
    have HB0:Hid ((c00.toList == (⟨#[48]⟩:ByteArray).toList)=false∧(c00.toList == [48])=false):=Lib.hid (by
     have h:(c00.toList == (⟨#[48]⟩:ByteArray).toList)=false:=by rw [ba_beq]; exact decide_eq_false h0
     exact ⟨h,by simp only [ByteArray.toList_eq] at h ⊢; exact h⟩)
    have HV9:Hid (PrfS q T c (T ≠ sX) 23):=Lib.hid (.inr (.inl ⟨HNB.out,.inl (by rw [HC00.out]; exact h0),rfl⟩))
    clear h0
    go_upto_region 12 with (fail)
    refine wp_tab (.v 53 (.slice (some ⟨ob,0,none⟩) N N) :: .v 54 (.pointer (some ⟨ob,0,none⟩)) :: .v 55 (.slice (some ⟨r0,0,none⟩) M M) :: .v 56 (.pointer (some ⟨r0,0,none⟩)) :: .v 57 (.string c00) :: .v 58 (.bool true) :: .v 59 (.bool true) :: .v 60 undef :: .v 61 undef :: .v 62 undef :: .v 63 undef :: .v 64 undef :: .v 65 undef :: .v 66 undef :: .v 67 undef :: .v 68 undef :: .v 69 undef :: .v 70 (.bool true) :: []) [] [] [] [] [] [] [] (by kernel_rfl) (Below.refl _ _) trivial trivial ⟨pu,?_,?_,?_,?_,?_,pu,sk,sk,sk,sk,sk,sk,sk,sk,sk,sk,?_,trivial⟩ ?_
    ·intro L a U ho J hn dd KK kk; refine .free rfl ?_; have r0:=J.read 0 rfl (dd.get 0 rfl); go_simp; exact kk.out _ _ (J.st 1 rfl rfl)
    ·intro L a U ho J hn dd KK kk; refine .free rfl ?_; have r1:=J.read 1 rfl (dd.get 1 rfl); have e0:=(J.bb.cell (p:=⟨ob,0,none⟩) LO.out).trans X0.out; go_simp; exact kk.out _ _ (J.st 2 rfl rfl)
    ·intro L a U ho J hn dd KK kk; refine .free rfl ?_; have r2:=J.read 2 rfl (dd.get 2 rfl); go_simp; exact kk.out _ _ (J.st 3 rfl rfl)
    ·intro L a U ho J hn dd KK kk; refine .free rfl ?_; have r3:=J.read 3 rfl (dd.get 3 rfl); have e0:=(J.bb.cell (p:=⟨r0,0,none⟩) LR0.out).trans X00.out; go_simp; exact kk.out _ _ (J.st 4 rfl rfl)
    ·intro L a U ho J hn dd KK kk; refine .free rfl ?_; have r4:=J.read 4 rfl (dd.get 4 rfl); have hb:=HB0.out.1; have hb2:=HB0.out.2; go_simp; exact kk.out _ _ (J.st 5 rfl rfl)
    ·intro L a U ho J hn dd KK kk; refine .free rfl ?_; have r6:=J.read 6 rfl (dd.get 6 rfl); go_simp; exact kk.out _ _ (J.st 17 rfl rfl)
    rintro σ W22 _ _ _ _ q22
    simp only [slotsOf,finX,nval,nvalN,nvalA,Nat.reduceBEq,cond_true,cond_false,putAll,Act.put,List.setIfInBounds_toArray,List.set_cons_succ,List.set_cons_zero]
    replace B:=Lib.hid (B.out.trans (q22.out.mono B.out.size))
    go_wp2
    go_ret
    exact ⟨⟨_,rfl,HV9.out⟩,(B0.out.trans (B.out.mono B0.out.size))⟩
   have HB0:Hid ((c00.toList == (⟨#[48]⟩:ByteArray).toList)=true∧(c00.toList == [48])=true):=Lib.hid (by
    have h:(c00.toList == (⟨#[48]⟩:ByteArray).toList)=true:=by rw [ba_beq]; exact decide_eq_true h0
    exact ⟨h,by simp only [ByteArray.toList_eq] at h ⊢; exact h⟩)
   have H0:=Lib.hid h0
   clear h0
   by_cases h2:cLR=T
   case neg =>
    have HB2:Hid ((cLR.toList == T.toList)=false):=Lib.hid (by rw [ba_beq]; exact decide_eq_false h2)
    have HV9:Hid (PrfS q T c (T ≠ sX) 23):=Lib.hid (.inr (.inl ⟨HNB.out,.inr (.inr (.inl (by rw [HCLR.out]; exact h2))),rfl⟩))
    clear h2
    go_upto_region 12 with (fail)
    refine wp_tab (.v 53 (.slice (some ⟨ob,0,none⟩) N N) :: .v 54 (.pointer (some ⟨ob,0,none⟩)) :: .v 55 (.slice (some ⟨r0,0,none⟩) M M) :: .v 56 (.pointer (some ⟨r0,0,none⟩)) :: .v 57 (.string c00) :: .v 58 (.bool false) :: .v 59 (.bool false) :: .v 60 (.slice (some ⟨ob,0,none⟩) N N) :: .v 61 (.int .i64 l1) :: .v 62 (.pointer (some ⟨ob,l1,none⟩)) :: .v 63 (.slice (some ⟨rl,0,none⟩) M M) :: .v 64 (.int .i64 l2) :: .v 65 (.pointer (some ⟨rl,l2,none⟩)) :: .v 66 (.string cLR) :: .v 67 (.pointer (some ⟨b4,1,none⟩)) :: .v 68 (.string T) :: .v 69 (.bool true) :: .v 70 (.bool true) :: []) [] [] [] [] [] [] [] (by kernel_rfl) (Below.refl _ _) trivial trivial ⟨pu,?_,?_,?_,?_,?_,pu,?_,?_,?_,?_,?_,?_,?_,?_,?_,?_,?_,trivial⟩ ?_
    ·intro L a U ho J hn dd KK kk; refine .free rfl ?_; have r0:=J.read 0 rfl (dd.get 0 rfl); go_simp; exact kk.out _ _ (J.st 1 rfl rfl)
    ·intro L a U ho J hn dd KK kk; refine .free rfl ?_; have r1:=J.read 1 rfl (dd.get 1 rfl); have e0:=(J.bb.cell (p:=⟨ob,0,none⟩) LO.out).trans X0.out; go_simp; exact kk.out _ _ (J.st 2 rfl rfl)
    ·intro L a U ho J hn dd KK kk; refine .free rfl ?_; have r2:=J.read 2 rfl (dd.get 2 rfl); go_simp; exact kk.out _ _ (J.st 3 rfl rfl)
    ·intro L a U ho J hn dd KK kk; refine .free rfl ?_; have r3:=J.read 3 rfl (dd.get 3 rfl); have e0:=(J.bb.cell (p:=⟨r0,0,none⟩) LR0.out).trans X00.out; go_simp; exact kk.out _ _ (J.st 4 rfl rfl)
    ·intro L a U ho J hn dd KK kk; refine .free rfl ?_; have r4:=J.read 4 rfl (dd.get 4 rfl); have hb:=HB0.out.1; have hb2:=HB0.out.2; go_simp; exact kk.out _ _ (J.st 5 rfl rfl)
    ·intro L a U ho J hn dd KK kk; refine .pos (s:=59) rfl rfl (J.vals 6 _ _ rfl (dd.get 6 rfl)) ?_; have jr2:a.tmps[(2:Nat)]?.getD undef=.slice (some ⟨ob,0,none⟩) N N:=onlyAt_slot ho 2 rfl; go_simp; exact kk.out _ _ (J.st 7 rfl rfl)
    ·intro L a U ho J hn dd KK kk; refine .pos (s:=59) rfl rfl (J.vals 6 _ _ rfl (dd.get 6 rfl)) ?_; have jr9:a.tmps[(9:Nat)]?.getD undef=.int .i64 l1:=onlyAt_slot ho 9 rfl; go_simp; exact kk.out _ _ (J.st 8 rfl rfl)
    ·intro L a U ho J hn dd KK kk; refine .pos (s:=59) rfl rfl (J.vals 6 _ _ rfl (dd.get 6 rfl)) ?_; have r7:=J.read 7 rfl (dd.get 7 rfl); have r8:=J.read 8 rfl (dd.get 8 rfl); have hn1:=HN1.out.1; have hn3:=HN1.out.2; go_simp; exact kk.out _ _ (J.st 9 rfl rfl)
    ·intro L a U ho J hn dd KK kk; refine .pos (s:=59) rfl rfl (J.vals 6 _ _ rfl (dd.get 6 rfl)) ?_; have r9:=J.read 9 rfl (dd.get 9 rfl); have e0:=(J.bb.cell (p:=⟨ob,l1,none⟩) LO.out).trans XL.out; go_simp; exact kk.out _ _ (J.st 10 rfl rfl)
    ·intro L a U ho J hn dd KK kk; refine .pos (s:=59) rfl rfl (J.vals 6 _ _ rfl (dd.get 6 rfl)) ?_; have jr10:a.tmps[(10:Nat)]?.getD undef=.int .i64 l2:=onlyAt_slot ho 10 rfl; go_simp; exact kk.out _ _ (J.st 11 rfl rfl)
    ·intro L a U ho J hn dd KK kk; refine .pos (s:=59) rfl rfl (J.vals 6 _ _ rfl (dd.get 6 rfl)) ?_; have r10:=J.read 10 rfl (dd.get 10 rfl); have r11:=J.read 11 rfl (dd.get 11 rfl); have hn2:=HN2.out.1; have hn4:=HN2.out.2; go_simp; exact kk.out _ _ (J.st 12 rfl rfl)
    ·intro L a U ho J hn dd KK kk; refine .pos (s:=59) rfl rfl (J.vals 6 _ _ rfl (dd.get 6 rfl)) ?_; have r12:=J.read 12 rfl (dd.get 12 rfl); have e0:=(J.bb.cell (p:=⟨rl,l2,none⟩) LRL.out).trans XLR.out; go_simp; exact kk.out _ _ (J.st 13 rfl rfl)
    ·intro L a U ho J hn dd KK kk; refine .pos (s:=59) rfl rfl (J.vals 6 _ _ rfl (dd.get 6 rfl)) ?_; have jr4:a.tmps[(4:Nat)]?.getD undef=.pointer (some ⟨b4,0,none⟩):=onlyAt_slot ho 4 rfl; go_simp; exact kk.out _ _ (J.st 14 rfl rfl)
    ·intro L a U ho J hn dd KK kk; refine .pos (s:=59) rfl rfl (J.vals 6 _ _ rfl (dd.get 6 rfl)) ?_; have r14:=J.read 14 rfl (dd.get 14 rfl); have e0:=(J.bb.cell (p:=⟨b4,1,none⟩) LBA.out).trans CBA.out; go_simp; exact kk.out _ _ (J.st 15 rfl rfl)
    ·intro L a U ho J hn dd KK kk; refine .pos (s:=59) rfl rfl (J.vals 6 _ _ rfl (dd.get 6 rfl)) ?_; have r13:=J.read 13 rfl (dd.get 13 rfl); have r15:=J.read 15 rfl (dd.get 15 rfl); have hb:=HB2.out; go_simp; exact kk.out _ _ (J.st 16 rfl rfl)
    ·intro L a U ho J hn dd KK kk; refine .free rfl ?_; have r6:=J.read 6 rfl (dd.get 6 rfl); have r16:=J.read 16 rfl (dd.get 16 rfl); go_simp; exact kk.out _ _ (J.st 17 rfl rfl)
    rintro σ W22 _ _ _ _ q22
    simp only [slotsOf,finX,nval,nvalN,nvalA,Nat.reduceBEq,cond_true,cond_false,putAll,Act.put,List.setIfInBounds_toArray,List.set_cons_succ,List.set_cons_zero]
    replace B:=Lib.hid (B.out.trans (q22.out.mono B.out.size))
    go_wp2
    go_ret
    exact ⟨⟨_,rfl,HV9.out⟩,(B0.out.trans (B.out.mono B0.out.size))⟩
   have HB2:Hid ((cLR.toList == T.toList)=true):=Lib.hid (by rw [ba_beq]; exact decide_eq_true h2)
   have H2:=Lib.hid h2
   clear h2
   go_upto_region 12 with (fail)
   refine wp_tab (.v 53 (.slice (some ⟨ob,0,none⟩) N N) :: .v 54 (.pointer (some ⟨ob,0,none⟩)) :: .v 55 (.slice (some ⟨r0,0,none⟩) M M) :: .v 56 (.pointer (some ⟨r0,0,none⟩)) :: .v 57 (.string c00) :: .v 58 (.bool false) :: .v 59 (.bool false) :: .v 60 (.slice (some ⟨ob,0,none⟩) N N) :: .v 61 (.int .i64 l1) :: .v 62 (.pointer (some ⟨ob,l1,none⟩)) :: .v 63 (.slice (some ⟨rl,0,none⟩) M M) :: .v 64 (.int .i64 l2) :: .v 65 (.pointer (some ⟨rl,l2,none⟩)) :: .v 66 (.string cLR) :: .v 67 (.pointer (some ⟨b4,1,none⟩)) :: .v 68 (.string T) :: .v 69 (.bool false) :: .v 70 (.bool false) :: []) [] [] [] [] [] [] [] (by kernel_rfl) (Below.refl _ _) trivial trivial ⟨pu,?_,?_,?_,?_,?_,pu,?_,?_,?_,?_,?_,?_,?_,?_,?_,?_,?_,trivial⟩ ?_
   ·intro L a U ho J hn dd KK kk; refine .free rfl ?_; have r0:=J.read 0 rfl (dd.get 0 rfl); go_simp; exact kk.out _ _ (J.st 1 rfl rfl)
   ·intro L a U ho J hn dd KK kk; refine .free rfl ?_; have r1:=J.read 1 rfl (dd.get 1 rfl); have e0:=(J.bb.cell (p:=⟨ob,0,none⟩) LO.out).trans X0.out; go_simp; exact kk.out _ _ (J.st 2 rfl rfl)
   ·intro L a U ho J hn dd KK kk; refine .free rfl ?_; have r2:=J.read 2 rfl (dd.get 2 rfl); go_simp; exact kk.out _ _ (J.st 3 rfl rfl)
   ·intro L a U ho J hn dd KK kk; refine .free rfl ?_; have r3:=J.read 3 rfl (dd.get 3 rfl); have e0:=(J.bb.cell (p:=⟨r0,0,none⟩) LR0.out).trans X00.out; go_simp; exact kk.out _ _ (J.st 4 rfl rfl)
   ·intro L a U ho J hn dd KK kk; refine .free rfl ?_; have r4:=J.read 4 rfl (dd.get 4 rfl); have hb:=HB0.out.1; have hb2:=HB0.out.2; go_simp; exact kk.out _ _ (J.st 5 rfl rfl)
   ·intro L a U ho J hn dd KK kk; refine .pos (s:=59) rfl rfl (J.vals 6 _ _ rfl (dd.get 6 rfl)) ?_; have jr2:a.tmps[(2:Nat)]?.getD undef=.slice (some ⟨ob,0,none⟩) N N:=onlyAt_slot ho 2 rfl; go_simp; exact kk.out _ _ (J.st 7 rfl rfl)
   ·intro L a U ho J hn dd KK kk; refine .pos (s:=59) rfl rfl (J.vals 6 _ _ rfl (dd.get 6 rfl)) ?_; have jr9:a.tmps[(9:Nat)]?.getD undef=.int .i64 l1:=onlyAt_slot ho 9 rfl; go_simp; exact kk.out _ _ (J.st 8 rfl rfl)
   ·intro L a U ho J hn dd KK kk; refine .pos (s:=59) rfl rfl (J.vals 6 _ _ rfl (dd.get 6 rfl)) ?_; have r7:=J.read 7 rfl (dd.get 7 rfl); have r8:=J.read 8 rfl (dd.get 8 rfl); have hn1:=HN1.out.1; have hn3:=HN1.out.2; go_simp; exact kk.out _ _ (J.st 9 rfl rfl)
   ·intro L a U ho J hn dd KK kk; refine .pos (s:=59) rfl rfl (J.vals 6 _ _ rfl (dd.get 6 rfl)) ?_; have r9:=J.read 9 rfl (dd.get 9 rfl); have e0:=(J.bb.cell (p:=⟨ob,l1,none⟩) LO.out).trans XL.out; go_simp; exact kk.out _ _ (J.st 10 rfl rfl)
   ·intro L a U ho J hn dd KK kk; refine .pos (s:=59) rfl rfl (J.vals 6 _ _ rfl (dd.get 6 rfl)) ?_; have jr10:a.tmps[(10:Nat)]?.getD undef=.int .i64 l2:=onlyAt_slot ho 10 rfl; go_simp; exact kk.out _ _ (J.st 11 rfl rfl)
   ·intro L a U ho J hn dd KK kk; refine .pos (s:=59) rfl rfl (J.vals 6 _ _ rfl (dd.get 6 rfl)) ?_; have r10:=J.read 10 rfl (dd.get 10 rfl); have r11:=J.read 11 rfl (dd.get 11 rfl); have hn2:=HN2.out.1; have hn4:=HN2.out.2; go_simp; exact kk.out _ _ (J.st 12 rfl rfl)
   ·intro L a U ho J hn dd KK kk; refine .pos (s:=59) rfl rfl (J.vals 6 _ _ rfl (dd.get 6 rfl)) ?_; have r12:=J.read 12 rfl (dd.get 12 rfl); have e0:=(J.bb.cell (p:=⟨rl,l2,none⟩) LRL.out).trans XLR.out; go_simp; exact kk.out _ _ (J.st 13 rfl rfl)
   ·intro L a U ho J hn dd KK kk; refine .pos (s:=59) rfl rfl (J.vals 6 _ _ rfl (dd.get 6 rfl)) ?_; have jr4:a.tmps[(4:Nat)]?.getD undef=.pointer (some ⟨b4,0,none⟩):=onlyAt_slot ho 4 rfl; go_simp; exact kk.out _ _ (J.st 14 rfl rfl)
   ·intro L a U ho J hn dd KK kk; refine .pos (s:=59) rfl rfl (J.vals 6 _ _ rfl (dd.get 6 rfl)) ?_; have r14:=J.read 14 rfl (dd.get 14 rfl); have e0:=(J.bb.cell (p:=⟨b4,1,none⟩) LBA.out).trans CBA.out; go_simp; exact kk.out _ _ (J.st 15 rfl rfl)
   ·intro L a U ho J hn dd KK kk; refine .pos (s:=59) rfl rfl (J.vals 6 _ _ rfl (dd.get 6 rfl)) ?_; have r13:=J.read 13 rfl (dd.get 13 rfl); have r15:=J.read 15 rfl (dd.get 15 rfl); have hb:=HB2.out; go_simp; exact kk.out _ _ (J.st 16 rfl rfl)
   ·intro L a U ho J hn dd KK kk; refine .free rfl ?_; have r6:=J.read 6 rfl (dd.get 6 rfl); have r16:=J.read 16 rfl (dd.get 16 rfl); go_simp; exact kk.out _ _ (J.st 17 rfl rfl)
   rintro σ W22 _ _ _ _ q22
   simp only [slotsOf,finX,nval,nvalN,nvalA,Nat.reduceBEq,cond_true,cond_false,putAll,Act.put,List.setIfInBounds_toArray,List.set_cons_succ,List.set_cons_zero]
   replace B:=Lib.hid (B.out.trans (q22.out.mono B.out.size))
   clear q22 LO X0 X00 LR0 XL XLR LRL LBA CBA HB0 HB2 hzN hzM hzN3 hzM3 HN1 HN2
   have HVW:Hid ((badP q c ∨ T ≠ sX)→PrfS q T c (T ≠ sX) 23):=Lib.hid (fun h=>.inr (.inl ⟨HNB.out,h.elim (fun hb=>.inr (.inr (.inr hb))) (fun hb=>.inr (.inl hb)),rfl⟩))
   have HV0:Hid (¬ badP q c→T=sX→PrfS q T c (T ≠ sX) 0):=Lib.hid (fun hb ht=>.inr (.inr ⟨HNB.out,fun h=>by
    rcases h with h | h | h | h
    ·exact h (by rw [HC00.out,H0.out])
    ·exact h ht
    ·exact h (by rw [HCLR.out,H2.out])
    ·exact hb h,rfl⟩))
   clear H0 H2 HNB HC00 HCLR
   go_wp2
   go_loopw [11] (fun iv wr=>∃ i:Nat,i≤N∧iv=.int .i64 i∧(∀ i' j' k',i'≤q.L.length→j'≤q.R.length→i' < i→k' ∈ kinds→okS q k' i' j'→worseT (c i' j') (c (nxI k' i') (nxJ k' j')) (cst q k' i' j')=false)∧Below W2.heap.size W2 wr) (fun iv _=>N - (intOf iv).toNat)
   case atStart=>exact ⟨0,Nat.zero_le _,rfl,fun i' j' k' _ _ h=>absurd h (Nat.not_lt_zero _),B.out⟩
   case round =>
    clear B
    obtain ⟨i,hi,rfl,hgd,hb⟩:=hrel
    have B:=Lib.hid hb
    have HGD:=Lib.hid hgd
    clear hb hgd
    by_cases hlt:i < N
    case neg =>
     have hz1:¬ (i:Int)≤(l1:Int):=by have:=HN.out; omega
     have hz2:decide ((i:Int)≤(l1:Int))=false:=decide_eq_false hz1
     have HNBP:Hid (¬ badP q c):=Lib.hid (fun ⟨i',j',k',h1,h2,h3,h4,h5⟩=>by
      have h:=HGD.out i' j' k' h1 h2 (by have:=HN.out; have:=HL1.out; omega) h3 h4
      rw [h5] at h
      cases h)
     have kq:=KQ.out.below B.out
     have y0:=kq.at_ 0 _ rfl
     have y1:=kq.at_ 1 _ rfl
     have y2:=kq.at_ 2 _ rfl
     have y3:=kq.at_ 3 _ rfl
     have y4:=kq.at_ 4 _ rfl
     have y5:=kq.at_ 5 _ rfl
     have a0:=(KA.out.below B.out).at_ 0 _ rfl
     have HBB:=Lib.hid (B0.out.trans (B.out.mono B0.out.size))
     clear kq HGD
     go_upto_region 30 with (first
      | (go_at_call 27; with_reducible refine (HTO.out _ HBB.out).mono ?_; rintro e W9 ⟨rfl,q9⟩; replace B:=Lib.hid (B.out.trans (q9.mono B.out.size)); clear q9)
      | fail "arm")
     clear y0 y1 y2 y3 y4 y5 a0
     have a1:=(KA.out.below B.out).at_ 1 _ rfl
     by_cases hx:T=sX
     ·have hxb:(sX.toList == T.toList)=true:=by rw [ba_beq]; exact decide_eq_true hx.symm
      have HV9:=Lib.hid (HV0.out HNBP.out hx)
      clear hx
      go_wp2
      go_ret
      exact ⟨⟨_,rfl,HV9.out⟩,(B0.out.trans (B.out.mono B0.out.size))⟩
     ·have hxb:(sX.toList == T.toList)=false:=by rw [ba_beq]; exact decide_eq_false (fun e=>hx e.symm)
      have HV9:=Lib.hid (HVW.out (.inr hx))
      clear hx
      go_wp2
      go_ret
      exact ⟨⟨_,rfl,HV9.out⟩,(B0.out.trans (B.out.mono B0.out.size))⟩
    have hz1:(i:Int)≤(l1:Int):=by have:=HN.out; omega
    have hz2:decide ((i:Int)≤(l1:Int))=true:=decide_eq_true hz1
    have hiQ:i≤q.L.length:=by have:=HN.out; have:=HL1.out; omega
    have hwi:IntKind.i64.wrap ((i:Int) + 1)=(i:Int) + 1:=IntWalk.i64_in _ (by have:=HN.out; omega)
    go_wp2
    go_loopw [12] (fun jv wx=>∃ j:Nat,j≤M∧jv=.int .i64 j∧(∀ i' j' k',i'≤q.L.length→j'≤q.R.length→(i' < i ∨ (i'=i∧j' < j))→k' ∈ kinds→okS q k' i' j'→worseT (c i' j') (c (nxI k' i') (nxJ k' j')) (cst q k' i' j')=false)∧Below W2.heap.size W2 wx) (fun jv _=>M - (intOf jv).toNat)
    case atStart=>exact ⟨0,Nat.zero_le _,rfl,fun i' j' k' h1 h2 h3 h4 h5=>HGD.out i' j' k' h1 h2 (by omega) h4 h5,B.out⟩
    case round =>
     clear B HGD
     obtain ⟨j,hj,rfl,hgd,hb⟩:=hrel
     have B:=Lib.hid hb
     have HGD:=Lib.hid hgd
     clear hb hgd
     by_cases hlj:j < M
     case neg =>
      have hz3:¬ (j:Int)≤(l2:Int):=by have:=HM.out; omega
      have hz4:decide ((j:Int)≤(l2:Int))=false:=decide_eq_false hz3
      have HG2:Hid (∀ i' j' k',i'≤q.L.length→j'≤q.R.length→i' < i + 1→k' ∈ kinds→okS q k' i' j'→worseT (c i' j') (c (nxI k' i') (nxJ k' j')) (cst q k' i' j')=false):=Lib.hid (fun i' j' k' h1 h2 h3 h4 h5=>HGD.out i' j' k' h1 h2 (by have:=HM.out; have:=HL2.out; omega) h4 h5)
      go_wp2
      exact ⟨⟨i + 1,by omega,by go_num,HG2.out,B.out⟩,by simp [intOf]; omega⟩
     have hz3:(j:Int)≤(l2:Int):=by have:=HM.out; omega
     have hz4:decide ((j:Int)≤(l2:Int))=true:=decide_eq_true hz3
     have hjQ:j≤q.R.length:=by have:=HM.out; have:=HL2.out; omega
     have hwj:IntKind.i64.wrap ((j:Int) + 1)=(j:Int) + 1:=IntWalk.i64_in _ (by have:=HM.out; omega)
     go_wp2
     go_loopw [13] (fun kv wk=>∃ k:Nat,1≤k∧k≤6∧kv=.int .i64 k∧(∀ i' j' k',i'≤q.L.length→j'≤q.R.length→(i' < i ∨ (i'=i∧(j' < j ∨ (j'=j∧k' < k))))→k' ∈ kinds→okS q k' i' j'→worseT (c i' j') (c (nxI k' i') (nxJ k' j')) (cst q k' i' j')=false)∧Below W2.heap.size W2 wk) (fun kv _=>(6 - intOf kv).toNat)
     case atStart=>exact ⟨1,by omega,by omega,rfl,fun i' j' k' h1 h2 h3 h4 h5=>HGD.out i' j' k' h1 h2 (by have:=(of_kinds h4).1; omega) h4 h5,B.out⟩
     case round =>
      clear B HGD
      obtain ⟨k,hk1,hk6,rfl,hgd,hb⟩:=hrel
      have B:=Lib.hid hb
      have HGD:=Lib.hid hgd
      clear hb hgd
      by_cases hk5:k≤5
      case neg =>
       obtain rfl:k=6:=by omega
       have HG2:Hid (∀ i' j' k',i'≤q.L.length→j'≤q.R.length→(i' < i ∨ (i'=i∧j' < j + 1))→k' ∈ kinds→okS q k' i' j'→worseT (c i' j') (c (nxI k' i') (nxJ k' j')) (cst q k' i' j')=false):=Lib.hid (fun i' j' k' h1 h2 h3 h4 h5=>HGD.out i' j' k' h1 h2 (by have:=(of_kinds h4).2; omega) h4 h5)
       go_wp2
       exact ⟨⟨j + 1,by omega,by go_num,HG2.out,B.out⟩,by simp [intOf]; omega⟩
      have hkz:(k:Int)≤5:=by omega
      have hkd:decide ((k:Int)≤5)=true:=decide_eq_true hkz
      have hwk:IntKind.i64.wrap ((k:Int) + 1)=(k:Int) + 1:=IntWalk.i64_in _ (by omega)
      have HKK:=Lib.hid (And.intro hk1 hk5)
      have hX:∃ X er,costV q k i j=.tuple #[.string X,.int .i64 er]∧(okS q k i j→X=qT (cst q k i j)∧er=0)∧(¬ okS q k i j→er ≠ 0):=by
       by_cases ho:okS q k i j
       ·exact ⟨_,_,costV_ok HKK.out hiQ hjQ ho,fun _=>⟨rfl,rfl⟩,fun h=>absurd ho h⟩
       ·obtain ⟨er,h1,h2⟩:=costV_no HKK.out hiQ hjQ ho
        exact ⟨_,_,h2,fun h=>absurd h ho,fun _=>h1⟩
      obtain ⟨X,er,hcv,hxo,hxn⟩:=hX
      have HXO:=Lib.hid hxo
      have HXN:=Lib.hid hxn
      have hlc:=lcost_any q OK.out k i j _ _ w0 HE.out (by rw [← HL1.out,← HL2.out] at HQ; exact HQ.out)
      rw [HL1.out,HL2.out,hcv] at hlc
      have HLC0:=Lib.hid hlc
      clear hcv hxo hxn hlc
      go_upto_region 24 with (fail)
      have KS:=Lib.hid (Blk.fresh wr #[.int .i64 k,.int .i64 i,.int .i64 j] 56)
      have qs:=below_new wr (.cells #[.int .i64 k,.int .i64 i,.int .i64 j] 56)
      replace B:=Lib.hid (B.out.trans (qs.mono B.out.size))
      clear qs
      generalize (wr.alloc (.cells #[.int .i64 k,.int .i64 i,.int .i64 j] 56))=V1 at *
      obtain ⟨bs,hbs⟩:∃ b,wr.heap.size=b:=⟨_,rfl⟩
      rw [hbs] at KS ⊢
      clear hbs
      have HLC:Hid (Ret Tryz.prog V1 24 #[.agg #[.slice A1 l1 n1,.slice A2 l2 n2,.string (qT (2 * q.ch)),.string (qT (2 * q.mi)),.string (qT (2 * q.ga)),.string (qT (2 * q.re))],.agg #[.int .i64 k,.int .i64 i,.int .i64 j]] (.tuple #[.string X,.int .i64 er])):=Lib.hid (fun W hW=>HLC0.out W ((B0.out.trans (B.out.mono B0.out.size)).trans (hW.mono (Nat.le_trans B0.out.size B.out.size))))
      refine wp_tab (.v 90 (.agg #[.slice A1 l1 n1,.slice A2 l2 n2,.string (qT (2 * q.ch)),.string (qT (2 * q.mi)),.string (qT (2 * q.ga)),.string (qT (2 * q.re))]) :: .v 91 (.agg #[.int .i64 k,.int .i64 i,.int .i64 j]) :: .v 92 (.tuple #[.string X,.int .i64 er]) :: .v 89 (.tuple #[.string X,.int .i64 er]) :: .v 93 (.string X) :: .v 94 (.int .i64 er) :: .v 15 (.string X) :: .v 16 (.int .i64 er) :: []) [] [⟨b3,#[.slice A1 l1 n1,.slice A2 l2 n2,.string (qT (2 * q.ch)),.string (qT (2 * q.mi)),.string (qT (2 * q.ga)),.string (qT (2 * q.re))],32,none⟩,⟨bs,#[.int .i64 k,.int .i64 i,.int .i64 j],56,none⟩] [] [] [] [] [] (by kernel_rfl) (Below.refl _ _) ⟨KQ.out.below B.out,KS.out,trivial⟩ trivial ⟨ld 0 0,ld 1 0,cl HLC.out,pu,pu,pu,pu,pu,trivial⟩ ?_
      clear HLC
      rintro σ V2 _ ⟨_,KS2,_⟩ _ _ q9
      simp only [slotsOf,finX,nval,nvalN,nvalA,Nat.reduceBEq,cond_true,cond_false,putAll,Act.put,List.setIfInBounds_toArray,List.set_cons_succ,List.set_cons_zero]
      replace B:=Lib.hid (B.out.trans (q9.out.mono B.out.size))
      clear KS q9 HLC0
      by_cases ho:okS q k i j
      case neg =>
       have hn0:=HXN.out ho
       have hn:(er == 0)=false:=by rw [beq_eq_false_iff_ne]; exact hn0
       have HG2:Hid (∀ i' j' k',i'≤q.L.length→j'≤q.R.length→(i' < i ∨ (i'=i∧(j' < j ∨ (j'=j∧k' < k + 1))))→k' ∈ kinds→okS q k' i' j'→worseT (c i' j') (c (nxI k' i') (nxJ k' j')) (cst q k' i' j')=false):=Lib.hid (fun i' j' k' h1 h2 h3 h4 h5=>by
        by_cases e:i'=i∧j'=j∧k'=k
        ·obtain ⟨rfl,rfl,rfl⟩:=e
         exact absurd h5 ho
        ·exact HGD.out i' j' k' h1 h2 (by omega) h4 h5)
       clear HXO HXN KS2
       go_wp2
       exact ⟨⟨k + 1,by omega,by omega,rfl,HG2.out,B.out⟩,by simp [intOf]; omega⟩
      obtain ⟨rfl,rfl⟩:=HXO.out ho
      have d0:=KS2.at_ 0 _ rfl
      have d1:=KS2.at_ 1 _ rfl
      have d2:=KS2.at_ 2 _ rfl
      have hnx:=lafter_any k i j (by have:=HL1.out; omega) (by have:=HL2.out; omega) V2
      rw [nzI_nat,nzJ_nat k j HKK.out] at hnx
      have HAF:=Lib.hid hnx
      clear hnx HXO HXN KS2
      go_upto_region 27 with (first
       | (go_at_call 32; with_reducible refine (HAF.out _ (Below.refl _ _)).mono ?_; rintro e V3 ⟨rfl,q3⟩; replace B:=Lib.hid (B.out.trans (q3.mono B.out.size)); clear q3)
       | fail "arm")
      clear d0 d1 d2 HAF
      have hmi:=ho.1
      have hmj:=ho.2.1
      have hb2:=cst_bd q OK.out k i j
      have HE1:=HE.out.below (B0.out.trans (B.out.mono B0.out.size))
      obtain ⟨ra,h1,h2⟩:=HT2.out (nxI k i) (nxJ k j) (by have:=HN.out; have:=HL1.out; omega) (by have:=HM.out; have:=HL2.out; omega)
      obtain ⟨ri,h3,h4⟩:=HT2.out i j hlt hlj
      have LO:=Lib.hid (h1 _ B.out).2
      have C1:=Lib.hid (h1 _ B.out).1
      have C2:=Lib.hid (h2 _ B.out).1
      have LC2:=Lib.hid (h2 _ B.out).2
      have C3:=Lib.hid (h3 _ B.out).1
      have C4:=Lib.hid (h4 _ B.out).1
      have LC4:=Lib.hid (h4 _ B.out).2
      have HAD:=Lib.hid (addT_any (cst q k i j) (HRI.out i j hiQ hjQ) (HCS.out i j hiQ hjQ) (by omega) V3 HE1)
      obtain ⟨z,hz,hcm⟩:=cmpT_any (cst q k i j) (HRI.out i j hiQ hjQ) (HRI.out _ _ hmi hmj) (HCS.out i j hiQ hjQ) (HCS.out _ _ hmi hmj) (by omega) V3 HE1
      have HCM:=Lib.hid hcm
      obtain ⟨bw,hbw⟩:∃ b,worseT (c i j) (c (nxI k i) (nxJ k j)) (cst q k i j)=b:=⟨_,rfl⟩
      rw [hbw] at hz
      have HZD:=Lib.hid hz
      have hzz1:(nxI k i:Int) < (N:Int):=by have:=HN.out; have:=HL1.out; omega
      have hzz2:(nxJ k j:Int) < (M:Int):=by have:=HM.out; have:=HL2.out; omega
      have hzz3:(i:Int) < (N:Int):=by omega
      have hzz4:(j:Int) < (M:Int):=by omega
      have HPX:Hid (bw=false→(∀ i' j' k',i'≤q.L.length→j'≤q.R.length→(i' < i ∨ (i'=i∧(j' < j ∨ (j'=j∧k' < k + 1))))→k' ∈ kinds→okS q k' i' j'→worseT (c i' j') (c (nxI k' i') (nxJ k' j')) (cst q k' i' j')=false)):=Lib.hid (fun e i' j' k' h1 h2 h3 h4 h5=>by
       by_cases e2:i'=i∧j'=j∧k'=k
       ·obtain ⟨rfl,rfl,rfl⟩:=e2
        rw [hbw]; exact e
       ·exact HGD.out i' j' k' h1 h2 (by omega) h4 h5)
      have HPB:Hid (bw=true→badP q c):=Lib.hid (fun e=>⟨i,j,k,hiQ,hjQ,kinds_of HKK.out,ho,by rw [hbw]; exact e⟩)
      clear hmi hmj hb2 HE1 h1 h2 h3 h4 hcm hz hbw ho
      have HPX2:Hid (∀ (e:bw=false),(∀ i' j' k',i'≤q.L.length→j'≤q.R.length→(i' < i ∨ (i'=i∧(j' < j ∨ (j'=j∧k' < k + 1))))→k' ∈ kinds→okS q k' i' j'→worseT (c i' j') (c (nxI k' i') (nxJ k' j')) (cst q k' i' j')=false)):=HPX
      clear HPX HGD
      cases bw with
      | false =>
       have HG2:=Lib.hid (HPX2.out rfl)
       clear HPX2 HPB
       generalize sumT (c i j) (cst q k i j)=tS at HAD HCM
       generalize c (nxI k i) (nxJ k j)=tN at HCM C2
       generalize c i j=tA at HAD C4
       generalize qT (cst q k i j)=co at *
       generalize nxI k i=am at HAD HCM C1 hzz1 ⊢
       generalize nxJ k j=bm at HAD HCM C2 hzz2 ⊢
       refine wp_tab (.v 102 (.slice (some ⟨ob,0,none⟩) N N) :: .v 103 (.int .i64 am) :: .v 104 (.pointer (some ⟨ob,am,none⟩)) :: .v 105 (.slice (some ⟨ra,0,none⟩) M M) :: .v 106 (.int .i64 bm) :: .v 107 (.pointer (some ⟨ra,bm,none⟩)) :: .v 108 (.string tN) :: .v 109 (.slice (some ⟨ob,0,none⟩) N N) :: .v 110 (.int .i64 i) :: .v 111 (.pointer (some ⟨ob,i,none⟩)) :: .v 112 (.slice (some ⟨ri,0,none⟩) M M) :: .v 113 (.int .i64 j) :: .v 114 (.pointer (some ⟨ri,j,none⟩)) :: .v 115 (.string tA) :: .v 116 (.string co) :: .v 117 (.string tS) :: .v 118 (.int .i64 z) :: .v 119 (.bool false) :: []) [] [] [] [] [] [] [] (by kernel_rfl) (Below.refl _ _) trivial trivial ⟨pu,pu,?_,?_,pu,?_,?_,pu,pu,?_,?_,pu,?_,?_,pu,cl HAD.out,cl HCM.out,?_,trivial⟩ ?_
       ·intro L a U ho J hn dd KK kk; refine .free rfl ?_; have r0:=J.read 0 rfl (dd.get 0 rfl); have r1:=J.read 1 rfl (dd.get 1 rfl); go_simp; exact kk.out _ _ (J.st 2 rfl rfl)
       ·intro L a U ho J hn dd KK kk; refine .free rfl ?_; have r2:=J.read 2 rfl (dd.get 2 rfl); have e0:=(J.bb.cell (p:=⟨ob,am,none⟩) LO.out).trans C1.out; go_simp; exact kk.out _ _ (J.st 3 rfl rfl)
       ·intro L a U ho J hn dd KK kk; refine .free rfl ?_; have r3:=J.read 3 rfl (dd.get 3 rfl); have r4:=J.read 4 rfl (dd.get 4 rfl); go_simp; exact kk.out _ _ (J.st 5 rfl rfl)
       ·intro L a U ho J hn dd KK kk; refine .free rfl ?_; have r5:=J.read 5 rfl (dd.get 5 rfl); have e0:=(J.bb.cell (p:=⟨ra,bm,none⟩) LC2.out).trans C2.out; go_simp; exact kk.out _ _ (J.st 6 rfl rfl)
       ·intro L a U ho J hn dd KK kk; refine .free rfl ?_; have r7:=J.read 7 rfl (dd.get 7 rfl); have r8:=J.read 8 rfl (dd.get 8 rfl); go_simp; exact kk.out _ _ (J.st 9 rfl rfl)
       ·intro L a U ho J hn dd KK kk; refine .free rfl ?_; have r9:=J.read 9 rfl (dd.get 9 rfl); have e0:=(J.bb.cell (p:=⟨ob,i,none⟩) LO.out).trans C3.out; go_simp; exact kk.out _ _ (J.st 10 rfl rfl)
       ·intro L a U ho J hn dd KK kk; refine .free rfl ?_; have r10:=J.read 10 rfl (dd.get 10 rfl); have r11:=J.read 11 rfl (dd.get 11 rfl); go_simp; exact kk.out _ _ (J.st 12 rfl rfl)
       ·intro L a U ho J hn dd KK kk; refine .free rfl ?_; have r12:=J.read 12 rfl (dd.get 12 rfl); have e0:=(J.bb.cell (p:=⟨ri,j,none⟩) LC4.out).trans C4.out; go_simp; exact kk.out _ _ (J.st 13 rfl rfl)
       ·intro L a U ho J hn dd KK kk; refine .free rfl ?_; have r16:=J.read 16 rfl (dd.get 16 rfl); have hz:=HZD.out; go_simp; exact kk.out _ _ (J.st 17 rfl rfl)
       rintro σ V9 _ _ _ _ q9
       simp only [slotsOf,finX,nval,nvalN,nvalA,Nat.reduceBEq,cond_true,cond_false,putAll,Act.put,List.setIfInBounds_toArray,List.set_cons_succ,List.set_cons_zero]
       replace B:=Lib.hid (B.out.trans (q9.out.mono B.out.size))
       clear q9 HAD HCM C1 C2 C3 C4 LC2 LC4 LO HZD
       go_wp2
       exact ⟨⟨k + 1,by omega,by omega,rfl,HG2.out,B.out⟩,by simp [intOf]; omega⟩
      | true =>
       have HV9:=Lib.hid (HVW.out (.inl (HPB.out rfl)))
       clear HPX2 HPB
       generalize sumT (c i j) (cst q k i j)=tS at HAD HCM
       generalize c (nxI k i) (nxJ k j)=tN at HCM C2
       generalize c i j=tA at HAD C4
       generalize qT (cst q k i j)=co at *
       generalize nxI k i=am at HAD HCM C1 hzz1 ⊢
       generalize nxJ k j=bm at HAD HCM C2 hzz2 ⊢
       refine wp_tab (.v 102 (.slice (some ⟨ob,0,none⟩) N N) :: .v 103 (.int .i64 am) :: .v 104 (.pointer (some ⟨ob,am,none⟩)) :: .v 105 (.slice (some ⟨ra,0,none⟩) M M) :: .v 106 (.int .i64 bm) :: .v 107 (.pointer (some ⟨ra,bm,none⟩)) :: .v 108 (.string tN) :: .v 109 (.slice (some ⟨ob,0,none⟩) N N) :: .v 110 (.int .i64 i) :: .v 111 (.pointer (some ⟨ob,i,none⟩)) :: .v 112 (.slice (some ⟨ri,0,none⟩) M M) :: .v 113 (.int .i64 j) :: .v 114 (.pointer (some ⟨ri,j,none⟩)) :: .v 115 (.string tA) :: .v 116 (.string co) :: .v 117 (.string tS) :: .v 118 (.int .i64 z) :: .v 119 (.bool true) :: []) [] [] [] [] [] [] [] (by kernel_rfl) (Below.refl _ _) trivial trivial ⟨pu,pu,?_,?_,pu,?_,?_,pu,pu,?_,?_,pu,?_,?_,pu,cl HAD.out,cl HCM.out,?_,trivial⟩ ?_
       ·intro L a U ho J hn dd KK kk; refine .free rfl ?_; have r0:=J.read 0 rfl (dd.get 0 rfl); have r1:=J.read 1 rfl (dd.get 1 rfl); go_simp; exact kk.out _ _ (J.st 2 rfl rfl)
       ·intro L a U ho J hn dd KK kk; refine .free rfl ?_; have r2:=J.read 2 rfl (dd.get 2 rfl); have e0:=(J.bb.cell (p:=⟨ob,am,none⟩) LO.out).trans C1.out; go_simp; exact kk.out _ _ (J.st 3 rfl rfl)
       ·intro L a U ho J hn dd KK kk; refine .free rfl ?_; have r3:=J.read 3 rfl (dd.get 3 rfl); have r4:=J.read 4 rfl (dd.get 4 rfl); go_simp; exact kk.out _ _ (J.st 5 rfl rfl)
       ·intro L a U ho J hn dd KK kk; refine .free rfl ?_; have r5:=J.read 5 rfl (dd.get 5 rfl); have e0:=(J.bb.cell (p:=⟨ra,bm,none⟩) LC2.out).trans C2.out; go_simp; exact kk.out _ _ (J.st 6 rfl rfl)
       ·intro L a U ho J hn dd KK kk; refine .free rfl ?_; have r7:=J.read 7 rfl (dd.get 7 rfl); have r8:=J.read 8 rfl (dd.get 8 rfl); go_simp; exact kk.out _ _ (J.st 9 rfl rfl)
       ·intro L a U ho J hn dd KK kk; refine .free rfl ?_; have r9:=J.read 9 rfl (dd.get 9 rfl); have e0:=(J.bb.cell (p:=⟨ob,i,none⟩) LO.out).trans C3.out; go_simp; exact kk.out _ _ (J.st 10 rfl rfl)
       ·intro L a U ho J hn dd KK kk; refine .free rfl ?_; have r10:=J.read 10 rfl (dd.get 10 rfl); have r11:=J.read 11 rfl (dd.get 11 rfl); go_simp; exact kk.out _ _ (J.st 12 rfl rfl)
       ·intro L a U ho J hn dd KK kk; refine .free rfl ?_; have r12:=J.read 12 rfl (dd.get 12 rfl); have e0:=(J.bb.cell (p:=⟨ri,j,none⟩) LC4.out).trans C4.out; go_simp; exact kk.out _ _ (J.st 13 rfl rfl)
       ·intro L a U ho J hn dd KK kk; refine .free rfl ?_; have r16:=J.read 16 rfl (dd.get 16 rfl); have hz:=HZD.out; go_simp; exact kk.out _ _ (J.st 17 rfl rfl)
       rintro σ V9 _ _ _ _ q9
       simp only [slotsOf,finX,nval,nvalN,nvalA,Nat.reduceBEq,cond_true,cond_false,putAll,Act.put,List.setIfInBounds_toArray,List.set_cons_succ,List.set_cons_zero]
       replace B:=Lib.hid (B.out.trans (q9.out.mono B.out.size))
       clear q9 HAD HCM C1 C2 C3 C4 LC2 LC4 LO HZD
       go_wp2
       go_ret
       exact ⟨⟨_,rfl,HV9.out⟩,(B0.out.trans (B.out.mono B0.out.size))⟩

end Go.Proofs.YthhkmihjnnfpgaaGreatDoor

/- Verify and proves agree; the potentials of the program are accepted. -/
namespace Go.Proofs.YthhkmihjnnfpgaaGreatDoor
set_option linter.all false
open Go.RowKit

theorem PrfS.ex (q:CQ) (T:ByteArray) (c:Nat→Nat→ByteArray) (b:Prop):∃ z,PrfS q T c b z:=by
 by_cases h1:badN q c ∨ rightQ T=false
 ·exact ⟨2,.inl ⟨h1,rfl⟩⟩
 ·by_cases h2:c 0 0 ≠ ⟨#[48]⟩ ∨ b ∨ c q.L.length q.R.length ≠ T ∨ badP q c
  ·exact ⟨23,.inr (.inl ⟨h1,h2,rfl⟩)⟩
  ·exact ⟨0,.inr (.inr ⟨h1,h2,rfl⟩)⟩
theorem frn_bdQ (q:CQ) (ok:OkQ q) {i j:Nat} (hi:i≤q.L.length) (hj:j≤q.R.length):0≤frn q i j∧frn q i j≤720000 :=
 inv_bd ok (potA_bd q ok _ (Nat.le_refl _)) i j _ (frn_some (cst_bdS q ok) hi hj)
theorem prf_frn (q:CQ) (ok:OkQ q):PrfS q (qT (rst q 0 0)) (frnT q) (qT (rst q 0 0) ≠ qT (rst q 0 0)) 0:=by
 have hr:=rst_bdQ q ok 0 0 (Nat.zero_le _) (Nat.zero_le _)
 refine .inr (.inr ⟨?_,?_,rfl⟩)
 ·rintro (⟨i,j,hi,hj,h⟩ | h)
  ·have hb:=frn_bdQ q ok hi hj
   rw [show frnT q i j=qT (frn q i j) from rfl,qT_right _ (by omega)] at h
   cases h
  ·rw [qT_right _ (by omega)] at h
   cases h
 ·rintro (h | h | h | ⟨i,j,k,hi,hj,hk,ho,h⟩)
  ·exact h (by show qT (frn q 0 0)=_; rw [frn_zero (cst_bdS q ok),qT_zero])
  ·exact h rfl
  ·exact h (by show qT (frn q _ _)=_; rw [frn_end (cst_bdS q ok)])
  ·have hb:=frn_bdQ q ok hi hj
   have hb2:=frn_bdQ q ok ho.1 ho.2.1
   rw [show frnT q i j=qT (frn q i j) from rfl,show frnT q (nxI k i) (nxJ k j)=qT (frn q (nxI k i) (nxJ k j)) from rfl,worse_q _ _ _ (by omega) (by omega)] at h
   have h2:=of_decide_eq_true h
   have h3:=frn_step (cst_bdS q ok) hi hj hk ho
   omega
theorem ver_ok (q:CQ) (ok:OkQ q) (l:List (Int × Int × Int)) (hl:runF q 0 0 0 l=(0,rst q 0 0)) (z:Int) (h:VerS q (runF q 0 0 0 l) (qT (rst q 0 0)) (frnT q) z):z=0:=by
 rw [hl] at h
 rcases h with ⟨h,_⟩ | ⟨_,h⟩
 ·exact absurd rfl h
 ·exact h.uni (prf_frn q ok)
theorem frnT_size (q:CQ) (ok:OkQ q) (i j:Nat) (hi:i≤q.L.length) (hj:j≤q.R.length):(frnT q i j).size≤20:=by
 have hb:=frn_bdQ q ok hi hj
 exact qT_size _ (by omega)
theorem ver_prf {q:CQ} {r:Int × Int} {T:ByteArray} {c:Nat→Nat→ByteArray} (hr:r.1=0) {z y:Int} (h:VerS q r T c z) (k:PrfS q T c (T ≠ totX r) y):z=y:=by
 rcases h with ⟨h,_⟩ | ⟨_,h⟩
 ·exact absurd hr h
 ·unfold totX at k
  rw [if_pos hr] at k
  exact h.uni k
theorem ver_err {q:CQ} {r:Int × Int} {T:ByteArray} {c:Nat→Nat→ByteArray} (hr:r.1 ≠ 0) {z:Int} (h:VerS q r T c z):z=r.1:=by
 rcases h with ⟨_,h⟩ | ⟨h,_⟩
 ·exact h
 ·exact absurd h hr

end Go.Proofs.YthhkmihjnnfpgaaGreatDoor

/- Verify of potentials with a row that is too short. -/
namespace Go.Proofs.YthhkmihjnnfpgaaGreatDoor
set_option linter.all false
open Go.RowKit

attribute [local go_sem] Oper.semAt_some

set_option maxRecDepth 100000 in
set_option maxHeartbeats 8000000 in
theorem verifyZ_any (q:CQ) (ok:OkQ q) (l:List (Int × Int × Int)) (hl:l.length≤1000) (hl0:(runF q 0 0 0 l).1=0) (T:ByteArray) (ob p0:Nat) (hp0:p0 < q.L.length + 1)
  (sl sr v:Value) (w0:World) (he:Env w0) (hq:QAt w0 sl sr q) (hv:SAt stI 3 w0 v l) (ht:ob < w0.heap.size∧∀ p,p < q.L.length + 1→∃ b m cp,w0.cell? ⟨ob,p,none⟩=some (.slice (some ⟨b,0,none⟩) m cp)∧m≤q.R.length + 1∧(p ≠ p0→m=q.R.length + 1)∧(p=p0→m < q.R.length + 1)) :
  Calls Tryz.prog 35 #[.agg #[sl,sr,.string (qT (2 * q.ch)),.string (qT (2 * q.mi)),.string (qT (2 * q.ga)),.string (qT (2 * q.re))],.agg #[v,.string T],.slice (some ⟨ob,0,none⟩) (q.L.length + 1) (q.L.length + 1)] w0 fun e w'=>e=.returned (.int .i64 5)∧Below w0.heap.size w0 w':=by
 have hll:=ok.hl
 have hrr:=ok.hr
 have HQ:=Lib.hid hq
 obtain ⟨A1,n1,rfl,_⟩:=hq.l
 obtain ⟨A2,n2,rfl,_⟩:=hq.r
 have HV:=Lib.hid hv
 obtain ⟨A0,cc,rfl,_⟩:=hv
 have HE:=Lib.hid he
 have OK:=Lib.hid ok
 have TAB:=Lib.hid ht
 have HTO:Hid (∀ W,Below w0.heap.size w0 W→Calls Tryz.prog 66 #[.agg #[.slice A1 q.L.length n1,.slice A2 q.R.length n2,.string (qT (2 * q.ch)),.string (qT (2 * q.mi)),.string (qT (2 * q.ga)),.string (qT (2 * q.re))],.slice A0 l.length cc] W fun e w'=>e=.returned (totV (runF q 0 0 0 l))∧Below W.heap.size W w'):=Lib.hid (fun W hW=>qtotal_any q ok l hl _ _ _ W (he.below hW) (hq.below hW) (HV.out.below hW))
 clear hq he ok ht
 obtain ⟨rr,hrr2⟩:∃ r,runF q 0 0 0 l=r:=⟨_,rfl⟩
 rw [hrr2] at HTO hl0
 clear hrr2 hl HV
 have hX:∃ X,totV rr=.tuple #[.string X,.int .i64 rr.1]∧(rr.1=0→X=qT rr.2):=⟨_,rfl,fun h=>if_pos h⟩
 obtain ⟨sT,hX1,hX2⟩:=hX
 rw [hX1] at HTO
 have HX2:=Lib.hid hX2
 clear hX1 hX2
 rw [hl0] at HTO
 clear HX2 hl0
 clear rr
 obtain ⟨l1,hl1⟩:∃ n,q.L.length=n:=⟨_,rfl⟩
 obtain ⟨l2,hl2⟩:∃ n,q.R.length=n:=⟨_,rfl⟩
 have HL1:=Lib.hid hl1
 have HL2:=Lib.hid hl2
 obtain ⟨N,hN⟩:∃ n,l1 + 1=n:=⟨_,rfl⟩
 obtain ⟨M,hM⟩:∃ n,l2 + 1=n:=⟨_,rfl⟩
 have HN:=Lib.hid hN
 have HM:=Lib.hid hM
 rw [hl1,hl2] at HQ HTO
 rw [hl1] at hll hp0
 rw [hl2] at hrr
 rw [hl1,hl2,hM,hN] at TAB
 rw [hN] at hp0
 rw [hl1,hl2,hN]
 clear hl1 hl2 hN hM
 refine callsIn_wide (n:=9) |>.1 ?_
 refine callsIn_of_wp_marks Tryz.func35 rfl trivial ?_ rfl
 simp only [Tryz.ntmps35,List.size_toArray,List.length_cons,List.length_nil,Nat.reduceAdd,Nat.reduceSub,Array.replicate_succ,Array.replicate_zero,List.push_toArray,List.append_toArray,List.nil_append,List.cons_append]
 refine wpIn_wide.2 ?_
 go_upto_region 1 with (fail)
 have k1:=Blk.fresh w0 #[.slice A1 l1 n1,.slice A2 l2 n2,.string (qT (2 * q.ch)),.string (qT (2 * q.mi)),.string (qT (2 * q.ga)),.string (qT (2 * q.re))] 32
 have q1:=below_new w0 (.cells #[.slice A1 l1 n1,.slice A2 l2 n2,.string (qT (2 * q.ch)),.string (qT (2 * q.mi)),.string (qT (2 * q.ga)),.string (qT (2 * q.re))] 32)
 have z1:(w0.alloc (.cells #[.slice A1 l1 n1,.slice A2 l2 n2,.string (qT (2 * q.ch)),.string (qT (2 * q.mi)),.string (qT (2 * q.ga)),.string (qT (2 * q.re))] 32)).heap.size=w0.heap.size + 1:=by simp
 generalize (w0.alloc (.cells #[.slice A1 l1 n1,.slice A2 l2 n2,.string (qT (2 * q.ch)),.string (qT (2 * q.mi)),.string (qT (2 * q.ga)),.string (qT (2 * q.re))] 32))=W1 at *
 have k2:=Blk.fresh W1 #[.slice A0 l.length cc,.string T] 36
 have q2:=below_new W1 (.cells #[.slice A0 l.length cc,.string T] 36)
 have z2:(W1.alloc (.cells #[.slice A0 l.length cc,.string T] 36)).heap.size=W1.heap.size + 1:=by simp
 generalize (W1.alloc (.cells #[.slice A0 l.length cc,.string T] 36))=W2 at *
 have k3:=Blk.fresh W2 #[.slice (some ⟨ob,0,none⟩) N N] 44
 have q3:=below_new W2 (.cells #[.slice (some ⟨ob,0,none⟩) N N] 44)
 have z3:(W2.alloc (.cells #[.slice (some ⟨ob,0,none⟩) N N] 44)).heap.size=W2.heap.size + 1:=by simp
 generalize (W2.alloc (.cells #[.slice (some ⟨ob,0,none⟩) N N] 44))=W3 at *
 have k4:=Blk.fresh W3 #[.int .i64 0] 37
 have q4:=below_new W3 (.cells #[.int .i64 0] 37)
 generalize (W3.alloc (.cells #[.int .i64 0] 37))=W4 at *
 obtain ⟨bq,hbq⟩:∃ b,w0.heap.size=b:=⟨_,rfl⟩
 obtain ⟨ba,hba⟩:∃ b,w0.heap.size + 1=b:=⟨_,rfl⟩
 obtain ⟨bp,hbp⟩:∃ b,w0.heap.size + 1 + 1=b:=⟨_,rfl⟩
 obtain ⟨b6,hb6⟩:∃ b,w0.heap.size + 1 + 1 + 1=b:=⟨_,rfl⟩
 rw [hbq] at k1
 rw [z1,hba] at k2
 rw [z2,z1,hbp] at k3
 rw [z3,z2,z1,hb6] at k4
 have S:Hid (StV w0 bq ba bp b6 ob N q (.slice A1 l1 n1) (.slice A2 l2 n2) (.slice A0 l.length cc) T [] W4):=Lib.hid
  (have b34:=q4
   have b23:=q3.trans (b34.mono q3.size)
   have b12:=q2.trans (b23.mono q2.size)
   ⟨q1.trans (b12.mono q1.size),k1.below b12,k2.below b23,k3.below b34,k4,trivial,by omega⟩)
 rw [hb6,hbp,hba,hbq]
 clear k1 q1 z1 k2 q2 z2 k3 q3 z3 k4 q4 hbq hba hbp hb6
 have y0:=S.out.kq.at_ 0 _ rfl
 have y1:=S.out.kq.at_ 1 _ rfl
 have y2:=S.out.kq.at_ 2 _ rfl
 have y3:=S.out.kq.at_ 3 _ rfl
 have y4:=S.out.kq.at_ 4 _ rfl
 have y5:=S.out.kq.at_ 5 _ rfl
 have a0:=S.out.ka.at_ 0 _ rfl
 go_upto_region 2 with (first
  | (go_at_call 66; with_reducible refine (HTO.out _ S.out.bb).mono ?_; rintro e W5 ⟨rfl,q5⟩)
  | fail "arm")
 clear y0 y1 y2 y3 y4 y5 a0 HTO
 replace S:=Lib.hid (S.out.below q5)
 clear q5
 have y0:=S.out.kq.at_ 0 _ rfl
 have pp0:=S.out.kp.at_ 0 _ rfl
 have hne1:((N:Int) == (l1:Int) + 1)=true:=by rw [beq_iff_eq]; have:=HN.out; omega
 have hw1:IntKind.i64.wrap ((l1:Int) + 1)=(l1:Int) + 1:=IntWalk.i64_in _ (by omega)
 go_upto_region 6 with (fail)
 clear y0 hne1 hw1
 go_wp2
 clear pp0
 go_loopw [40] (fun iv wr=>∃ i:Nat,i≤p0∧iv=.int .i64 i∧StV w0 bq ba bp b6 ob N q (.slice A1 l1 n1) (.slice A2 l2 n2) (.slice A0 l.length cc) T [] wr) (fun iv _=>N - (intOf iv).toNat)
 case atStart=>exact ⟨0,Nat.zero_le _,rfl,S.out⟩
 case round =>
  clear S
  obtain ⟨i,hi,rfl,hS⟩:=hrel
  have S:=Lib.hid hS
  clear hS
  have hz1:(i:Int) < (N:Int):=by omega
  obtain ⟨b,m,cp,hx,hm,hm1,hm2⟩:=TAB.out.2 i (by omega)
  have x1:=(S.out.bb.cell (p:=⟨ob,i,none⟩) TAB.out.1).trans hx
  have y1:=S.out.kq.at_ 1 _ rfl
  have hw1:IntKind.i64.wrap ((l2:Int) + 1)=(l2:Int) + 1:=IntWalk.i64_in _ (by omega)
  have hw2:IntKind.i64.wrap ((i:Int) + 1)=(i:Int) + 1:=IntWalk.i64_in _ (by have:=HN.out; omega)
  by_cases hip:i=p0
  ·have hne1:((m:Int) == (l2:Int) + 1)=false:=by rw [beq_eq_false_iff_ne]; have:=hm2 hip; have:=HM.out; omega
   clear hx hm hm1 hm2 hip hi hp0
   have HZE:=Lib.hid (S.out.lay 5)
   have f6:=S.out.k6.free 0
   have g6:=S.out.k6.at_ 0 _ rfl
   go_wp2
   generalize World.setCell wr ⟨b6,0,none⟩ (.int .i64 5)=WZ at *
   refine leaves_marks [] _ HZE.out.mrk (fun w' hm=>?_)
   have kc:KeptC (fun _ _=>True) _ w':=fun g cs t fz _ e=>hm.cells g cs t fz e
   have e0:=(HZE.out.k6.keptC kc trivial).at_ 0 _ rfl
   exact ⟨.int .i64 5,(by simp [results,Tryz.results35,go_sem,e0]),rfl,HZE.out.bb.trans hm.below⟩
  ·have hne1:((m:Int) == (l2:Int) + 1)=true:=by rw [beq_iff_eq]; have:=hm1 hip; have:=HM.out; omega
   have hlt:i < p0:=by omega
   clear hx hm hm1 hm2 hip
   go_wp2
   exact ⟨⟨i + 1,by omega,by go_num,S.out⟩,by simp [intOf]; omega⟩

end Go.Proofs.YthhkmihjnnfpgaaGreatDoor

/- A row of steps of which one kind is changed. -/
namespace Go.Proofs.YthhkmihjnnfpgaaGreatDoor
set_option linter.all false
open Go.RowKit

def setK (us:List (Nat × Nat × Nat)) (e kk:Nat):List (Nat × Nat × Nat):=us.modify e (fun x=>(kk,x.2))
theorem setK_len (us:List (Nat × Nat × Nat)) (e kk:Nat):(setK us e kk).length=us.length:=by unfold setK; rw [List.length_modify]
theorem row_setK {W:World} {d:Nat} {us:List (Nat × Nat × Nat)} {r:List Value} {T:TypeId} (h:Blk W d (us.flatMap stC ++ r).toArray T) (e kk:Nat) (he:e < us.length) (c:Nat) :
  SAt stI 3 (W.setCell ⟨d,e * 3,none⟩ (.int .i64 (kk:Nat))) (.slice (some ⟨d,0,none⟩) us.length c) (castS (setK us e kk)):=by
 have len:(castS (setK us e kk)).length=us.length:=by rw [castS_len,setK_len]
 have get:∀ (i j:Nat) (t:Nat × Nat × Nat) (v:Value),us[i]?=some t→(stC t)[j]?=some v→W.cell? ⟨d,i * 3 + j,none⟩=some v:=fun i j t v h1 h2=>by
  have h3:=flat_get stC_len us i j t v h1 h2
  exact h.atL _ _ (by rw [List.getElem?_append_left (List.getElem?_eq_some_iff.1 h3).1]; exact h3)
 have hlt:(W.setCell ⟨d,e * 3,none⟩ (.int .i64 (kk:Nat))).heap.size=W.heap.size:=by simp
 have old:=get e 0 us[e] _ (List.getElem?_eq_getElem he) rfl
 rw [Nat.add_zero] at old
 refine ⟨some ⟨d,0,none⟩,c,by rw [len],fun i t ht=>⟨d,0,rfl,by rw [hlt]; exact h.lt,fun j v hv=>?_⟩⟩
 rw [Nat.zero_add]
 unfold castS setK at ht
 rw [List.getElem?_map,List.getElem?_modify] at ht
 cases hx:us[i]? with
 | none=>rw [hx] at ht; cases ht
 | some y =>
  rw [hx] at ht
  have hj:j < 3:=(List.getElem?_eq_some_iff.1 hv).1
  by_cases hi:e=i
  ·subst hi
   have ht2:some ((((kk,y.2):Nat × Nat × Nat).1:Int),(y.2.1:Int),(y.2.2:Int))=some t:=by
    rw [← ht]
    simp
   injection ht2 with ht2
   subst ht2
   by_cases hj0:j=0
   ·subst hj0
    rw [Nat.add_zero,World.cell?_setCell_same _ _ _ old]
    exact hv
   ·rw [World.cell?_setCell_other _ _ _ _ (by intro h; simp only [Addr.mk.injEq] at h; omega)]
    refine get e j y v hx ?_
    rcases (show j=1 ∨ j=2 by omega) with rfl | rfl <;> exact hv
  ·have ht2:some ((y.1:Int),(y.2.1:Int),(y.2.2:Int))=some t:=by
    rw [← ht]
    simp [hi]
   injection ht2 with ht2
   subst ht2
   rw [World.cell?_setCell_other _ _ _ _ (by intro h; simp only [Addr.mk.injEq] at h; omega)]
   exact get i j y v hx hv

end Go.Proofs.YthhkmihjnnfpgaaGreatDoor
