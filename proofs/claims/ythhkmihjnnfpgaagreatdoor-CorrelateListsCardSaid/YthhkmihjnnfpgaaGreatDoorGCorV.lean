/- Correlate: Verify. -/
import Derived.Test.YthhkmihjnnfpgaaGreatDoorPar6
import Derived.Test.YthhkmihjnnfpgaaGreatDoorDilA
import Derived.Test.YthhkmihjnnfpgaaGreatDoorGCorS
import Derived.Test.YthhkmihjnnfpgaaGreatDoorGCorE
import Derived.Test.YthhkmihjnnfpgaaGreatDoorGCorTa
/- The first part of a drawn region by an invariant, the rest in order; rows of slices; appends of one element that lies anywhere. -/
namespace Go.Proofs.YthhkmihjnnfpgaaGreatDoor
set_option linter.all false
open Go.RowKit

section
variable {P:Program} {ops:Array Oper} {Q:Exit→Act→World→Prop}
theorem wpIn_phaseJ {F:Fence} (hF:Fair F) {n id:Nat} {a:Act} {V:World} (f k:Nat) (slots:List Nat) (J:(Nat→Prop)→(Nat→Value)→World→Prop)
  (hc:(noDefer ops && P.follows .mixedOrders && closedO ops f k && backward ops && guardsLow ops k && decide (k≤ops.size) && seqO ops k)=true)
  (hb:backward (takeO ops k)=true) (hp:plainOps (takeO ops k) slots=true) (hin:(slots.all fun s=>decide (s < a.tmps.size))=true)
  (hL:¬ LetsOut Q) (h0:J (fun _=>False) (slotOf a) V.drew)
  (hstep:AllOps (fun i o=>∀ L a' w',OnlyAt slots a a'→J L (slotOf a') w'→¬ L i→Waited L o.after.toList →
   ∀ K':Act→World→Prop,Hid (∀ v w'',J (fun k=>L k ∨ k=i) (updS (slotOf a') o.dst v) w''→K' (a'.put o.dst v) w'')→Wants (takeO ops k) (slotOf a') o (Oper.wp P o a' w' K' (tailQ F n P ops Q k)) (J (fun k=>L k ∨ k=i) (updS (slotOf a') o.dst undef) w')) 0 (takeO ops k).toList)
  (hend:∀ L σ W,J L σ W→(∀ i,i < k→L i)→wpListIn F n P ops Q (ops.toList.drop k) (putAll a slots (slots.map σ)) W):(Code.region id ops true).wpIn F n P Q a V:=by
 simp only [Bool.and_eq_true] at hc
 obtain ⟨⟨⟨⟨⟨⟨c2,c3⟩,c4⟩,c5⟩,c6⟩,c7⟩,c8⟩:=hc
 have hk:=of_decide_eq_true c7
 have h:=wpAny_par2 (Q:=tailQ F n P ops Q k) slots J hb hp hin h0 hstep (fun L σ W hJ hl=>hend L σ W hJ (fun i hi=>hl i (by rw [takeO_size hk]; exact hi)))
 rw [takeO_size hk] at h
 refine wpIn_region_any c3 ?_
 have h2:=anyIn_phase (Q:=Q) (Q':=tailQ F n P ops Q k) hF (n:=n) c2 c4 c5 hk c6 (fun _ _ _ hh=>hh) (fun ⟨a,w,hh⟩=>hL ⟨a,w,hh⟩)
  (fun a w hh=>anyIn_seq (ops.size - k) k a w (by omega) (fun d hd=>by
   have:=List.all_eq_true.1 c8 d (List.mem_range.2 hd)
   exact eq_of_beq this) hh)
  k (Array.replicate k false) (Array.replicate ops.size false) a V.drew ⟨by simp,by simp,fun j hj=>by simp [hj,show j < ops.size by omega],fun j hj hj2=>by simp [hj2]⟩
  (fun i hi=>by
   rw [Array.getD_eq_getD_getElem?,Array.getElem?_replicate] at hi
   split at hi <;> cases hi) (by simp) h
 rw [show k + (ops.size - k)=ops.size by omega] at h2
 exact h2
end

section
variable {α:Type} {f:α→List Value} {sz:Nat} {T:TypeId}
theorem SRow.of_own {W:World} {base:Nat} {v:Value} {us:List α} (h:W.ownsRow base T sz v us.length (us.flatMap f)) (hne:us ≠ []):SRow f sz T W base v us:=by
 have hpos:0 < us.length:=List.length_pos_iff.2 hne
 rcases h.2 with ⟨_,hn0⟩ | ⟨g,cap,cur,rfl,hg,hh,hle,hc,hcs,ht⟩
 ·omega
 ·have hcur:cur=(us.flatMap f ++ cur.toList.drop (us.length * sz)).toArray:=by
   have e1:cur.toList=us.flatMap f ++ cur.toList.drop (us.length * sz):=by
    conv=>lhs; rw [← List.take_append_drop (us.length * sz) cur.toList]
    rw [ht]
   rw [← e1]
  refine .inr ⟨g,cap,cur.toList.drop (us.length * sz),rfl,hg,hne,?_,⟨h.1,?_,hle,hc⟩⟩
  ·rw [← hcur]
   exact hh
  ·have:=congrArg Array.size hcur
   simp only [List.size_toArray] at this
   rw [← this,hcs]
theorem SRow.owns {W:World} {base:Nat} {v:Value} {us:List α} (h:SRow f sz T W base v us):W.ownsRow base T sz v us.length (us.flatMap f):=by
 rcases h with ⟨rfl,rfl⟩ | ⟨d,c,r,rfl,h2,h3,h4,h5⟩
 ·exact ⟨by simp,.inl ⟨rfl,rfl⟩⟩
 ·obtain ⟨a1,a2,a3,a4⟩:=h5
  refine ⟨a1,.inr ⟨d,c,_,rfl,h2,h4,a3,a4,?_,?_⟩⟩
  ·simpa using a2
  ·rw [← a1,List.take_left]
theorem app_row3 {P:Program} {t:TypeId} {bytes:Nat} (E:StrElem P t T sz bytes) (hf:∀ u,(f u).length=sz) (hone:∀ u,∀ x ∈ f u,x.oneCell'=true) {ops:Array Oper} {rest:List Oper} {o:Oper} {a:Act} {Q:Exit→Act→World→Prop} (hgd:o.guard=none) (s x:Operand) (ho:o.op=.call { callee:=.builtin .append,args:=#[s,x],argTypes:=#[t,t] })
  (W:World) (base:Nat) (hbase:base≤W.heap.size) (v:Value) (us:List α) (row:SRow f sz T W base v us) (hs:a.eval s=v) (hlen:us.length≤5000) (u:α) (h':Nat) (hx:a.eval x=.slice (some ⟨h',0,none⟩) 1 1) (hcell:∀ j y,(f u)[j]?=some y→W.cell? ⟨h',j,none⟩=some y)
  (h:∀ v' w',SRow f sz T w' base v' (us ++ [u])→Below base W w'→KeptC (fun g _=>v.ownBlock ≠ some g) W w'→KeepsFrom 0 W w'→wpList P ops Q rest (a.put o.dst v') w') :
  wpList P ops Q (o :: rest) a W:=by
 obtain ⟨i0,z0,hi,hz0,hz1,hz2,hz3⟩:=StrElem.parts E
 have hsm:=E.small
 have snoc:(us ++ [u]).flatMap f=us.flatMap f ++ f u:=by simp
 have hbytes:(us.length + 1) * bytes≤140737488355328:=by
  have:(us.length + 1) * bytes≤5001 * 1000:=Nat.mul_le_mul (by omega) hsm
  omega
 have hob:∀ k,v.ownBlock=some k→base≤k∧k < W.heap.size∧∃ cs,Blk W k cs T:=fun k hk=>row.own k hk
 refine wpList_append_own_at _ hgd s x t ho base T i0 z0 sz bytes E.ht hi hz0 hz2 hz3 hz1 E.pos v us.length (us.flatMap f) hs row.owns ⟨h',0,none⟩ 1 1 (f u) hx (by rw [hf,Nat.one_mul]) (fun j y hj=>by rw [Addr.add_lit,Nat.zero_add]; exact hcell j y hj) (hone u) (by simp only [maxLen]; omega) hbytes hbase ?_
 intro v' w' h2 h3 _ h5
 have same:∀ (k:Nat) (o:Obj),v.ownBlock ≠ some k→W.heap[k]?=some o→w'.heap[k]?=some o:=fun k o hk e=>(h3.block k (Array.getElem?_eq_some_iff.1 e).1 (fun h=>hk h.symm)).trans e
 refine h v' w' (SRow.of_own (by rw [snoc,List.length_append]; exact h2) (by simp)) ((Below.refl base W).grown h3 hbase (fun k hk=>(hob k hk).1)) (fun k cs t fz hk e=>same k _ hk e) ⟨h3.size,fun k o _ e ho=>same k o (fun e2=>by
  obtain ⟨_,_,cs,hb⟩:=hob k e2
  rw [show W.heap[k]?=_ from hb] at e
  injection e with e
  subst e
  cases ho) e⟩
theorem app_op {P:Program} {t:TypeId} {bytes:Nat} (E:StrElem P t T sz bytes) (hf:∀ u,(f u).length=sz) (hone:∀ u,∀ x ∈ f u,x.oneCell'=true) {o:Oper} {a:Act} {Q:Exit→Act→World→Prop} {K:Act→World→Prop} (s x:Operand) (ho:o.op=.call { callee:=.builtin .append,args:=#[s,x],argTypes:=#[t,t] })
  (W:World) (base:Nat) (hbase:base≤W.heap.size) (v:Value) (us:List α) (row:SRow f sz T W base v us) (hs:a.eval s=v) (hlen:us.length≤5000) (u:α) (h':Nat) (hx:a.eval x=.slice (some ⟨h',0,none⟩) 1 1) (hcell:∀ j y,(f u)[j]?=some y→W.cell? ⟨h',j,none⟩=some y)
  (h:∀ v' w',SRow f sz T w' base v' (us ++ [u])→Below base W w'→KeptC (fun g _=>v.ownBlock ≠ some g) W w'→KeepsFrom 0 W w'→K (a.put o.dst v') w') :
  Oper.wp P o a W K Q:=by
 obtain ⟨i0,z0,hi,hz0,hz1,hz2,hz3⟩:=StrElem.parts E
 have hsm:=E.small
 have snoc:(us ++ [u]).flatMap f=us.flatMap f ++ f u:=by simp
 have hbytes:(us.length + 1) * bytes≤140737488355328:=by
  have:(us.length + 1) * bytes≤5001 * 1000:=Nat.mul_le_mul (by omega) hsm
  omega
 have hob:∀ k,v.ownBlock=some k→base≤k∧k < W.heap.size∧∃ cs,Blk W k cs T:=fun k hk=>row.own k hk
 obtain ⟨v',w',hr,h2,h3,_,_⟩:=run_append_own_at (P:=P) W base t o.type T i0 z0 sz bytes E.ht hi hz0 hz2 hz3 hz1 E.pos v us.length (us.flatMap f) row.owns ⟨h',0,none⟩ 1 1 (f u) (by rw [hf,Nat.one_mul]) (fun j y hj=>by rw [Addr.add_lit,Nat.zero_add]; exact hcell j y hj) (hone u) (by simp only [maxLen]; omega) hbytes hbase
 have same:∀ (k:Nat) (o:Obj),v.ownBlock ≠ some k→W.heap[k]?=some o→w'.heap[k]?=some o:=fun k o hk e=>(h3.block k (Array.getElem?_eq_some_iff.1 e).1 (fun h=>hk h.symm)).trans e
 unfold Oper.wp execOp
 simp only [ho,resolve,invoke,builtin,Sem.run_bind,Sem.run_pure,Result.andThen_ok,List.map_toArray,List.map_cons,List.map_nil,hs,hx,hr]
 exact h v' w' (SRow.of_own (by rw [snoc,List.length_append]; exact h2) (by simp)) ((Below.refl base W).grown h3 hbase (fun k hk=>(hob k hk).1)) (fun k cs t fz hk e=>same k _ hk e) ⟨h3.size,fun k o _ e ho=>same k o (fun e2=>by
  obtain ⟨_,_,cs,hb⟩:=hob k e2
  rw [show W.heap[k]?=_ from hb] at e
  injection e with e
  subst e
  cases ho) e⟩
end
def rwC (x:Nat × Nat):List Value:=[.slice (some ⟨x.1,0,none⟩) x.2 x.2]

end Go.Proofs.YthhkmihjnnfpgaaGreatDoor

/- slices.Clone of the rows of a table, of steps. -/
namespace Go.Proofs.YthhkmihjnnfpgaaGreatDoor
set_option linter.all false
open Go.RowKit

attribute [local go_sem] Oper.semAt_some

set_option maxRecDepth 100000 in
set_option maxHeartbeats 8000000 in
theorem cloneS_any (v:Value) (us:List (Nat × Nat × Nat)) (w:World) (base:Nat) (hr:SRow stC 3 56 w base v us) (hl:us.length≤5000) :
  Calls Tryz.prog 68 #[v] w fun e w'=>(∃ v',e=.returned v'∧SRow stC 3 56 w' w.heap.size v' us)∧Below w.heap.size w w':=by
 rcases hr with ⟨rfl,rfl⟩ | ⟨d,c,r,rfl,h2,h3,h4,h5⟩
 ·have q:∀ w,(binOp .eql 34 (.slice none 0 0) (.slice none 0 0)).run Tryz.prog w=.ok (.bool true) w:=fun w=>Lib.run_eql_slice_nil w _ _ none 0 0 0 0 ElT.ht
  go_enter Tryz.func68, Tryz.ntmps68
  go_wp2
  go_ret
  exact ⟨⟨_,rfl,SRow.nil _ _⟩,Below.refl _ _⟩
 ·have q:∀ w,(binOp .eql 34 (.slice (some ⟨d,0,none⟩) us.length c) (.slice none 0 0)).run Tryz.prog w=.ok (.bool false) w:=fun w=>Lib.run_eql_slice_nil w _ _ (some ⟨d,0,none⟩) us.length c 0 0 ElT.ht
  obtain ⟨i0,z0,hi,hz0,hz1,hz2,hz3⟩:=StrElem.parts ElT
  have hlen:=flat_len stC_len us
  have hone:∀ u ∈ us.flatMap stC,u.oneCell'=true:=fun u hu=>by
   obtain ⟨x,_,hx⟩:=List.mem_flatMap.1 hu
   exact stC_one x u hx
  have H4:=Lib.hid h4
  have H3:=Lib.hid h3
  have HL:=Lib.hid hlen
  have HO:=Lib.hid hone
  clear h4 h5 hlen hone h3
  go_enter Tryz.func68, Tryz.ntmps68
  go_wp2_with (at_builtin; go_loud (refine wpList_append_own_at _ rfl (.tmp 5) (.tmp 6) 34 rfl w.heap.size 56 i0 z0 3 24 ElT.ht hi hz0 hz2 hz3 hz1 (by decide) (.slice (some ⟨w.heap.size,0,none⟩) 0 0) 0 [] rfl (World.ownsRow_made w #[] 0 (Nat.le_refl _) (Nat.zero_le _) rfl) ⟨d,0,none⟩ us.length c (us.flatMap stC) rfl ?qc1 ?qc2 ?qc3 ?qc4 ?qc5 ?qc6 ?_))
  case qc1=>exact HL.out
  case qc2 =>
   intro j u hj
   rw [Addr.add_lit]
   refine Lib.cell?_alloc_some _ ?_
   rw [Nat.zero_add]
   exact H4.out.atL j u (by rw [List.getElem?_append_left (List.getElem?_eq_some_iff.1 hj).1]; exact hj)
  case qc3=>exact HO.out
  case qc4=>unfold maxLen; omega
  case qc5=>omega
  case qc6=>simp
  intro v' w1 hown hgrow hnil hblk
  have hT:SRow stC 3 56 w1 w.heap.size v' us:=SRow.of_own (by simpa using hown) H3.out
  have hB:Below w.heap.size w w1:=((Below.refl _ w).alloc (Nat.le_refl _) _).grown hgrow (by simp) (by intro k hk; simp [Value.ownBlock] at hk; omega)
  have HT:=Lib.hid hT
  have HB:=Lib.hid hB
  clear hown hgrow hnil hblk hT hB
  go_wp2
  go_ret
  exact ⟨⟨_,rfl,HT.out⟩,HB.out⟩

end Go.Proofs.YthhkmihjnnfpgaaGreatDoor

/- Verify's verdict. -/
namespace Go.Proofs.YthhkmihjnnfpgaaGreatDoor
set_option linter.all false
open Go.RowKit

attribute [local go_sem] Oper.semAt_some

structure StV (w0:World) (bq ba bp b6 ob N:Nat) (q:CQ) (sl sr v:Value) (T:ByteArray) (ds:List Deferred) (W:World):Prop where
 bb:Below w0.heap.size w0 W
 kq:Blk W bq #[sl,sr,.string (qT (2 * q.ch)),.string (qT (2 * q.mi)),.string (qT (2 * q.ga)),.string (qT (2 * q.re))] 32
 ka:Blk W ba #[v,.string T] 36
 kp:Blk W bp #[.slice (some ⟨ob,0,none⟩) N N] 44
 k6:Blk W b6 #[.int .i64 0] 37
 mrk:Marks w0.heap.size W ds
 s1:w0.heap.size≤bq∧bq < ba∧ba < bp∧bp < b6
section
variable {w0 W W':World} {bq ba bp b6 ob N:Nat} {q:CQ} {sl sr v:Value} {T:ByteArray} {ds:List Deferred}
theorem StV.below (h:StV w0 bq ba bp b6 ob N q sl sr v T ds W) (k:Below W.heap.size W W'):StV w0 bq ba bp b6 ob N q sl sr v T ds W' :=
 ⟨h.bb.trans (k.mono h.bb.size),h.kq.below k,h.ka.below k,h.kp.below k,h.k6.below k,h.mrk.kept (keepsFrom_below k),h.s1⟩
structure StE (w0:World) (b6:Nat) (z:Int) (ds:List Deferred) (W:World):Prop where
 bb:Below w0.heap.size w0 W
 k6:Blk W b6 #[.int .i64 z] 37
 mrk:Marks w0.heap.size W ds
theorem StV.own {β:Type} {B:Nat} {WB:World} (hB:WB.heap.size=B) (hw:w0.heap.size≤B) (hm:Marks w0.heap.size WB ds):OwnFrom B (fun (_:β) V=>StV w0 bq ba bp b6 ob N q sl sr v T ds V∧KeepsLow B WB V):=fun s V V' row h hg hr=>by
 have hk:=KeepsLow.own (β:=β) B WB s V V' row h.2 hg hr
 have hb:=ownFrom_bb (β:=β) hw s V V' row ⟨h.1.bb.size,h.1.bb⟩ hg hr
 have hc:=ownFrom_cells (I:=fun (_:Unit) X=>Blk X bq #[sl,sr,.string (qT (2 * q.ch)),.string (qT (2 * q.mi)),.string (qT (2 * q.ga)),.string (qT (2 * q.re))] 32 ∧ Blk X ba #[v,.string T] 36 ∧ Blk X bp #[.slice (some ⟨ob,0,none⟩) N N] 44 ∧ Blk X b6 #[.int .i64 0] 37)
  (fun _ X X' h k _=>⟨h.1.keptC k trivial,h.2.1.keptC k trivial,h.2.2.1.keptC k trivial,h.2.2.2.keptC k trivial⟩) B () V V' row ⟨h.1.kq,h.1.ka,h.1.kp,h.1.k6⟩ hg hr
 exact ⟨⟨hb.2,hc.1,hc.2.1,hc.2.2.1,hc.2.2.2,Marks.low (Nat.le_of_eq hB) hk hm,h.1.s1⟩,hk⟩
theorem StE.own {β:Type} {B:Nat} {WB:World} {z:Int} (hB:WB.heap.size=B) (hw:w0.heap.size≤B) (hm:Marks w0.heap.size WB ds):OwnFrom B (fun (_:β) V=>StE w0 b6 z ds V∧KeepsLow B WB V):=fun s V V' row h hg hr=>by
 have hk:=KeepsLow.own (β:=β) B WB s V V' row h.2 hg hr
 have hb:=ownFrom_bb (β:=β) hw s V V' row ⟨h.1.bb.size,h.1.bb⟩ hg hr
 have hc:=ownFrom_cells (I:=fun (_:Unit) X=>Blk X b6 #[.int .i64 z] 37) (fun _ X X' h k _=>h.keptC k trivial) B () V V' row h.1.k6 hg hr
 exact ⟨⟨hb.2,hc,Marks.low (Nat.le_of_eq hB) hk hm⟩,hk⟩
end
structure V12 (W:World) (us:List (Nat × Nat)) (T:ByteArray) (L:Nat→Prop) (σ:Nat→Value) (U:World):Prop where
 bb:Below W.heap.size W U
 c:L 1→¬ L 6→SRow rwC 1 71 U W.heap.size (σ 53) us
 e:L 4→∃ h,σ 56=.slice (some ⟨h,0,none⟩) 1 1∧W.heap.size≤h∧Blk U h #[.string T] 28
 f:L 5→¬ L 6→∃ h,σ 57=.slice (some ⟨h,0,none⟩) 1 1∧Blk U h #[σ 56] 71
 g:L 6→∃ h,σ 56=.slice (some ⟨h,0,none⟩) 1 1∧SRow rwC 1 71 U W.heap.size (σ 58) (us ++ [(h,1)])
 d:(L 5→L 4)∧(L 6→L 1∧L 5)
theorem eval_slot (a:Act) (s:Nat):a.eval (.tmp s)=slotOf a s:=by
 show a.tmps.getD s undef=_
 rw [Array.getD_eq_getD_getElem?]
 rfl
theorem upd_at (σ:Nat→Value) (s:Nat) (v:Value):updS σ (some s) v s=v:=by unfold updS; exact if_pos rfl
theorem upd_ne (σ:Nat→Value) (s x:Nat) (v:Value) (h:x ≠ s):updS σ (some s) v x=σ x:=by unfold updS; exact if_neg h
section
variable {W U U':World} {us:List (Nat × Nat)} {T:ByteArray} {L:Nat→Prop} {σ:Nat→Value}
theorem V12.pure (h:V12 W us T L σ U) (k s:Nat) (v:Value) (hk:k ≠ 1∧k ≠ 4∧k ≠ 5∧k ≠ 6) (hs:s ≠ 53∧s ≠ 56∧s ≠ 57∧s ≠ 58):V12 W us T (fun j=>L j ∨ j=k) (updS σ (some s) v) U:=by
 have e53:=upd_ne σ s 53 v (Ne.symm hs.1)
 have e56:=upd_ne σ s 56 v (Ne.symm hs.2.1)
 have e57:=upd_ne σ s 57 v (Ne.symm hs.2.2.1)
 have e58:=upd_ne σ s 58 v (Ne.symm hs.2.2.2)
 have l:∀ m,m ≠ k→((L m ∨ m=k)→L m):=fun m hm x=>x.resolve_right hm
 refine ⟨h.bb,?_,?_,?_,?_,fun x=>.inl (h.d.1 (l 5 (Ne.symm hk.2.2.1) x)),fun x=>⟨.inl (h.d.2 (l 6 (Ne.symm hk.2.2.2) x)).1,.inl (h.d.2 (l 6 (Ne.symm hk.2.2.2) x)).2⟩⟩
 ·rw [e53]; exact fun x y=>h.c (l 1 (Ne.symm hk.1) x) (fun z=>y (.inl z))
 ·rw [e56]; exact fun x=>h.e (l 4 (Ne.symm hk.2.1) x)
 ·rw [e57,e56]; exact fun x y=>h.f (l 5 (Ne.symm hk.2.2.1) x) (fun z=>y (.inl z))
 ·rw [e56,e58]; exact fun x=>h.g (l 6 (Ne.symm hk.2.2.2) x)
theorem V12.below (h:V12 W us T L σ U) (b:Below U.heap.size U U'):V12 W us T L σ U':=by
 refine ⟨h.bb.trans (b.mono h.bb.size),fun x y=>(h.c x y).below b,fun x=>?_,fun x y=>?_,fun x=>?_,h.d⟩
 ·obtain ⟨g,a1,a2,a3⟩:=h.e x
  exact ⟨g,a1,a2,a3.below b⟩
 ·obtain ⟨g,a1,a3⟩:=h.f x y
  exact ⟨g,a1,a3.below b⟩
 ·obtain ⟨g,a1,a3⟩:=h.g x
  exact ⟨g,a1,a3.below b⟩
theorem V12.mkC (h:V12 W us T L σ U) (hn:¬ L 1) {v:Value} (b:Below U.heap.size U U') (hr:SRow rwC 1 71 U' U.heap.size v us):V12 W us T (fun j=>L j ∨ j=1) (updS σ (some 53) v) U':=by
 have e53:=upd_at σ 53 v
 have e56:=upd_ne σ 53 56 v (by decide)
 have e57:=upd_ne σ 53 57 v (by decide)
 have e58:=upd_ne σ 53 58 v (by decide)
 have k:=h.below b
 have n6:¬ L 6:=fun x=>hn (h.d.2 x).1
 refine ⟨k.bb,fun _ _=>?_,?_,?_,fun x=>absurd (x.resolve_right (by decide)) n6,fun x=>.inl (h.d.1 (x.resolve_right (by decide))),fun x=>absurd (x.resolve_right (by decide)) n6⟩
 ·rw [e53]
  rcases hr with r | ⟨d,c,r,a1,a2,a3⟩
  ·exact .inl r
  ·exact .inr ⟨d,c,r,a1,Nat.le_trans h.bb.size a2,a3⟩
 ·rw [e56]; exact fun x=>k.e (x.resolve_right (by decide))
 ·rw [e57,e56]; exact fun x _=>k.f (x.resolve_right (by decide)) n6
theorem V12.mkE (h:V12 W us T L σ U) (hn:¬ L 4):V12 W us T (fun j=>L j ∨ j=4) (updS σ (some 56) (.slice (some ⟨U.heap.size,0,none⟩) 1 1)) (U.alloc (.cells #[.string T] 28)):=by
 have b:=below_new U (.cells #[.string T] 28)
 have e53:=upd_ne σ 56 53 (.slice (some ⟨U.heap.size,0,none⟩) 1 1) (by decide)
 have e56:=upd_at σ 56 (.slice (some ⟨U.heap.size,0,none⟩) 1 1)
 have k:=h.below b
 have n5:¬ L 5:=fun x=>hn (h.d.1 x)
 have n6:¬ L 6:=fun x=>n5 (h.d.2 x).2
 refine ⟨k.bb,?_,fun _=>?_,fun x=>absurd (x.resolve_right (by decide)) n5,fun x=>absurd (x.resolve_right (by decide)) n6,fun x=>absurd (x.resolve_right (by decide)) n5,fun x=>absurd (x.resolve_right (by decide)) n6⟩
 ·rw [e53]; exact fun x _=>k.c (x.resolve_right (by decide)) n6
 ·rw [e56]; exact ⟨_,rfl,h.bb.size,Blk.fresh U _ _⟩
theorem V12.mkF (h:V12 W us T L σ U) (hn:¬ L 5) (h4:L 4):V12 W us T (fun j=>L j ∨ j=5) (updS σ (some 57) (.slice (some ⟨U.heap.size,0,none⟩) 1 1)) (U.alloc (.cells #[σ 56] 71)):=by
 have b:=below_new U (.cells #[σ 56] 71)
 have e53:=upd_ne σ 57 53 (.slice (some ⟨U.heap.size,0,none⟩) 1 1) (by decide)
 have e56:=upd_ne σ 57 56 (.slice (some ⟨U.heap.size,0,none⟩) 1 1) (by decide)
 have e57:=upd_at σ 57 (.slice (some ⟨U.heap.size,0,none⟩) 1 1)
 have k:=h.below b
 have n6:¬ L 6:=fun x=>hn (h.d.2 x).2
 refine ⟨k.bb,?_,?_,fun _ _=>?_,fun x=>absurd (x.resolve_right (by decide)) n6,fun _=>.inl h4,fun x=>absurd (x.resolve_right (by decide)) n6⟩
 ·rw [e53]; exact fun x _=>k.c (x.resolve_right (by decide)) n6
 ·rw [e56]; exact fun x=>k.e (x.resolve_right (by decide))
 ·rw [e57,e56]; exact ⟨_,rfl,Blk.fresh U _ _⟩
end

end Go.Proofs.YthhkmihjnnfpgaaGreatDoor
