/- Correlate: Verify. -/
import Derived.Test.YthhkmihjnnfpgaaGreatDoorPar6
import Derived.Test.YthhkmihjnnfpgaaGreatDoorDilA
import Derived.Test.YthhkmihjnnfpgaaGreatDoorGCorS
import Derived.Test.YthhkmihjnnfpgaaGreatDoorGCorE
import Derived.Test.YthhkmihjnnfpgaaGreatDoorGCorTa
/- The first part of a drawn region by an invariant, the rest in order; rows of slices; appends of one element that lies anywhere. -/
namespace Go.Proofs.YthhkmihjnnfpgaaGreatDoor
set_option linter.all false
open Go.RowKit

section
variable {P:Program} {ops:Array Oper} {Q:Exit→Act→World→Prop}
theorem wpIn_phaseJ {F:Fence} (hF:Fair F) {n id:Nat} {a:Act} {V:World} (f k:Nat) (slots:List Nat) (J:(Nat→Prop)→(Nat→Value)→World→Prop)
  (hc:(noDefer ops && P.follows .mixedOrders && closedO ops f k && backward ops && guardsLow ops k && decide (k≤ops.size) && seqO ops k)=true)
  (hb:backward (takeO ops k)=true) (hp:plainOps (takeO ops k) slots=true) (hin:(slots.all fun s=>decide (s < a.tmps.size))=true)
  (hL:¬ LetsOut Q) (h0:J (fun _=>False) (slotOf a) V.drew)
  (hstep:AllOps (fun i o=>∀ L a' w',OnlyAt slots a a'→J L (slotOf a') w'→¬ L i→Waited L o.after.toList →
   ∀ K':Act→World→Prop,Hid (∀ v w'',J (fun k=>L k ∨ k=i) (updS (slotOf a') o.dst v) w''→K' (a'.put o.dst v) w'')→Wants (takeO ops k) (slotOf a') o (Oper.wp P o a' w' K' (tailQ F n P ops Q k)) (J (fun k=>L k ∨ k=i) (updS (slotOf a') o.dst undef) w')) 0 (takeO ops k).toList)
  (hend:∀ L σ W,J L σ W→(∀ i,i < k→L i)→wpListIn F n P ops Q (ops.toList.drop k) (putAll a slots (slots.map σ)) W):(Code.region id ops true).wpIn F n P Q a V:=by
 simp only [Bool.and_eq_true] at hc
 obtain ⟨⟨⟨⟨⟨⟨c2,c3⟩,c4⟩,c5⟩,c6⟩,c7⟩,c8⟩:=hc
 have hk:=of_decide_eq_true c7
 have h:=wpAny_par2 (Q:=tailQ F n P ops Q k) slots J hb hp hin h0 hstep (fun L σ W hJ hl=>hend L σ W hJ (fun i hi=>hl i (by rw [takeO_size hk]; exact hi)))
 rw [takeO_size hk] at h
 refine wpIn_region_any c3 ?_
 have h2:=anyIn_phase (Q:=Q) (Q':=tailQ F n P ops Q k) hF (n:=n) c2 c4 c5 hk c6 (fun _ _ _ hh=>hh) (fun ⟨a,w,hh⟩=>hL ⟨a,w,hh⟩)
  (fun a w hh=>anyIn_seq (ops.size - k) k a w (by omega) (fun d hd=>by
   have:=List.all_eq_true.1 c8 d (List.mem_range.2 hd)
   exact eq_of_beq this) hh)
  k (Array.replicate k false) (Array.replicate ops.size false) a V.drew ⟨by simp,by simp,fun j hj=>by simp [hj,show j < ops.size by omega],fun j hj hj2=>by simp [hj2]⟩
  (fun i hi=>by
   rw [Array.getD_eq_getD_getElem?,Array.getElem?_replicate] at hi
   split at hi <;> cases hi) (by simp) h
 rw [show k + (ops.size - k)=ops.size by omega] at h2
 exact h2
end

section
variable {α:Type} {f:α→List Value} {sz:Nat} {T:TypeId}
theorem SRow.of_own {W:World} {base:Nat} {v:Value} {us:List α} (h:W.ownsRow base T sz v us.length (us.flatMap f)) (hne:us ≠ []):SRow f sz T W base v us:=by
 have hpos:0 < us.length:=List.length_pos_iff.2 hne
 rcases h.2 with ⟨_,hn0⟩ | ⟨g,cap,cur,rfl,hg,hh,hle,hc,hcs,ht⟩
 ·omega
 ·have hcur:cur=(us.flatMap f ++ cur.toList.drop (us.length * sz)).toArray:=by
   have e1:cur.toList=us.flatMap f ++ cur.toList.drop (us.length * sz):=by
    conv=>lhs; rw [← List.take_append_drop (us.length * sz) cur.toList]
    rw [ht]
   rw [← e1]
  refine .inr ⟨g,cap,cur.toList.drop (us.length * sz),rfl,hg,hne,?_,⟨h.1,?_,hle,hc⟩⟩
  ·rw [← hcur]
   exact hh
  ·have:=congrArg Array.size hcur
   simp only [List.size_toArray] at this
   rw [← this,hcs]
theorem SRow.owns {W:World} {base:Nat} {v:Value} {us:List α} (h:SRow f sz T W base v us):W.ownsRow base T sz v us.length (us.flatMap f):=by
 rcases h with ⟨rfl,rfl⟩ | ⟨d,c,r,rfl,h2,h3,h4,h5⟩
 ·exact ⟨by simp,.inl ⟨rfl,rfl⟩⟩
 ·obtain ⟨a1,a2,a3,a4⟩:=h5
  refine ⟨a1,.inr ⟨d,c,_,rfl,h2,h4,a3,a4,?_,?_⟩⟩
  ·simpa using a2
  ·rw [← a1,List.take_left]
theorem app_row3 {P:Program} {t:TypeId} {bytes:Nat} (E:StrElem P t T sz bytes) (hf:∀ u,(f u).length=sz) (hone:∀ u,∀ x ∈ f u,x.oneCell'=true) {ops:Array Oper} {rest:List Oper} {o:Oper} {a:Act} {Q:Exit→Act→World→Prop} (hgd:o.guard=none) (s x:Operand) (ho:o.op=.call { callee:=.builtin .append,args:=#[s,x],argTypes:=#[t,t] })
  (W:World) (base:Nat) (hbase:base≤W.heap.size) (v:Value) (us:List α) (row:SRow f sz T W base v us) (hs:a.eval s=v) (hlen:us.length≤5000) (u:α) (h':Nat) (hx:a.eval x=.slice (some ⟨h',0,none⟩) 1 1) (hcell:∀ j y,(f u)[j]?=some y→W.cell? ⟨h',j,none⟩=some y)
  (h:∀ v' w',SRow f sz T w' base v' (us ++ [u])→Below base W w'→KeptC (fun g _=>v.ownBlock ≠ some g) W w'→KeepsFrom 0 W w'→wpList P ops Q rest (a.put o.dst v') w') :
  wpList P ops Q (o :: rest) a W:=by
 obtain ⟨i0,z0,hi,hz0,hz1,hz2,hz3⟩:=StrElem.parts E
 have hsm:=E.small
 have snoc:(us ++ [u]).flatMap f=us.flatMap f ++ f u:=by simp
 have hbytes:(us.length + 1) * bytes≤140737488355328:=by
  have:(us.length + 1) * bytes≤5001 * 1000:=Nat.mul_le_mul (by omega) hsm
  omega
 have hob:∀ k,v.ownBlock=some k→base≤k∧k < W.heap.size∧∃ cs,Blk W k cs T:=fun k hk=>row.own k hk
 refine wpList_append_own_at _ hgd s x t ho base T i0 z0 sz bytes E.ht hi hz0 hz2 hz3 hz1 E.pos v us.length (us.flatMap f) hs row.owns ⟨h',0,none⟩ 1 1 (f u) hx (by rw [hf,Nat.one_mul]) (fun j y hj=>by rw [Addr.add_lit,Nat.zero_add]; exact hcell j y hj) (hone u) (by simp only [maxLen]; omega) hbytes hbase ?_
 intro v' w' h2 h3 _ h5
 have same:∀ (k:Nat) (o:Obj),v.ownBlock ≠ some k→W.heap[k]?=some o→w'.heap[k]?=some o:=fun k o hk e=>(h3.block k (Array.getElem?_eq_some_iff.1 e).1 (fun h=>hk h.symm)).trans e
 refine h v' w' (SRow.of_own (by rw [snoc,List.length_append]; exact h2) (by simp)) ((Below.refl base W).grown h3 hbase (fun k hk=>(hob k hk).1)) (fun k cs t fz hk e=>same k _ hk e) ⟨h3.size,fun k o _ e ho=>same k o (fun e2=>by
  obtain ⟨_,_,cs,hb⟩:=hob k e2
  rw [show W.heap[k]?=_ from hb] at e
  injection e with e
  subst e
  cases ho) e⟩
theorem app_op {P:Program} {t:TypeId} {bytes:Nat} (E:StrElem P t T sz bytes) (hf:∀ u,(f u).length=sz) (hone:∀ u,∀ x ∈ f u,x.oneCell'=true) {o:Oper} {a:Act} {Q:Exit→Act→World→Prop} {K:Act→World→Prop} (s x:Operand) (ho:o.op=.call { callee:=.builtin .append,args:=#[s,x],argTypes:=#[t,t] })
  (W:World) (base:Nat) (hbase:base≤W.heap.size) (v:Value) (us:List α) (row:SRow f sz T W base v us) (hs:a.eval s=v) (hlen:us.length≤5000) (u:α) (h':Nat) (hx:a.eval x=.slice (some ⟨h',0,none⟩) 1 1) (hcell:∀ j y,(f u)[j]?=some y→W.cell? ⟨h',j,none⟩=some y)
  (h:∀ v' w',SRow f sz T w' base v' (us ++ [u])→Below base W w'→KeptC (fun g _=>v.ownBlock ≠ some g) W w'→KeepsFrom 0 W w'→K (a.put o.dst v') w') :
  Oper.wp P o a W K Q:=by
 obtain ⟨i0,z0,hi,hz0,hz1,hz2,hz3⟩:=StrElem.parts E
 have hsm:=E.small
 have snoc:(us ++ [u]).flatMap f=us.flatMap f ++ f u:=by simp
 have hbytes:(us.length + 1) * bytes≤140737488355328:=by
  have:(us.length + 1) * bytes≤5001 * 1000:=Nat.mul_le_mul (by omega) hsm
  omega
 have hob:∀ k,v.ownBlock=some k→base≤k∧k < W.heap.size∧∃ cs,Blk W k cs T:=fun k hk=>row.own k hk
 obtain ⟨v',w',hr,h2,h3,_,_⟩:=run_append_own_at (P:=P) W base t o.type T i0 z0 sz bytes E.ht hi hz0 hz2 hz3 hz1 E.pos v us.length (us.flatMap f) row.owns ⟨h',0,none⟩ 1 1 (f u) (by rw [hf,Nat.one_mul]) (fun j y hj=>by rw [Addr.add_lit,Nat.zero_add]; exact hcell j y hj) (hone u) (by simp only [maxLen]; omega) hbytes hbase
 have same:∀ (k:Nat) (o:Obj),v.ownBlock ≠ some k→W.heap[k]?=some o→w'.heap[k]?=some o:=fun k o hk e=>(h3.block k (Array.getElem?_eq_some_iff.1 e).1 (fun h=>hk h.symm)).trans e
 unfold Oper.wp execOp
 simp only [ho,resolve,invoke,builtin,Sem.run_bind,Sem.run_pure,Result.andThen_ok,List.map_toArray,List.map_cons,List.map_nil,hs,hx,hr]
 exact h v' w' (SRow.of_own (by rw [snoc,List.length_append]; exact h2) (by simp)) ((Below.refl base W).grown h3 hbase (fun k hk=>(hob k hk).1)) (fun k cs t fz hk e=>same k _ hk e) ⟨h3.size,fun k o _ e ho=>same k o (fun e2=>by
  obtain ⟨_,_,cs,hb⟩:=hob k e2
  rw [show W.heap[k]?=_ from hb] at e
  injection e with e
  subst e
  cases ho) e⟩
end

end Go.Proofs.YthhkmihjnnfpgaaGreatDoor

/- slices.Clone of the rows of a table, of steps. -/
namespace Go.Proofs.YthhkmihjnnfpgaaGreatDoor
set_option linter.all false
open Go.RowKit

attribute [local go_sem] Oper.semAt_some

set_option maxRecDepth 100000 in
set_option maxHeartbeats 8000000 in
theorem cloneS_any (v:Value) (us:List (Nat × Nat × Nat)) (w:World) (base:Nat) (hr:SRow stC 3 56 w base v us) (hl:us.length≤5000) :
  Calls Tryz.prog 68 #[v] w fun e w'=>(∃ v',e=.returned v'∧SRow stC 3 56 w' w.heap.size v' us)∧Below w.heap.size w w':=by
 rcases hr with ⟨rfl,rfl⟩ | ⟨d,c,r,rfl,h2,h3,h4,h5⟩
 ·have q:∀ w,(binOp .eql 34 (.slice none 0 0) (.slice none 0 0)).run Tryz.prog w=.ok (.bool true) w:=fun w=>Lib.run_eql_slice_nil w _ _ none 0 0 0 0 ElT.ht
  go_enter Tryz.func68, Tryz.ntmps68
  go_wp2
  go_ret
  exact ⟨⟨_,rfl,SRow.nil _ _⟩,Below.refl _ _⟩
 ·have q:∀ w,(binOp .eql 34 (.slice (some ⟨d,0,none⟩) us.length c) (.slice none 0 0)).run Tryz.prog w=.ok (.bool false) w:=fun w=>Lib.run_eql_slice_nil w _ _ (some ⟨d,0,none⟩) us.length c 0 0 ElT.ht
  obtain ⟨i0,z0,hi,hz0,hz1,hz2,hz3⟩:=StrElem.parts ElT
  have hlen:=flat_len stC_len us
  have hone:∀ u ∈ us.flatMap stC,u.oneCell'=true:=fun u hu=>by
   obtain ⟨x,_,hx⟩:=List.mem_flatMap.1 hu
   exact stC_one x u hx
  have H4:=Lib.hid h4
  have H3:=Lib.hid h3
  have HL:=Lib.hid hlen
  have HO:=Lib.hid hone
  clear h4 h5 hlen hone h3
  go_enter Tryz.func68, Tryz.ntmps68
  go_wp2_with (at_builtin; go_loud (refine wpList_append_own_at _ rfl (.tmp 5) (.tmp 6) 34 rfl w.heap.size 56 i0 z0 3 24 ElT.ht hi hz0 hz2 hz3 hz1 (by decide) (.slice (some ⟨w.heap.size,0,none⟩) 0 0) 0 [] rfl (World.ownsRow_made w #[] 0 (Nat.le_refl _) (Nat.zero_le _) rfl) ⟨d,0,none⟩ us.length c (us.flatMap stC) rfl ?qc1 ?qc2 ?qc3 ?qc4 ?qc5 ?qc6 ?_))
  case qc1=>exact HL.out
  case qc2 =>
   intro j u hj
   rw [Addr.add_lit]
   refine Lib.cell?_alloc_some _ ?_
   rw [Nat.zero_add]
   exact H4.out.atL j u (by rw [List.getElem?_append_left (List.getElem?_eq_some_iff.1 hj).1]; exact hj)
  case qc3=>exact HO.out
  case qc4=>unfold maxLen; omega
  case qc5=>omega
  case qc6=>simp
  intro v' w1 hown hgrow hnil hblk
  have hT:SRow stC 3 56 w1 w.heap.size v' us:=SRow.of_own (by simpa using hown) H3.out
  have hB:Below w.heap.size w w1:=((Below.refl _ w).alloc (Nat.le_refl _) _).grown hgrow (by simp) (by intro k hk; simp [Value.ownBlock] at hk; omega)
  have HT:=Lib.hid hT
  have HB:=Lib.hid hB
  clear hown hgrow hnil hblk hT hB
  go_wp2
  go_ret
  exact ⟨⟨_,rfl,HT.out⟩,HB.out⟩

end Go.Proofs.YthhkmihjnnfpgaaGreatDoor
