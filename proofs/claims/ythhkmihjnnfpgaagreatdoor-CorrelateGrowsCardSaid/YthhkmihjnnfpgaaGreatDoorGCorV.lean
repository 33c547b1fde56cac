/- Correlate: Verify. -/
import Derived.Test.YthhkmihjnnfpgaaGreatDoorGCorE
import Derived.Test.YthhkmihjnnfpgaaGreatDoorGCorTa
import Derived.Test.YthhkmihjnnfpgaaGreatDoorPar6
import Derived.Test.YthhkmihjnnfpgaaGreatDoorDilA
import Derived.Test.YthhkmihjnnfpgaaGreatDoorGCorS
import Derived.Test.YthhkmihjnnfpgaaGreatDoorGCorRa
/- Verify's plain side: what is checked of a proof. -/
namespace Go.Proofs.YthhkmihjnnfpgaaGreatDoor
set_option linter.all false
open Go.RowKit

theorem briefN {q:Rat} {n:Nat} (h:(canonR q).size≤n):Sz q n:=by
 have hsz:(canonR q).size=(ratL q.num q.den).length:=rfl
 have h2:(mdig q.num).length≤(Lib.itoa q.num).length:=by
  rcases itoa_cases q.num with ⟨_,e⟩ | ⟨_,e⟩
  ·rw [e]; exact Nat.le_refl _
  ·rw [e,List.length_cons]; omega
 have hp:0 < (mdig q.num).length:=List.length_pos_iff.2 (decDigits_ne _)
 refine ⟨dec_lt_pow q.num.natAbs n ?_,?_⟩
 ·have h3:(Lib.itoa q.num).length≤(ratL q.num q.den).length:=by
   unfold ratL
   split
   ·exact Nat.le_refl _
   ·rw [List.length_append]; omega
  have h4:(mdig q.num).length=(Lib.decDigits q.num.natAbs).length:=rfl
  omega
 ·by_cases hd:q.den=1
  ·rw [hd]; exact Nat.one_lt_pow (by
    have h3:(Lib.itoa q.num).length≤(ratL q.num q.den).length:=by
     unfold ratL
     rw [if_pos hd]
     exact Nat.le_refl _
    omega) (by omega)
  ·refine dec_lt_pow _ _ ?_
   have:(ratL q.num q.den).length=(Lib.itoa q.num).length + (1 + (Lib.decDigits q.den).length):=by
    unfold ratL
    rw [if_neg hd,List.length_append,List.length_cons]; omega
   omega
theorem right_ex {t:ByteArray} (h:rightQ t=true):∃ q:Rat,t=canonR q:=by
 obtain ⟨x,hx,_⟩:=rightQ_of h
 exact ⟨x,hx⟩
noncomputable def numT (t:ByteArray):Rat:=@dite _ (rightQ t=true) (Classical.propDecidable _) (fun h=>Classical.choose (right_ex h)) (fun _=>0)
theorem numT_eq {t:ByteArray} (h:rightQ t=true):t=canonR (numT t):=by
 unfold numT
 rw [dif_pos h]
 exact Classical.choose_spec (right_ex h)
theorem numT_q {x:Int} (h:x.natAbs < 1000000):numT (qT x)=mkRat x 4:=(canonR_inj (numT_eq (qT_right x h))).symm
theorem numT_sz {t:ByteArray} (h:rightQ t=true) {n:Nat} (hn:t.size≤n):Sz (numT t) n:=briefN (by rw [← numT_eq h]; exact hn)
noncomputable def worseT (s t:ByteArray) (c:Int):Bool:=decide (0 < cmpR (numT t) (numT s + mkRat c 4))
theorem worse_q (x y c:Int) (hx:x.natAbs < 1000000) (hy:y.natAbs < 1000000):worseT (qT x) (qT y) c=decide (x + c < y):=by
 unfold worseT
 rw [numT_q hx,numT_q hy,quarter_add,cmp_sign,decide_eq_decide,Int.sign_pos_iff]
 omega
noncomputable def sumT (s:ByteArray) (c:Int):ByteArray:=canonR (numT s + mkRat c 4)
theorem addT_any {s:ByteArray} (c:Int) (hs:rightQ s=true) (hn:s.size≤20) (hc:c.natAbs < 1000000) (w:World) (he:Env w):Ret Tryz.prog w 21 #[.string s,.string (qT c)] (.string (sumT s c)):=fun W hW=>by
 have h:=radd_any (numT s) (mkRat c 4) 20 (by omega) (by omega) (numT_sz hs hn) ((quarter_sz c hc).mono (by omega)) W (he.below hW)
 rw [← numT_eq hs] at h
 exact h
theorem cmpT_any {s t:ByteArray} (c:Int) (hs:rightQ s=true) (ht:rightQ t=true) (hn:s.size≤20) (hm:t.size≤20) (hc:c.natAbs < 1000000) (w:World) (he:Env w):∃ z:Int,decide (0 < z)=worseT s t c∧Ret Tryz.prog w 22 #[.string t,.string (sumT s c)] (.int .i64 z):=by
 refine ⟨_,rfl,fun W hW=>?_⟩
 have h1:=numT_sz hs hn
 have h2:=(quarter_sz c hc).mono (show 6≤20 by omega)
 have h:=rcompare_any (numT t) (numT s + mkRat c 4) 41 (by omega) (by omega) ((numT_sz ht hm).mono (by omega)) (h1.add h2) W (he.below hW)
 rw [← numT_eq ht] at h
 exact h

end Go.Proofs.YthhkmihjnnfpgaaGreatDoor

/- The first part of a drawn region by an invariant, the rest in order; rows of slices; appends of one element that lies anywhere. -/
namespace Go.Proofs.YthhkmihjnnfpgaaGreatDoor
set_option linter.all false
open Go.RowKit

section
variable {P:Program} {ops:Array Oper} {Q:Exit→Act→World→Prop}
theorem wpIn_phaseJ {F:Fence} (hF:Fair F) {n id:Nat} {a:Act} {V:World} (f k:Nat) (slots:List Nat) (J:(Nat→Prop)→(Nat→Value)→World→Prop)
  (hc:(noDefer ops && P.follows .mixedOrders && closedO ops f k && backward ops && guardsLow ops k && decide (k≤ops.size) && seqO ops k)=true)
  (hb:backward (takeO ops k)=true) (hp:plainOps (takeO ops k) slots=true) (hin:(slots.all fun s=>decide (s < a.tmps.size))=true)
  (hL:¬ LetsOut Q) (h0:J (fun _=>False) (slotOf a) V.drew)
  (hstep:AllOps (fun i o=>∀ L a' w',OnlyAt slots a a'→J L (slotOf a') w'→¬ L i→Waited L o.after.toList →
   ∀ K':Act→World→Prop,Hid (∀ v w'',J (fun k=>L k ∨ k=i) (updS (slotOf a') o.dst v) w''→K' (a'.put o.dst v) w'')→Wants (takeO ops k) (slotOf a') o (Oper.wp P o a' w' K' (tailQ F n P ops Q k)) (J (fun k=>L k ∨ k=i) (updS (slotOf a') o.dst undef) w')) 0 (takeO ops k).toList)
  (hend:∀ L σ W,J L σ W→(∀ i,i < k→L i)→wpListIn F n P ops Q (ops.toList.drop k) (putAll a slots (slots.map σ)) W):(Code.region id ops true).wpIn F n P Q a V:=by
 simp only [Bool.and_eq_true] at hc
 obtain ⟨⟨⟨⟨⟨⟨c2,c3⟩,c4⟩,c5⟩,c6⟩,c7⟩,c8⟩:=hc
 have hk:=of_decide_eq_true c7
 have h:=wpAny_par2 (Q:=tailQ F n P ops Q k) slots J hb hp hin h0 hstep (fun L σ W hJ hl=>hend L σ W hJ (fun i hi=>hl i (by rw [takeO_size hk]; exact hi)))
 rw [takeO_size hk] at h
 refine wpIn_region_any c3 ?_
 have h2:=anyIn_phase (Q:=Q) (Q':=tailQ F n P ops Q k) hF (n:=n) c2 c4 c5 hk c6 (fun _ _ _ hh=>hh) (fun ⟨a,w,hh⟩=>hL ⟨a,w,hh⟩)
  (fun a w hh=>anyIn_seq (ops.size - k) k a w (by omega) (fun d hd=>by
   have:=List.all_eq_true.1 c8 d (List.mem_range.2 hd)
   exact eq_of_beq this) hh)
  k (Array.replicate k false) (Array.replicate ops.size false) a V.drew ⟨by simp,by simp,fun j hj=>by simp [hj,show j < ops.size by omega],fun j hj hj2=>by simp [hj2]⟩
  (fun i hi=>by
   rw [Array.getD_eq_getD_getElem?,Array.getElem?_replicate] at hi
   split at hi <;> cases hi) (by simp) h
 rw [show k + (ops.size - k)=ops.size by omega] at h2
 exact h2
end

section
variable {α:Type} {f:α→List Value} {sz:Nat} {T:TypeId}
theorem SRow.of_own {W:World} {base:Nat} {v:Value} {us:List α} (h:W.ownsRow base T sz v us.length (us.flatMap f)) (hne:us ≠ []):SRow f sz T W base v us:=by
 have hpos:0 < us.length:=List.length_pos_iff.2 hne
 rcases h.2 with ⟨_,hn0⟩ | ⟨g,cap,cur,rfl,hg,hh,hle,hc,hcs,ht⟩
 ·omega
 ·have hcur:cur=(us.flatMap f ++ cur.toList.drop (us.length * sz)).toArray:=by
   have e1:cur.toList=us.flatMap f ++ cur.toList.drop (us.length * sz):=by
    conv=>lhs; rw [← List.take_append_drop (us.length * sz) cur.toList]
    rw [ht]
   rw [← e1]
  refine .inr ⟨g,cap,cur.toList.drop (us.length * sz),rfl,hg,hne,?_,⟨h.1,?_,hle,hc⟩⟩
  ·rw [← hcur]
   exact hh
  ·have:=congrArg Array.size hcur
   simp only [List.size_toArray] at this
   rw [← this,hcs]
theorem SRow.owns {W:World} {base:Nat} {v:Value} {us:List α} (h:SRow f sz T W base v us):W.ownsRow base T sz v us.length (us.flatMap f):=by
 rcases h with ⟨rfl,rfl⟩ | ⟨d,c,r,rfl,h2,h3,h4,h5⟩
 ·exact ⟨by simp,.inl ⟨rfl,rfl⟩⟩
 ·obtain ⟨a1,a2,a3,a4⟩:=h5
  refine ⟨a1,.inr ⟨d,c,_,rfl,h2,h4,a3,a4,?_,?_⟩⟩
  ·simpa using a2
  ·rw [← a1,List.take_left]
theorem app_row3 {P:Program} {t:TypeId} {bytes:Nat} (E:StrElem P t T sz bytes) (hf:∀ u,(f u).length=sz) (hone:∀ u,∀ x ∈ f u,x.oneCell'=true) {ops:Array Oper} {rest:List Oper} {o:Oper} {a:Act} {Q:Exit→Act→World→Prop} (hgd:o.guard=none) (s x:Operand) (ho:o.op=.call { callee:=.builtin .append,args:=#[s,x],argTypes:=#[t,t] })
  (W:World) (base:Nat) (hbase:base≤W.heap.size) (v:Value) (us:List α) (row:SRow f sz T W base v us) (hs:a.eval s=v) (hlen:us.length≤5000) (u:α) (h':Nat) (hx:a.eval x=.slice (some ⟨h',0,none⟩) 1 1) (hcell:∀ j y,(f u)[j]?=some y→W.cell? ⟨h',j,none⟩=some y)
  (h:∀ v' w',SRow f sz T w' base v' (us ++ [u])→Below base W w'→KeptC (fun g _=>v.ownBlock ≠ some g) W w'→KeepsFrom 0 W w'→wpList P ops Q rest (a.put o.dst v') w') :
  wpList P ops Q (o :: rest) a W:=by
 obtain ⟨i0,z0,hi,hz0,hz1,hz2,hz3⟩:=StrElem.parts E
 have hsm:=E.small
 have snoc:(us ++ [u]).flatMap f=us.flatMap f ++ f u:=by simp
 have hbytes:(us.length + 1) * bytes≤140737488355328:=by
  have:(us.length + 1) * bytes≤5001 * 1000:=Nat.mul_le_mul (by omega) hsm
  omega
 have hob:∀ k,v.ownBlock=some k→base≤k∧k < W.heap.size∧∃ cs,Blk W k cs T:=fun k hk=>row.own k hk
 refine wpList_append_own_at _ hgd s x t ho base T i0 z0 sz bytes E.ht hi hz0 hz2 hz3 hz1 E.pos v us.length (us.flatMap f) hs row.owns ⟨h',0,none⟩ 1 1 (f u) hx (by rw [hf,Nat.one_mul]) (fun j y hj=>by rw [Addr.add_lit,Nat.zero_add]; exact hcell j y hj) (hone u) (by simp only [maxLen]; omega) hbytes hbase ?_
 intro v' w' h2 h3 _ h5
 have same:∀ (k:Nat) (o:Obj),v.ownBlock ≠ some k→W.heap[k]?=some o→w'.heap[k]?=some o:=fun k o hk e=>(h3.block k (Array.getElem?_eq_some_iff.1 e).1 (fun h=>hk h.symm)).trans e
 refine h v' w' (SRow.of_own (by rw [snoc,List.length_append]; exact h2) (by simp)) ((Below.refl base W).grown h3 hbase (fun k hk=>(hob k hk).1)) (fun k cs t fz hk e=>same k _ hk e) ⟨h3.size,fun k o _ e ho=>same k o (fun e2=>by
  obtain ⟨_,_,cs,hb⟩:=hob k e2
  rw [show W.heap[k]?=_ from hb] at e
  injection e with e
  subst e
  cases ho) e⟩
theorem app_op {P:Program} {t:TypeId} {bytes:Nat} (E:StrElem P t T sz bytes) (hf:∀ u,(f u).length=sz) (hone:∀ u,∀ x ∈ f u,x.oneCell'=true) {o:Oper} {a:Act} {Q:Exit→Act→World→Prop} {K:Act→World→Prop} (s x:Operand) (ho:o.op=.call { callee:=.builtin .append,args:=#[s,x],argTypes:=#[t,t] })
  (W:World) (base:Nat) (hbase:base≤W.heap.size) (v:Value) (us:List α) (row:SRow f sz T W base v us) (hs:a.eval s=v) (hlen:us.length≤5000) (u:α) (h':Nat) (hx:a.eval x=.slice (some ⟨h',0,none⟩) 1 1) (hcell:∀ j y,(f u)[j]?=some y→W.cell? ⟨h',j,none⟩=some y)
  (h:∀ v' w',SRow f sz T w' base v' (us ++ [u])→Below base W w'→KeptC (fun g _=>v.ownBlock ≠ some g) W w'→KeepsFrom 0 W w'→K (a.put o.dst v') w') :
  Oper.wp P o a W K Q:=by
 obtain ⟨i0,z0,hi,hz0,hz1,hz2,hz3⟩:=StrElem.parts E
 have hsm:=E.small
 have snoc:(us ++ [u]).flatMap f=us.flatMap f ++ f u:=by simp
 have hbytes:(us.length + 1) * bytes≤140737488355328:=by
  have:(us.length + 1) * bytes≤5001 * 1000:=Nat.mul_le_mul (by omega) hsm
  omega
 have hob:∀ k,v.ownBlock=some k→base≤k∧k < W.heap.size∧∃ cs,Blk W k cs T:=fun k hk=>row.own k hk
 obtain ⟨v',w',hr,h2,h3,_,_⟩:=run_append_own_at (P:=P) W base t o.type T i0 z0 sz bytes E.ht hi hz0 hz2 hz3 hz1 E.pos v us.length (us.flatMap f) row.owns ⟨h',0,none⟩ 1 1 (f u) (by rw [hf,Nat.one_mul]) (fun j y hj=>by rw [Addr.add_lit,Nat.zero_add]; exact hcell j y hj) (hone u) (by simp only [maxLen]; omega) hbytes hbase
 have same:∀ (k:Nat) (o:Obj),v.ownBlock ≠ some k→W.heap[k]?=some o→w'.heap[k]?=some o:=fun k o hk e=>(h3.block k (Array.getElem?_eq_some_iff.1 e).1 (fun h=>hk h.symm)).trans e
 unfold Oper.wp execOp
 simp only [ho,resolve,invoke,builtin,Sem.run_bind,Sem.run_pure,Result.andThen_ok,List.map_toArray,List.map_cons,List.map_nil,hs,hx,hr]
 exact h v' w' (SRow.of_own (by rw [snoc,List.length_append]; exact h2) (by simp)) ((Below.refl base W).grown h3 hbase (fun k hk=>(hob k hk).1)) (fun k cs t fz hk e=>same k _ hk e) ⟨h3.size,fun k o _ e ho=>same k o (fun e2=>by
  obtain ⟨_,_,cs,hb⟩:=hob k e2
  rw [show W.heap[k]?=_ from hb] at e
  injection e with e
  subst e
  cases ho) e⟩
end
def rwC (x:Nat × Nat):List Value:=[.slice (some ⟨x.1,0,none⟩) x.2 x.2]
theorem rwC_len (x:Nat × Nat):(rwC x).length=1:=rfl
theorem rwC_one (x:Nat × Nat):∀ u ∈ rwC x,u.oneCell'=true:=by
 intro u hu
 unfold rwC at hu
 simp only [List.mem_cons,List.not_mem_nil,or_false] at hu
 subst hu
 rfl
theorem ElR:StrElem Tryz.prog 44 71 1 24:=⟨Tryz.underlying44, by kernel_rfl,by omega,by omega⟩

end Go.Proofs.YthhkmihjnnfpgaaGreatDoor

/- slices.Clone of the rows of a table, of steps. -/
namespace Go.Proofs.YthhkmihjnnfpgaaGreatDoor
set_option linter.all false
open Go.RowKit

attribute [local go_sem] Oper.semAt_some

set_option maxRecDepth 100000 in
set_option maxHeartbeats 8000000 in
theorem cloneR_any (v:Value) (us:List (Nat × Nat)) (w:World) (base:Nat) (hr:SRow rwC 1 71 w base v us) (hl:us.length≤5000) :
  Calls Tryz.prog 71 #[v] w fun e w'=>(∃ v',e=.returned v'∧SRow rwC 1 71 w' w.heap.size v' us)∧Below w.heap.size w w':=by
 rcases hr with ⟨rfl,rfl⟩ | ⟨d,c,r,rfl,h2,h3,h4,h5⟩
 ·have q:∀ w,(binOp .eql 44 (.slice none 0 0) (.slice none 0 0)).run Tryz.prog w=.ok (.bool true) w:=fun w=>Lib.run_eql_slice_nil w _ _ none 0 0 0 0 ElR.ht
  go_enter Tryz.func71, Tryz.ntmps71
  go_wp2
  go_ret
  exact ⟨⟨_,rfl,SRow.nil _ _⟩,Below.refl _ _⟩
 ·have q:∀ w,(binOp .eql 44 (.slice (some ⟨d,0,none⟩) us.length c) (.slice none 0 0)).run Tryz.prog w=.ok (.bool false) w:=fun w=>Lib.run_eql_slice_nil w _ _ (some ⟨d,0,none⟩) us.length c 0 0 ElR.ht
  obtain ⟨i0,z0,hi,hz0,hz1,hz2,hz3⟩:=StrElem.parts ElR
  have hlen:=flat_len rwC_len us
  have hone:∀ u ∈ us.flatMap rwC,u.oneCell'=true:=fun u hu=>by
   obtain ⟨x,_,hx⟩:=List.mem_flatMap.1 hu
   exact rwC_one x u hx
  have H4:=Lib.hid h4
  have H3:=Lib.hid h3
  have HL:=Lib.hid hlen
  have HO:=Lib.hid hone
  clear h4 h5 hlen hone h3
  go_enter Tryz.func71, Tryz.ntmps71
  go_wp2_with (at_builtin; go_loud (refine wpList_append_own_at _ rfl (.tmp 5) (.tmp 6) 44 rfl w.heap.size 71 i0 z0 1 24 ElR.ht hi hz0 hz2 hz3 hz1 (by decide) (.slice (some ⟨w.heap.size,0,none⟩) 0 0) 0 [] rfl (World.ownsRow_made w #[] 0 (Nat.le_refl _) (Nat.zero_le _) rfl) ⟨d,0,none⟩ us.length c (us.flatMap rwC) rfl ?qc1 ?qc2 ?qc3 ?qc4 ?qc5 ?qc6 ?_))
  case qc1=>exact HL.out
  case qc2 =>
   intro j u hj
   rw [Addr.add_lit]
   refine Lib.cell?_alloc_some _ ?_
   rw [Nat.zero_add]
   exact H4.out.atL j u (by rw [List.getElem?_append_left (List.getElem?_eq_some_iff.1 hj).1]; exact hj)
  case qc3=>exact HO.out
  case qc4=>unfold maxLen; omega
  case qc5=>omega
  case qc6=>simp
  intro v' w1 hown hgrow hnil hblk
  have hT:SRow rwC 1 71 w1 w.heap.size v' us:=SRow.of_own (by simpa using hown) H3.out
  have hB:Below w.heap.size w w1:=((Below.refl _ w).alloc (Nat.le_refl _) _).grown hgrow (by simp) (by intro k hk; simp [Value.ownBlock] at hk; omega)
  have HT:=Lib.hid hT
  have HB:=Lib.hid hB
  clear hown hgrow hnil hblk hT hB
  go_wp2
  go_ret
  exact ⟨⟨_,rfl,HT.out⟩,HB.out⟩
set_option maxRecDepth 100000 in
set_option maxHeartbeats 8000000 in
theorem cloneS_any (v:Value) (us:List (Nat × Nat × Nat)) (w:World) (base:Nat) (hr:SRow stC 3 56 w base v us) (hl:us.length≤5000) :
  Calls Tryz.prog 68 #[v] w fun e w'=>(∃ v',e=.returned v'∧SRow stC 3 56 w' w.heap.size v' us)∧Below w.heap.size w w':=by
 rcases hr with ⟨rfl,rfl⟩ | ⟨d,c,r,rfl,h2,h3,h4,h5⟩
 ·have q:∀ w,(binOp .eql 34 (.slice none 0 0) (.slice none 0 0)).run Tryz.prog w=.ok (.bool true) w:=fun w=>Lib.run_eql_slice_nil w _ _ none 0 0 0 0 ElT.ht
  go_enter Tryz.func68, Tryz.ntmps68
  go_wp2
  go_ret
  exact ⟨⟨_,rfl,SRow.nil _ _⟩,Below.refl _ _⟩
 ·have q:∀ w,(binOp .eql 34 (.slice (some ⟨d,0,none⟩) us.length c) (.slice none 0 0)).run Tryz.prog w=.ok (.bool false) w:=fun w=>Lib.run_eql_slice_nil w _ _ (some ⟨d,0,none⟩) us.length c 0 0 ElT.ht
  obtain ⟨i0,z0,hi,hz0,hz1,hz2,hz3⟩:=StrElem.parts ElT
  have hlen:=flat_len stC_len us
  have hone:∀ u ∈ us.flatMap stC,u.oneCell'=true:=fun u hu=>by
   obtain ⟨x,_,hx⟩:=List.mem_flatMap.1 hu
   exact stC_one x u hx
  have H4:=Lib.hid h4
  have H3:=Lib.hid h3
  have HL:=Lib.hid hlen
  have HO:=Lib.hid hone
  clear h4 h5 hlen hone h3
  go_enter Tryz.func68, Tryz.ntmps68
  go_wp2_with (at_builtin; go_loud (refine wpList_append_own_at _ rfl (.tmp 5) (.tmp 6) 34 rfl w.heap.size 56 i0 z0 3 24 ElT.ht hi hz0 hz2 hz3 hz1 (by decide) (.slice (some ⟨w.heap.size,0,none⟩) 0 0) 0 [] rfl (World.ownsRow_made w #[] 0 (Nat.le_refl _) (Nat.zero_le _) rfl) ⟨d,0,none⟩ us.length c (us.flatMap stC) rfl ?qc1 ?qc2 ?qc3 ?qc4 ?qc5 ?qc6 ?_))
  case qc1=>exact HL.out
  case qc2 =>
   intro j u hj
   rw [Addr.add_lit]
   refine Lib.cell?_alloc_some _ ?_
   rw [Nat.zero_add]
   exact H4.out.atL j u (by rw [List.getElem?_append_left (List.getElem?_eq_some_iff.1 hj).1]; exact hj)
  case qc3=>exact HO.out
  case qc4=>unfold maxLen; omega
  case qc5=>omega
  case qc6=>simp
  intro v' w1 hown hgrow hnil hblk
  have hT:SRow stC 3 56 w1 w.heap.size v' us:=SRow.of_own (by simpa using hown) H3.out
  have hB:Below w.heap.size w w1:=((Below.refl _ w).alloc (Nat.le_refl _) _).grown hgrow (by simp) (by intro k hk; simp [Value.ownBlock] at hk; omega)
  have HT:=Lib.hid hT
  have HB:=Lib.hid hB
  clear hown hgrow hnil hblk hT hB
  go_wp2
  go_ret
  exact ⟨⟨_,rfl,HT.out⟩,HB.out⟩

end Go.Proofs.YthhkmihjnnfpgaaGreatDoor

/- Verify's verdict. -/
namespace Go.Proofs.YthhkmihjnnfpgaaGreatDoor
set_option linter.all false
open Go.RowKit

attribute [local go_sem] Oper.semAt_some

def badN (q:CQ) (c:Nat→Nat→ByteArray):Prop:=∃ i j,i≤q.L.length∧j≤q.R.length∧rightQ (c i j)=false
def badP (q:CQ) (c:Nat→Nat→ByteArray):Prop:=∃ i j k,i≤q.L.length∧j≤q.R.length∧k ∈ kinds∧okS q k i j∧worseT (c i j) (c (nxI k i) (nxJ k j)) (cst q k i j)=true
def PrfS (q:CQ) (T:ByteArray) (c:Nat→Nat→ByteArray) (b:Prop) (z:Int):Prop :=
 ((badN q c ∨ rightQ T=false)∧z=2) ∨ (¬ (badN q c ∨ rightQ T=false)∧(c 0 0 ≠ ⟨#[48]⟩ ∨ b ∨ c q.L.length q.R.length ≠ T ∨ badP q c)∧z=23) ∨ (¬ (badN q c ∨ rightQ T=false)∧¬ (c 0 0 ≠ ⟨#[48]⟩ ∨ b ∨ c q.L.length q.R.length ≠ T ∨ badP q c)∧z=0)
theorem PrfS.uni {q:CQ} {T:ByteArray} {c:Nat→Nat→ByteArray} {b:Prop} {z y:Int} (h:PrfS q T c b z) (k:PrfS q T c b y):z=y:=by
 rcases h with ⟨h1,h2⟩ | ⟨h1,h3,h2⟩ | ⟨h1,h3,h2⟩ <;> rcases k with ⟨k1,k2⟩ | ⟨k1,k3,k2⟩ | ⟨k1,k3,k2⟩ <;> first | (exact absurd h1 k1) | (exact absurd k1 h1) | (exact absurd h3 k3) | (exact absurd k3 h3) | (rw [h2,k2])
def VerS (q:CQ) (r:Int × Int) (T:ByteArray) (c:Nat→Nat→ByteArray) (z:Int):Prop:=(r.1 ≠ 0∧z=r.1) ∨ (r.1=0∧PrfS q T c (T ≠ qT r.2) z)
theorem upS_mem (q:CQ) (i j k:Nat) (hk:k ∈ kinds) (ho:okS q k i j):∃ x ∈ upS q i j 5,x.k=k:=by
 have h1:=of_kinds hk
 refine ⟨⟨k,h1,ho⟩,?_,rfl⟩
 unfold upS
 rw [List.mem_filterMap]
 exact ⟨k,by rw [show kinds.take 5=kinds from rfl]; exact hk,dif_pos ⟨h1,ho⟩⟩
theorem tab_srow {W:World} {ob N:Nat} {rb:List Nat} {M:Nat} {c:Nat→Nat→ByteArray} (h:TabT W ob rb M c 71 28) (hN:rb.length=N) (h0:0 < N) (h1:N≤1000) {us:List (Nat × Nat)} (hus:rb.map (fun g=>(g,M))=us) :
  SRow rwC 1 71 W 0 (.slice (some ⟨ob,0,none⟩) N N) us:=by
 have hl:us.length=N:=by rw [← hus,List.length_map,hN]
 have hne:us ≠ []:=fun e=>by rw [e] at hl; simp at hl; omega
 have e:us.flatMap rwC=rb.map (fun g=>Value.slice (some ⟨g,0,none⟩) M M):=by
  rw [← hus]
  clear hus hl hne hN h
  induction rb with
  | nil=>rfl
  | cons g rb ih=>rw [List.map_cons,List.flatMap_cons,ih]; rfl
 refine .inr ⟨ob,N,[],by rw [hl],Nat.zero_le _,hne,?_,?_⟩
 ·rw [e,List.append_nil]
  exact h.out
 ·refine ⟨by rw [e,List.length_map,hl,hN,Nat.mul_one],by rw [e,List.append_nil,List.length_map,hN,Nat.mul_one],by rw [hl]; exact Nat.le_refl _,by unfold maxLen; omega⟩
structure StV (w0:World) (bq ba bp b6 ob N:Nat) (q:CQ) (sl sr v:Value) (T:ByteArray) (ds:List Deferred) (W:World):Prop where
 bb:Below w0.heap.size w0 W
 kq:Blk W bq #[sl,sr,.string (qT (2 * q.ch)),.string (qT (2 * q.mi)),.string (qT (2 * q.ga)),.string (qT (2 * q.re))] 32
 ka:Blk W ba #[v,.string T] 36
 kp:Blk W bp #[.slice (some ⟨ob,0,none⟩) N N] 44
 k6:Blk W b6 #[.int .i64 0] 37
 mrk:Marks w0.heap.size W ds
 s1:w0.heap.size≤bq∧bq < ba∧ba < bp∧bp < b6
section
variable {w0 W W':World} {bq ba bp b6 ob N:Nat} {q:CQ} {sl sr v:Value} {T:ByteArray} {ds:List Deferred}
theorem StV.below (h:StV w0 bq ba bp b6 ob N q sl sr v T ds W) (k:Below W.heap.size W W'):StV w0 bq ba bp b6 ob N q sl sr v T ds W' :=
 ⟨h.bb.trans (k.mono h.bb.size),h.kq.below k,h.ka.below k,h.kp.below k,h.k6.below k,h.mrk.kept (keepsFrom_below k),h.s1⟩
theorem StV.marks {ds':List Deferred} (h:StV w0 bq ba bp b6 ob N q sl sr v T ds W) (m:Marks w0.heap.size W ds'):StV w0 bq ba bp b6 ob N q sl sr v T ds' W:=⟨h.bb,h.kq,h.ka,h.kp,h.k6,m,h.s1⟩
structure StE (w0:World) (b6:Nat) (z:Int) (ds:List Deferred) (W:World):Prop where
 bb:Below w0.heap.size w0 W
 k6:Blk W b6 #[.int .i64 z] 37
 mrk:Marks w0.heap.size W ds
theorem StV.lay (h:StV w0 bq ba bp b6 ob N q sl sr v T ds W) (z:Int):StE w0 b6 z ds (W.setCell ⟨b6,0,none⟩ (.int .i64 z)):=by
 have w1:=Wrote.set h.k6 0 (.int .i64 z)
 have h1:=h.s1
 exact ⟨h.bb.trans (w1.below.mono (by omega)),h.k6.set 0 (.int .i64 z),h.mrk.kept (KeepsFrom.mono w1.keeps (Nat.zero_le _))⟩
theorem StV.own {β:Type} {B:Nat} {WB:World} (hB:WB.heap.size=B) (hw:w0.heap.size≤B) (hm:Marks w0.heap.size WB ds):OwnFrom B (fun (_:β) V=>StV w0 bq ba bp b6 ob N q sl sr v T ds V∧KeepsLow B WB V):=fun s V V' row h hg hr=>by
 have hk:=KeepsLow.own (β:=β) B WB s V V' row h.2 hg hr
 have hb:=ownFrom_bb (β:=β) hw s V V' row ⟨h.1.bb.size,h.1.bb⟩ hg hr
 have hc:=ownFrom_cells (I:=fun (_:Unit) X=>Blk X bq #[sl,sr,.string (qT (2 * q.ch)),.string (qT (2 * q.mi)),.string (qT (2 * q.ga)),.string (qT (2 * q.re))] 32 ∧ Blk X ba #[v,.string T] 36 ∧ Blk X bp #[.slice (some ⟨ob,0,none⟩) N N] 44 ∧ Blk X b6 #[.int .i64 0] 37)
  (fun _ X X' h k _=>⟨h.1.keptC k trivial,h.2.1.keptC k trivial,h.2.2.1.keptC k trivial,h.2.2.2.keptC k trivial⟩) B () V V' row ⟨h.1.kq,h.1.ka,h.1.kp,h.1.k6⟩ hg hr
 exact ⟨⟨hb.2,hc.1,hc.2.1,hc.2.2.1,hc.2.2.2,Marks.low (Nat.le_of_eq hB) hk hm,h.1.s1⟩,hk⟩
theorem StE.own {β:Type} {B:Nat} {WB:World} {z:Int} (hB:WB.heap.size=B) (hw:w0.heap.size≤B) (hm:Marks w0.heap.size WB ds):OwnFrom B (fun (_:β) V=>StE w0 b6 z ds V∧KeepsLow B WB V):=fun s V V' row h hg hr=>by
 have hk:=KeepsLow.own (β:=β) B WB s V V' row h.2 hg hr
 have hb:=ownFrom_bb (β:=β) hw s V V' row ⟨h.1.bb.size,h.1.bb⟩ hg hr
 have hc:=ownFrom_cells (I:=fun (_:Unit) X=>Blk X b6 #[.int .i64 z] 37) (fun _ X X' h k _=>h.keptC k trivial) B () V V' row h.1.k6 hg hr
 exact ⟨⟨hb.2,hc,Marks.low (Nat.le_of_eq hB) hk hm⟩,hk⟩
end
structure V12 (W:World) (us:List (Nat × Nat)) (T:ByteArray) (L:Nat→Prop) (σ:Nat→Value) (U:World):Prop where
 bb:Below W.heap.size W U
 c:L 1→¬ L 6→SRow rwC 1 71 U W.heap.size (σ 53) us
 e:L 4→∃ h,σ 56=.slice (some ⟨h,0,none⟩) 1 1∧W.heap.size≤h∧Blk U h #[.string T] 28
 f:L 5→¬ L 6→∃ h,σ 57=.slice (some ⟨h,0,none⟩) 1 1∧Blk U h #[σ 56] 71
 g:L 6→∃ h,σ 56=.slice (some ⟨h,0,none⟩) 1 1∧SRow rwC 1 71 U W.heap.size (σ 58) (us ++ [(h,1)])
 d:(L 5→L 4)∧(L 6→L 1∧L 5)
theorem eval_slot (a:Act) (s:Nat):a.eval (.tmp s)=slotOf a s:=by
 show a.tmps.getD s undef=_
 rw [Array.getD_eq_getD_getElem?]
 rfl
theorem upd_at (σ:Nat→Value) (s:Nat) (v:Value):updS σ (some s) v s=v:=by unfold updS; exact if_pos rfl
theorem upd_ne (σ:Nat→Value) (s x:Nat) (v:Value) (h:x ≠ s):updS σ (some s) v x=σ x:=by unfold updS; exact if_neg h
section
variable {W U U':World} {us:List (Nat × Nat)} {T:ByteArray} {L:Nat→Prop} {σ:Nat→Value}
theorem V12.pure (h:V12 W us T L σ U) (k s:Nat) (v:Value) (hk:k ≠ 1∧k ≠ 4∧k ≠ 5∧k ≠ 6) (hs:s ≠ 53∧s ≠ 56∧s ≠ 57∧s ≠ 58):V12 W us T (fun j=>L j ∨ j=k) (updS σ (some s) v) U:=by
 have e53:=upd_ne σ s 53 v (Ne.symm hs.1)
 have e56:=upd_ne σ s 56 v (Ne.symm hs.2.1)
 have e57:=upd_ne σ s 57 v (Ne.symm hs.2.2.1)
 have e58:=upd_ne σ s 58 v (Ne.symm hs.2.2.2)
 have l:∀ m,m ≠ k→((L m ∨ m=k)→L m):=fun m hm x=>x.resolve_right hm
 refine ⟨h.bb,?_,?_,?_,?_,fun x=>.inl (h.d.1 (l 5 (Ne.symm hk.2.2.1) x)),fun x=>⟨.inl (h.d.2 (l 6 (Ne.symm hk.2.2.2) x)).1,.inl (h.d.2 (l 6 (Ne.symm hk.2.2.2) x)).2⟩⟩
 ·rw [e53]; exact fun x y=>h.c (l 1 (Ne.symm hk.1) x) (fun z=>y (.inl z))
 ·rw [e56]; exact fun x=>h.e (l 4 (Ne.symm hk.2.1) x)
 ·rw [e57,e56]; exact fun x y=>h.f (l 5 (Ne.symm hk.2.2.1) x) (fun z=>y (.inl z))
 ·rw [e56,e58]; exact fun x=>h.g (l 6 (Ne.symm hk.2.2.2) x)
theorem V12.below (h:V12 W us T L σ U) (b:Below U.heap.size U U'):V12 W us T L σ U':=by
 refine ⟨h.bb.trans (b.mono h.bb.size),fun x y=>(h.c x y).below b,fun x=>?_,fun x y=>?_,fun x=>?_,h.d⟩
 ·obtain ⟨g,a1,a2,a3⟩:=h.e x
  exact ⟨g,a1,a2,a3.below b⟩
 ·obtain ⟨g,a1,a3⟩:=h.f x y
  exact ⟨g,a1,a3.below b⟩
 ·obtain ⟨g,a1,a3⟩:=h.g x
  exact ⟨g,a1,a3.below b⟩
theorem V12.mkC (h:V12 W us T L σ U) (hn:¬ L 1) {v:Value} (b:Below U.heap.size U U') (hr:SRow rwC 1 71 U' U.heap.size v us):V12 W us T (fun j=>L j ∨ j=1) (updS σ (some 53) v) U':=by
 have e53:=upd_at σ 53 v
 have e56:=upd_ne σ 53 56 v (by decide)
 have e57:=upd_ne σ 53 57 v (by decide)
 have e58:=upd_ne σ 53 58 v (by decide)
 have k:=h.below b
 have n6:¬ L 6:=fun x=>hn (h.d.2 x).1
 refine ⟨k.bb,fun _ _=>?_,?_,?_,fun x=>absurd (x.resolve_right (by decide)) n6,fun x=>.inl (h.d.1 (x.resolve_right (by decide))),fun x=>absurd (x.resolve_right (by decide)) n6⟩
 ·rw [e53]
  rcases hr with r | ⟨d,c,r,a1,a2,a3⟩
  ·exact .inl r
  ·exact .inr ⟨d,c,r,a1,Nat.le_trans h.bb.size a2,a3⟩
 ·rw [e56]; exact fun x=>k.e (x.resolve_right (by decide))
 ·rw [e57,e56]; exact fun x _=>k.f (x.resolve_right (by decide)) n6
theorem V12.mkE (h:V12 W us T L σ U) (hn:¬ L 4):V12 W us T (fun j=>L j ∨ j=4) (updS σ (some 56) (.slice (some ⟨U.heap.size,0,none⟩) 1 1)) (U.alloc (.cells #[.string T] 28)):=by
 have b:=below_new U (.cells #[.string T] 28)
 have e53:=upd_ne σ 56 53 (.slice (some ⟨U.heap.size,0,none⟩) 1 1) (by decide)
 have e56:=upd_at σ 56 (.slice (some ⟨U.heap.size,0,none⟩) 1 1)
 have k:=h.below b
 have n5:¬ L 5:=fun x=>hn (h.d.1 x)
 have n6:¬ L 6:=fun x=>n5 (h.d.2 x).2
 refine ⟨k.bb,?_,fun _=>?_,fun x=>absurd (x.resolve_right (by decide)) n5,fun x=>absurd (x.resolve_right (by decide)) n6,fun x=>absurd (x.resolve_right (by decide)) n5,fun x=>absurd (x.resolve_right (by decide)) n6⟩
 ·rw [e53]; exact fun x _=>k.c (x.resolve_right (by decide)) n6
 ·rw [e56]; exact ⟨_,rfl,h.bb.size,Blk.fresh U _ _⟩
theorem V12.mkF (h:V12 W us T L σ U) (hn:¬ L 5) (h4:L 4):V12 W us T (fun j=>L j ∨ j=5) (updS σ (some 57) (.slice (some ⟨U.heap.size,0,none⟩) 1 1)) (U.alloc (.cells #[σ 56] 71)):=by
 have b:=below_new U (.cells #[σ 56] 71)
 have e53:=upd_ne σ 57 53 (.slice (some ⟨U.heap.size,0,none⟩) 1 1) (by decide)
 have e56:=upd_ne σ 57 56 (.slice (some ⟨U.heap.size,0,none⟩) 1 1) (by decide)
 have e57:=upd_at σ 57 (.slice (some ⟨U.heap.size,0,none⟩) 1 1)
 have k:=h.below b
 have n6:¬ L 6:=fun x=>hn (h.d.2 x).2
 refine ⟨k.bb,?_,?_,fun _ _=>?_,fun x=>absurd (x.resolve_right (by decide)) n6,fun _=>.inl h4,fun x=>absurd (x.resolve_right (by decide)) n6⟩
 ·rw [e53]; exact fun x _=>k.c (x.resolve_right (by decide)) n6
 ·rw [e56]; exact fun x=>k.e (x.resolve_right (by decide))
 ·rw [e57,e56]; exact ⟨_,rfl,Blk.fresh U _ _⟩
theorem V12.mkG (h:V12 W us T L σ U) (h5:L 5) (h1:L 1) {v:Value} {g:Nat} (hg:σ 56=.slice (some ⟨g,0,none⟩) 1 1) (hn:¬ L 6) (r1:SRow rwC 1 71 U' W.heap.size v (us ++ [(g,1)])) (r2:Below W.heap.size U U') (r3:KeptC (fun x _=>(σ 53).ownBlock ≠ some x) U U'):V12 W us T (fun j=>L j ∨ j=6) (updS σ (some 58) v) U':=by
 have e53:=upd_ne σ 58 53 v (by decide)
 have e56:=upd_ne σ 58 56 v (by decide)
 have e57:=upd_ne σ 58 57 v (by decide)
 have e58:=upd_at σ 58 v
 refine ⟨h.bb.trans r2,fun _ y=>absurd (.inr rfl) y,fun x=>?_,fun _ y=>absurd (.inr rfl) y,fun _=>?_,fun x=>.inl (h.d.1 (x.resolve_right (by decide))),fun _=>⟨.inl h1,.inl h5⟩⟩
 ·rw [e56]
  obtain ⟨k,a1,a2,a3⟩:=h.e (x.resolve_right (by decide))
  refine ⟨k,a1,a2,a3.keptC r3 (fun e=>?_)⟩
  obtain ⟨_,_,cs,hb⟩:=(h.c h1 hn).own k e
  exact absurd (Blk.type_eq hb a3) (by decide)
 ·rw [e56,e58]
  exact ⟨g,hg,r1⟩
end

end Go.Proofs.YthhkmihjnnfpgaaGreatDoor

/- Verify of whatever potentials. -/
namespace Go.Proofs.YthhkmihjnnfpgaaGreatDoor
set_option linter.all false
open Go.RowKit

attribute [local go_sem] Oper.semAt_some

set_option maxRecDepth 100000 in
set_option maxHeartbeats 8000000 in
theorem verify_any (q:CQ) (ok:OkQ q) (l:List (Int × Int × Int)) (hl:l.length≤1000) (T:ByteArray) (hT:T.size≤20) (c:Nat→Nat→ByteArray) (hc:∀ i j,i≤q.L.length→j≤q.R.length→(c i j).size≤20) (ob:Nat) (rb:List Nat) (hrb:rb.length=q.L.length + 1)
  (sl sr v:Value) (w0:World) (he:Env w0) (hq:QAt w0 sl sr q) (hv:SAt stI 3 w0 v l) (ht:TabT w0 ob rb (q.R.length + 1) c 71 28) :
  Calls Tryz.prog 35 #[.agg #[sl,sr,.string (qT (2 * q.ch)),.string (qT (2 * q.mi)),.string (qT (2 * q.ga)),.string (qT (2 * q.re))],.agg #[v,.string T],.slice (some ⟨ob,0,none⟩) (q.L.length + 1) (q.L.length + 1)] w0 fun e w'=>(∃ z,e=.returned (.int .i64 z)∧VerS q (runF q 0 0 0 l) T c z)∧Below w0.heap.size w0 w':=by
 have hll:=ok.hl
 have hrr:=ok.hr
 have HQ:=Lib.hid hq
 obtain ⟨A1,n1,rfl,_⟩:=hq.l
 obtain ⟨A2,n2,rfl,_⟩:=hq.r
 have HV:=Lib.hid hv
 obtain ⟨A0,cc,rfl,_⟩:=hv
 have HE:=Lib.hid he
 have OK:=Lib.hid ok
 have TAB:=Lib.hid ht
 have HTS:=Lib.hid hT
 have HCS:=Lib.hid hc
 have HRB:=Lib.hid hrb
 have HTO:Hid (∀ W,Below w0.heap.size w0 W→Calls Tryz.prog 66 #[.agg #[.slice A1 q.L.length n1,.slice A2 q.R.length n2,.string (qT (2 * q.ch)),.string (qT (2 * q.mi)),.string (qT (2 * q.ga)),.string (qT (2 * q.re))],.slice A0 l.length cc] W fun e w'=>e=.returned (totV (runF q 0 0 0 l))∧Below W.heap.size W w'):=Lib.hid (fun W hW=>qtotal_any q ok l hl _ _ _ W (he.below hW) (hq.below hW) (HV.out.below hW))
 clear hq he ok ht hT hc hrb
 obtain ⟨rr,hrr2⟩:∃ r,runF q 0 0 0 l=r:=⟨_,rfl⟩
 rw [hrr2] at HTO ⊢
 clear hrr2 hl HV
 have hX:∃ X,totV rr=.tuple #[.string X,.int .i64 rr.1]∧(rr.1=0→X=qT rr.2):=⟨_,rfl,fun h=>if_pos h⟩
 obtain ⟨sT,hX1,hX2⟩:=hX
 rw [hX1] at HTO
 have HX2:=Lib.hid hX2
 clear hX1 hX2
 obtain ⟨er,hera⟩:∃ e,rr.1=e:=⟨_,rfl⟩
 have HER:=Lib.hid hera
 rw [hera] at HTO HX2
 clear hera
 obtain ⟨l1,hl1⟩:∃ n,q.L.length=n:=⟨_,rfl⟩
 obtain ⟨l2,hl2⟩:∃ n,q.R.length=n:=⟨_,rfl⟩
 have HL1:=Lib.hid hl1
 have HL2:=Lib.hid hl2
 obtain ⟨N,hN⟩:∃ n,l1 + 1=n:=⟨_,rfl⟩
 obtain ⟨M,hM⟩:∃ n,l2 + 1=n:=⟨_,rfl⟩
 have HN:=Lib.hid hN
 have HM:=Lib.hid hM
 rw [hl1,hl2] at HQ HTO
 rw [hl1] at hll HRB
 rw [hl2] at hrr TAB
 rw [hM] at TAB
 rw [hN] at HRB
 rw [hl1,hl2,hN]
 clear hl1 hl2 hN hM
 refine callsIn_wide (n:=9) |>.1 ?_
 refine callsIn_of_wp_marks Tryz.func35 rfl trivial ?_ rfl
 simp only [Tryz.ntmps35, List.size_toArray,List.length_cons,List.length_nil,Nat.reduceAdd,Nat.reduceSub,Array.replicate_succ,Array.replicate_zero,List.push_toArray,List.append_toArray,List.nil_append,List.cons_append]
 refine wpIn_wide.2 ?_
 go_upto_region 1 with (fail)
 have k1:=Blk.fresh w0 #[.slice A1 l1 n1,.slice A2 l2 n2,.string (qT (2 * q.ch)),.string (qT (2 * q.mi)),.string (qT (2 * q.ga)),.string (qT (2 * q.re))] 32
 have q1:=below_new w0 (.cells #[.slice A1 l1 n1,.slice A2 l2 n2,.string (qT (2 * q.ch)),.string (qT (2 * q.mi)),.string (qT (2 * q.ga)),.string (qT (2 * q.re))] 32)
 have z1:(w0.alloc (.cells #[.slice A1 l1 n1,.slice A2 l2 n2,.string (qT (2 * q.ch)),.string (qT (2 * q.mi)),.string (qT (2 * q.ga)),.string (qT (2 * q.re))] 32)).heap.size=w0.heap.size + 1:=by simp
 generalize (w0.alloc (.cells #[.slice A1 l1 n1,.slice A2 l2 n2,.string (qT (2 * q.ch)),.string (qT (2 * q.mi)),.string (qT (2 * q.ga)),.string (qT (2 * q.re))] 32))=W1 at *
 have k2:=Blk.fresh W1 #[.slice A0 l.length cc,.string T] 36
 have q2:=below_new W1 (.cells #[.slice A0 l.length cc,.string T] 36)
 have z2:(W1.alloc (.cells #[.slice A0 l.length cc,.string T] 36)).heap.size=W1.heap.size + 1:=by simp
 generalize (W1.alloc (.cells #[.slice A0 l.length cc,.string T] 36))=W2 at *
 have k3:=Blk.fresh W2 #[.slice (some ⟨ob,0,none⟩) N N] 44
 have q3:=below_new W2 (.cells #[.slice (some ⟨ob,0,none⟩) N N] 44)
 have z3:(W2.alloc (.cells #[.slice (some ⟨ob,0,none⟩) N N] 44)).heap.size=W2.heap.size + 1:=by simp
 generalize (W2.alloc (.cells #[.slice (some ⟨ob,0,none⟩) N N] 44))=W3 at *
 have k4:=Blk.fresh W3 #[.int .i64 0] 37
 have q4:=below_new W3 (.cells #[.int .i64 0] 37)
 generalize (W3.alloc (.cells #[.int .i64 0] 37))=W4 at *
 obtain ⟨bq,hbq⟩:∃ b,w0.heap.size=b:=⟨_,rfl⟩
 obtain ⟨ba,hba⟩:∃ b,w0.heap.size + 1=b:=⟨_,rfl⟩
 obtain ⟨bp,hbp⟩:∃ b,w0.heap.size + 1 + 1=b:=⟨_,rfl⟩
 obtain ⟨b6,hb6⟩:∃ b,w0.heap.size + 1 + 1 + 1=b:=⟨_,rfl⟩
 rw [hbq] at k1
 rw [z1,hba] at k2
 rw [z2,z1,hbp] at k3
 rw [z3,z2,z1,hb6] at k4
 have S:Hid (StV w0 bq ba bp b6 ob N q (.slice A1 l1 n1) (.slice A2 l2 n2) (.slice A0 l.length cc) T [] W4):=Lib.hid
  (have b34:=q4
   have b23:=q3.trans (b34.mono q3.size)
   have b12:=q2.trans (b23.mono q2.size)
   ⟨q1.trans (b12.mono q1.size),k1.below b12,k2.below b23,k3.below b34,k4,trivial,by omega⟩)
 rw [hb6,hbp,hba,hbq]
 clear k1 q1 z1 k2 q2 z2 k3 q3 z3 k4 q4 hbq hba hbp hb6
 have y0:=S.out.kq.at_ 0 _ rfl
 have y1:=S.out.kq.at_ 1 _ rfl
 have y2:=S.out.kq.at_ 2 _ rfl
 have y3:=S.out.kq.at_ 3 _ rfl
 have y4:=S.out.kq.at_ 4 _ rfl
 have y5:=S.out.kq.at_ 5 _ rfl
 have a0:=S.out.ka.at_ 0 _ rfl
 go_upto_region 2 with (first
  | (go_at_call 66; with_reducible refine (HTO.out _ S.out.bb).mono ?_; rintro e W5 ⟨rfl,q5⟩)
  | fail "arm")
 clear y0 y1 y2 y3 y4 y5 a0 HTO
 replace S:=Lib.hid (S.out.below q5)
 clear q5
 by_cases her:er=0
 case neg =>
  have hne:(er == 0)=false:=by rw [beq_eq_false_iff_ne]; exact her
  have HSP:Hid (VerS q rr T c er):=Lib.hid (.inl ⟨by rw [HER.out]; exact her,HER.out.symm⟩)
  clear her
  have HZE:=Lib.hid (S.out.lay er)
  have f6:=S.out.k6.free 0
  have g6:=S.out.k6.at_ 0 _ rfl
  go_wp2
  generalize World.setCell W5 ⟨b6,0,none⟩ (.int .i64 er)=WZ at *
  refine leaves_marks [] _ HZE.out.mrk (fun w' hm=>?_)
  have kc:KeptC (fun _ _=>True) _ w':=fun g cs t fz _ e=>hm.cells g cs t fz e
  have e0:=(HZE.out.k6.keptC kc trivial).at_ 0 _ rfl
  exact ⟨.int .i64 er,(by simp [results,Tryz.results35, go_sem,e0]),⟨er,rfl,HSP.out⟩,HZE.out.bb.trans hm.below⟩
 obtain rfl:er=0:=her
 obtain rfl:sT=qT rr.2:=HX2.out rfl
 have HSP:Hid (∀ z,PrfS q T c (T ≠ qT rr.2) z→VerS q rr T c z):=Lib.hid (fun z h=>.inr ⟨HER.out,h⟩)
 generalize qT rr.2=sT at *
 clear HX2 HER
 have y0:=S.out.kq.at_ 0 _ rfl
 have p0:=S.out.kp.at_ 0 _ rfl
 have hne1:((N:Int) == (l1:Int) + 1)=true:=by rw [beq_iff_eq]; have:=HN.out; omega
 have hw1:IntKind.i64.wrap ((l1:Int) + 1)=(l1:Int) + 1:=IntWalk.i64_in _ (by omega)
 go_upto_region 6 with (fail)
 clear y0 hne1 hw1
 go_wp2
 clear p0
 go_loopw [40] (fun iv wr=>∃ i:Nat,i≤N∧iv=.int .i64 i∧StV w0 bq ba bp b6 ob N q (.slice A1 l1 n1) (.slice A2 l2 n2) (.slice A0 l.length cc) T [] wr) (fun iv _=>N - (intOf iv).toNat)
 case atStart=>exact ⟨0,Nat.zero_le _,rfl,S.out⟩
 case round =>
  clear S
  obtain ⟨i,hi,rfl,hS⟩:=hrel
  have S:=Lib.hid hS
  clear hS
  by_cases hlt:i < N
  ·have hz1:(i:Int) < (N:Int):=by omega
   have l0:i < rb.length:=by rw [HRB.out]; exact hlt
   have x1:=(TAB.out.below S.out.bb).cell1 i l0
   generalize rb[i]=r1 at *
   have y1:=S.out.kq.at_ 1 _ rfl
   have hne1:((M:Int) == (l2:Int) + 1)=true:=by rw [beq_iff_eq]; have:=HM.out; omega
   have hw1:IntKind.i64.wrap ((l2:Int) + 1)=(l2:Int) + 1:=IntWalk.i64_in _ (by omega)
   have hw2:IntKind.i64.wrap ((i:Int) + 1)=(i:Int) + 1:=IntWalk.i64_in _ (by have:=HN.out; omega)
   clear l0
   go_wp2
   exact ⟨⟨i + 1,by omega,by go_num,S.out⟩,by simp [intOf]; omega⟩
  have hz3:¬ (i:Int) < (N:Int):=by omega
  have hz4:decide ((i:Int) < (N:Int))=false:=decide_eq_false hz3
  clear hi
  obtain ⟨us,hus⟩:∃ u,rb.map (fun g=>(g,M))=u:=⟨_,rfl⟩
  have HUS:=Lib.hid hus
  have HUL:Hid (us.length=N):=Lib.hid (by rw [← hus,List.length_map,HRB.out])
  have CLN:Hid (∀ U,Below wr.heap.size wr U→Calls Tryz.prog 71 #[.slice (some ⟨ob,0,none⟩) N N] U fun e w'=>(∃ v',e=.returned v'∧SRow rwC 1 71 w' U.heap.size v' us)∧Below U.heap.size U w'):=Lib.hid (fun U hU=>by
   have t:=(TAB.out.below S.out.bb).below hU
   exact cloneR_any _ us U 0 (tab_srow t HRB.out (by have:=HN.out; omega) (by have:=HN.out; omega) hus) (by rw [HUL.out]; have:=HN.out; omega))
  clear hus
  have LBP:=Lib.hid S.out.kp.lt
  have CBP:=Lib.hid (S.out.kp.at_ 0 _ rfl)
  have LBA:=Lib.hid S.out.ka.lt
  have CBA:=Lib.hid (S.out.ka.at_ 1 _ rfl)
  go_upto_region 12 with (fail)
  refine wp_region_par2 (by kernel_rfl) [52,53,54,55,56,57,58,59,60] (fun L σ U=>Vals [some 52,none,some 54,some 55,none,none,none,some 59,some 60] [.slice (some ⟨ob,0,none⟩) N N,undef,.pointer (some ⟨ba,1,none⟩),.string T,undef,undef,undef,.int .i64 ((us.length:Int) + 1),.int .i64 0] L σ∧V12 wr us T L σ U) (by kernel_rfl) (by kernel_rfl) (by kernel_rfl) ⟨Vals.start,⟨(Below.refl _ _).drew,fun h=>h.elim,fun h=>h.elim,fun h=>h.elim,fun h=>h.elim,fun h=>h.elim,fun h=>h.elim⟩⟩ ⟨?_,?_,?_,?_,?_,?_,?_,?_,?_,trivial⟩ ?_
  ·rintro L a U ho ⟨V,R⟩ hn hd K hK
   refine Wants.free rfl ?_
   have jr:a.tmps[(5:Nat)]?.getD undef=.pointer (some ⟨bp,0,none⟩):=onlyAt_slot ho 5 rfl
   have e0:=(R.bb.cell (p:=⟨bp,0,none⟩) LBP.out).trans CBP.out
   have RR:=Lib.hid R
   have VV:=Lib.hid V
   clear R V hd
   go_simp
   exact hK.out _ _ ⟨VV.out.set 0 _ _ rfl rfl rfl,RR.out.pure 0 52 _ (by decide) (by decide)⟩
  ·rintro L a U ho ⟨V,R⟩ hn hd K hK
   have jh0:=hd.get 0 rfl
   refine Wants.free rfl ?_
   have jr0:=V.read 0 rfl rfl jh0
   have HCL:=Lib.hid (CLN.out U R.bb)
   have RR:=Lib.hid R
   have VV:=Lib.hid V
   clear R V hd
   go_simp
   refine HCL.out.mono ?_
   rintro e U' ⟨⟨v',rfl,hs⟩,qb⟩
   exact hK.out _ _ ⟨vals_apart VV.out 1 53 _ rfl rfl,RR.out.mkC hn qb hs⟩
  ·rintro L a U ho ⟨V,R⟩ hn hd K hK
   refine Wants.free rfl ?_
   have jr:a.tmps[(4:Nat)]?.getD undef=.pointer (some ⟨ba,0,none⟩):=onlyAt_slot ho 4 rfl
   have RR:=Lib.hid R
   have VV:=Lib.hid V
   clear R V hd
   go_simp
   exact hK.out _ _ ⟨VV.out.set 2 _ _ rfl rfl rfl,RR.out.pure 2 54 _ (by decide) (by decide)⟩
  ·rintro L a U ho ⟨V,R⟩ hn hd K hK
   have jh2:=hd.get 2 rfl
   refine Wants.free rfl ?_
   have jr2:=V.read 2 rfl rfl jh2
   have e0:=(R.bb.cell (p:=⟨ba,1,none⟩) LBA.out).trans CBA.out
   have RR:=Lib.hid R
   have VV:=Lib.hid V
   clear R V hd
   go_simp
   exact hK.out _ _ ⟨VV.out.set 3 _ _ rfl rfl rfl,RR.out.pure 3 55 _ (by decide) (by decide)⟩
  ·rintro L a U ho ⟨V,R⟩ hn hd K hK
   have jh3:=hd.get 3 rfl
   refine Wants.free rfl ?_
   have jr3:=V.read 3 rfl rfl jh3
   have RR:=Lib.hid (R.mkE hn)
   have VV:=Lib.hid V
   clear R V hd
   go_simp
   exact hK.out _ _ ⟨vals_apart VV.out 4 56 _ rfl rfl,RR.out⟩
  ·rintro L a U ho ⟨V,R⟩ hn hd K hK
   have jh4:=hd.get 4 rfl
   refine Wants.free rfl ?_
   obtain ⟨g,hg,_,_⟩:=R.e jh4
   have jr56:a.tmps[(56:Nat)]?.getD undef=.slice (some ⟨g,0,none⟩) 1 1:=hg
   have RR0:=R.mkF hn jh4
   rw [hg] at RR0
   have RR:=Lib.hid RR0
   have VV:=Lib.hid V
   clear R V hd hg RR0
   go_simp
   exact hK.out _ _ ⟨vals_apart VV.out 5 57 _ rfl rfl,RR.out⟩
  ·rintro L a U ho ⟨V,R⟩ hn hd K hK
   have jh1:=hd.get 1 rfl
   have jh5:=hd.get 5 rfl
   refine Wants.free rfl ?_
   obtain ⟨g,hg,_,_⟩:=R.e (R.d.1 jh5)
   obtain ⟨g5,hg5,kg5⟩:=R.f jh5 hn
   have row:=R.c jh1 hn
   have hx57:a.eval (.tmp 57)=.slice (some ⟨g5,0,none⟩) 1 1:=(eval_slot a 57).trans hg5
   rw [hg] at kg5
   refine app_op ElR rwC_len rwC_one (.tmp 53) (.tmp 57) rfl U wr.heap.size R.bb.size _ us row (eval_slot a 53) (by rw [HUL.out]; have:=HN.out; omega) (g,1) g5 hx57 (fun jj y hy=>kg5.atL jj y hy) ?_
   intro v' X1 r1 r2 r3 r4
   exact hK.out _ _ ⟨vals_apart V 6 58 _ rfl rfl,R.mkG jh5 jh1 hg hn r1 r2 r3⟩
  ·rintro L a U ho ⟨V,R⟩ hn hd K hK
   have jh6:=hd.get 6 rfl
   refine Wants.free rfl ?_
   obtain ⟨g,hg,row⟩:=R.g jh6
   obtain ⟨va,vc,hve⟩:=row.len_eval
   rw [List.length_append] at hve
   have jr58:a.tmps[(58:Nat)]?.getD undef=.slice va (us.length + 1) vc:=hve
   have RR:=Lib.hid R
   have VV:=Lib.hid V
   clear R V hd
   clear row hve hg
   go_simp
   exact hK.out _ _ ⟨VV.out.set 7 _ _ rfl rfl rfl,RR.out.pure 7 59 _ (by decide) (by decide)⟩
  ·rintro L a U ho ⟨V,R⟩ hn hd K hK
   refine Wants.free rfl ?_
   have RR:=Lib.hid R
   have VV:=Lib.hid V
   clear R V hd
   go_simp
   exact hK.out _ _ ⟨VV.out.set 8 _ _ rfl rfl rfl,RR.out.pure 8 60 _ (by decide) (by decide)⟩
  rintro L σ W9 ⟨V,R⟩ hL
  have jf0:=V 0 _ _ rfl rfl (hL 0 (by decide))
  have jf2:=V 2 _ _ rfl rfl (hL 2 (by decide))
  have jf3:=V 3 _ _ rfl rfl (hL 3 (by decide))
  have jf7:=V 7 _ _ rfl rfl (hL 7 (by decide))
  have jf8:=V 8 _ _ rfl rfl (hL 8 (by decide))
  obtain ⟨g4,jf4,row⟩:=R.g (hL 6 (by decide))
  obtain ⟨g4',jf4',_,kg4⟩:=R.e (hL 4 (by decide))
  obtain rfl:g4=g4':=by
   have e:=jf4.symm.trans jf4'
   injection e with e1
   injection e1 with e2
   injection e2
  obtain ⟨va,vc,jf6⟩:=row.len_eval
  rw [show List.map σ [52,53,54,55,56,57,58,59,60]=[σ 52,σ 53,σ 54,σ 55,σ 56,σ 57,σ 58,σ 59,σ 60] from rfl,jf0,jf2,jf3,jf4,jf6,jf7,jf8]
  rw [jf6] at row
  have RW9:=Lib.hid row
  have KG4:=Lib.hid kg4
  have B9:=Lib.hid R.bb
  clear V R hL jf0 jf2 jf3 jf4 jf4' jf6 jf7 jf8 row kg4
  generalize σ 53=v53
  generalize σ 57=v57
  clear σ L
  simp only [slotsOf,finX,nval,nvalN,nvalA,Nat.reduceBEq,cond_true,cond_false,putAll,Act.put,List.setIfInBounds_toArray,List.set_cons_succ,List.set_cons_zero]
  replace S:=Lib.hid (S.out.below B9.out)
  have hrow:=RW9.out
  rcases hrow with ⟨h9,_⟩ | ⟨d,c9,r9,hv9,_,_,hb9,_⟩
  ·exact absurd h9 (by simp)
  injection hv9 with hv9a _ hv9c
  subst hv9a hv9c
  have HB9:=Lib.hid hb9
  obtain ⟨N1,hN1⟩:∃ n,N + 1=n:=⟨_,rfl⟩
  have HN1:=Lib.hid hN1
  have hln:(us ++ [(g4,1)]).length=N1:=by rw [List.length_append,HUL.out]; exact hN1
  have hln2:((us.length:Int) + 1)=(N1:Int):=by rw [HUL.out]; omega
  rw [hln,hln2]
  have HC1:Hid (∀ p,p < N1→∃ b m,m=(if p < N then M else 1)∧(∀ W,Below W9.heap.size W9 W→W.cell? ⟨d,p,none⟩=some (.slice (some ⟨b,0,none⟩) m m))∧∀ W jj,Below W9.heap.size W9 W→jj < m→W.cell? ⟨b,jj,none⟩=some (.string (if p < N then c p jj else T))):=Lib.hid (fun p hp=>by
   have go:∀ b m,(us ++ [(g4,1)])[p]?=some (b,m)→∀ W,Below W9.heap.size W9 W→W.cell? ⟨d,p,none⟩=some (.slice (some ⟨b,0,none⟩) m m):=fun b m e W hW=>by
    have h:=flat_get rwC_len (us ++ [(g4,1)]) p 0 (b,m) (.slice (some ⟨b,0,none⟩) m m) e rfl
    rw [Nat.mul_one,Nat.add_zero] at h
    exact (HB9.out.below hW).atL p _ (by rw [List.getElem?_append_left (List.getElem?_eq_some_iff.1 h).1]; exact h)
   by_cases h:p < N
   ·have l0:p < rb.length:=by rw [HRB.out]; exact h
    have e:(us ++ [(g4,1)])[p]?=some (rb[p],M):=by
     rw [List.getElem?_append_left (by rw [HUL.out]; exact h),← HUS.out,List.getElem?_map,List.getElem?_eq_getElem l0]
     rfl
    refine ⟨rb[p],M,by rw [if_pos h],go _ _ e,fun W jj hW hjj=>?_⟩
    rw [if_pos h]
    exact ((TAB.out.below S.out.bb).below hW).cell2 p jj l0 hjj
   ·have e:(us ++ [(g4,1)])[p]?=some (g4,1):=by
     rw [List.getElem?_append_right (by rw [HUL.out]; omega),show p - us.length=0 by rw [HUL.out]; omega]
     rfl
    refine ⟨g4,1,by rw [if_neg h],go _ _ e,fun W jj hW hjj=>?_⟩
    rw [if_neg h]
    obtain rfl:jj=0:=by omega
    exact (KG4.out.below hW).at_ 0 _ rfl)
  have HTX:Hid (∀ p jj,p < N1→jj < (if p < N then M else 1)→(if p < N then c p jj else T).size≤20):=Lib.hid (fun p jj h1 h2=>by
   by_cases h:p < N
   ·rw [if_pos h] at h2 ⊢
    exact HCS.out p jj (by have:=HN.out; have:=HL1.out; omega) (by have:=HM.out; have:=HL2.out; omega)
   ·rw [if_neg h]
    exact HTS.out)
  clear hb9 HB9 RW9 hN1 hln hln2 CLN
  go_wp2
  clear KG4 HUS HUL
  go_loopw [60] (fun iv wr=>∃ p:Nat,p≤N1∧iv=.int .i64 p∧(∀ p' j',p' < p→j' < (if p' < N then M else 1)→rightQ (if p' < N then c p' j' else T)=true)∧Below W9.heap.size W9 wr∧StV w0 bq ba bp b6 ob N q (.slice A1 l1 n1) (.slice A2 l2 n2) (.slice A0 l.length cc) T [] wr) (fun iv _=>N1 - (intOf iv).toNat)
  case atStart=>exact ⟨0,Nat.zero_le _,rfl,fun p' j' h=>absurd h (Nat.not_lt_zero _),Below.refl _ _,S.out⟩
  case round =>
   clear S B9
   obtain ⟨p,hp,rfl,hgood,hb9,hS⟩:=hrel
   have S:=Lib.hid hS
   have B9:=Lib.hid hb9
   have HGD:=Lib.hid hgood
   clear hS hb9 hgood
   by_cases hlt:p < N1
   ·obtain ⟨b,m,hm,hx1,hx2⟩:=HC1.out p hlt
    have hz1:(p:Int) < (N1:Int):=by omega
    have x1:=hx1 wr B9.out
    have HX2:=Lib.hid hx2
    have HM9:=Lib.hid hm
    have hwp:IntKind.i64.wrap ((p:Int) + 1)=(p:Int) + 1:=IntWalk.i64_in _ (by have:=HN1.out; have:=HN.out; omega)
    have hm60:m≤60:=by rw [hm]; split <;> (have:=HM.out; omega)
    clear hx1 hx2 hm
    go_wp2
    clear x1
    go_loopw [66] (fun jv wx=>∃ j:Nat,j≤m∧jv=.int .i64 j∧(∀ j',j' < j→rightQ (if p < N then c p j' else T)=true)∧Below W9.heap.size W9 wx∧StV w0 bq ba bp b6 ob N q (.slice A1 l1 n1) (.slice A2 l2 n2) (.slice A0 l.length cc) T [] wx) (fun jv _=>m - (intOf jv).toNat)
    case atStart=>exact ⟨0,Nat.zero_le _,rfl,fun j' h=>absurd h (Nat.not_lt_zero _),B9.out,S.out⟩
    case round =>
     clear S B9
     obtain ⟨j,hj,rfl,hgood,hb9,hS⟩:=hrel
     have S:=Lib.hid hS
     have B9:=Lib.hid hb9
     have HGJ:=Lib.hid hgood
     clear hS hb9 hgood
     by_cases hlj:j < m
     ·have hz3:(j:Int) < (m:Int):=by omega
      have hwj:IntKind.i64.wrap ((j:Int) + 1)=(j:Int) + 1:=IntWalk.i64_in _ (by omega)
      have x2:=HX2.out wr j B9.out hlj
      have hts:=HTX.out p j hlt (by rw [← HM9.out]; exact hlj)
      obtain ⟨tx,htx⟩:∃ t,(if p < N then c p j else T)=t:=⟨_,rfl⟩
      rw [htx] at x2 hts
      have HTE:=Lib.hid htx
      have HCK:=Lib.hid (fun W (hW:Below w0.heap.size w0 W)=>rcheck_any tx W (HE.out.below hW) (by omega))
      clear htx hts
      by_cases hr:rightQ tx=true
      ·have HCK2:Hid (∀ W,Below w0.heap.size w0 W→Calls Tryz.prog 72 #[.string tx] W fun e w'=>e=.returned (.int .i64 0)∧Below W.heap.size W w'):=Lib.hid (fun W hW=>by have h:=HCK.out W hW; rw [if_pos hr] at h; exact h)
       have HRT:=Lib.hid hr
       clear hr HCK
       go_wp2_with (first
        | (go_at_call 72; with_reducible refine (HCK2.out _ S.out.bb).mono ?_; rintro e W8 ⟨rfl,q8⟩; replace S:=Lib.hid (S.out.below q8); replace B9:=Lib.hid (B9.out.trans (q8.mono B9.out.size)); clear q8)
        | fail "arm")
       exact ⟨⟨j + 1,by omega,by go_num,(fun j' h=>by
        by_cases e:j'=j
        ·subst e; rw [HTE.out]; exact HRT.out
        ·exact HGJ.out j' (by omega)),B9.out,S.out⟩,by simp [intOf]; omega⟩
      ·have HCK2:Hid (∀ W,Below w0.heap.size w0 W→Calls Tryz.prog 72 #[.string tx] W fun e w'=>e=.returned (.int .i64 2)∧Below W.heap.size W w'):=Lib.hid (fun W hW=>by have h:=HCK.out W hW; rw [if_neg hr] at h; exact h)
       have HBD:Hid (badN q c ∨ rightQ T=false):=Lib.hid (by
        have hr2:rightQ tx=false:=by simpa using hr
        have h:=HTE.out
        by_cases hpn:p < N
        ·rw [if_pos hpn] at h
         have hm:=HM9.out
         rw [if_pos hpn] at hm
         exact .inl ⟨p,j,by have:=HN.out; have:=HL1.out; omega,by have:=HM.out; have:=HL2.out; omega,by rw [h]; exact hr2⟩
        ·rw [if_neg hpn] at h
         exact .inr (by rw [h]; exact hr2))
       clear hr HCK
       go_upto_region 19 with (first
        | (go_at_call 72; with_reducible refine (HCK2.out _ S.out.bb).mono ?_; rintro e W8 ⟨rfl,q8⟩; replace S:=Lib.hid (S.out.below q8); clear q8)
        | fail "arm")
       have HZE:=Lib.hid (S.out.lay 2)
       have f6:=S.out.k6.free 0
       have g6:=S.out.k6.at_ 0 _ rfl
       go_wp2
       generalize World.setCell W8 ⟨b6,0,none⟩ (.int .i64 2)=WZ at *
       refine leaves_marks [] _ HZE.out.mrk (fun w' hm=>?_)
       have kc:KeptC (fun _ _=>True) _ w':=fun g cs t fz _ e=>hm.cells g cs t fz e
       have e0:=(HZE.out.k6.keptC kc trivial).at_ 0 _ rfl
       exact ⟨.int .i64 2,(by simp [results,Tryz.results35, go_sem,e0]),⟨2,rfl,(HSP.out 2 (.inl ⟨HBD.out,rfl⟩))⟩,HZE.out.bb.trans hm.below⟩
     ·have hz3:¬ (j:Int) < (m:Int):=by omega
      have hz4:decide ((j:Int) < (m:Int))=false:=decide_eq_false hz3
      have HG2:Hid (∀ p' j',p' < p + 1→j' < (if p' < N then M else 1)→rightQ (if p' < N then c p' j' else T)=true):=Lib.hid (fun p' j' h1 h2=>by
       by_cases e:p'=p
       ·subst e
        exact HGJ.out j' (by have:=HM9.out; omega)
       ·exact HGD.out p' j' (by omega) h2)
      go_wp2
      exact ⟨⟨p + 1,by omega,by go_num,HG2.out,B9.out,S.out⟩,by simp [intOf]; omega⟩
   have hz3:¬ (p:Int) < (N1:Int):=by omega
   have hz4:decide ((p:Int) < (N1:Int))=false:=decide_eq_false hz3
   have HNB:Hid (¬ (badN q c ∨ rightQ T=false)):=Lib.hid (fun h=>by
    rcases h with ⟨i',j',h1,h2,h3⟩ | h3
    ·have h:=HGD.out i' j' (by have:=HN1.out; have:=HN.out; have:=HL1.out; omega) (by rw [if_pos (by have:=HN.out; have:=HL1.out; omega)]; have:=HM.out; have:=HL2.out; omega)
     rw [if_pos (by have:=HN.out; have:=HL1.out; omega),h3] at h
     cases h
    ·have h:=HGD.out N 0 (by have:=HN1.out; omega) (by rw [if_neg (Nat.lt_irrefl _)]; omega)
     rw [if_neg (Nat.lt_irrefl _),h3] at h
     cases h)
   clear HGD hp HC1 HTX B9
   go_upto_region 22 with (fail)
   clear hz3 hz4
   have LBP:=Lib.hid S.out.kp.lt
   have CBP:=Lib.hid (S.out.kp.at_ 0 _ rfl)
   have LBA:=Lib.hid S.out.ka.lt
   have CBA:=Lib.hid (S.out.ka.at_ 1 _ rfl)
   have LBQ:=Lib.hid S.out.kq.lt
   have CQ0:=Lib.hid (S.out.kq.at_ 0 _ rfl)
   have CQ1:=Lib.hid (S.out.kq.at_ 1 _ rfl)
   have tab:=TAB.out.below S.out.bb
   have l0:0 < rb.length:=by have:=HRB.out; have:=HN.out; omega
   have ll:l1 < rb.length:=by have:=HRB.out; have:=HN.out; omega
   have LO:=Lib.hid tab.lt1
   have X0:=Lib.hid (tab.cell1 0 l0)
   have X00:=Lib.hid (tab.cell2 0 0 l0 (by have:=HM.out; omega))
   have LR0:=Lib.hid (tab.lt2 _ (List.getElem_mem l0))
   have XL:=Lib.hid (tab.cell1 l1 ll)
   have XLR:=Lib.hid (tab.cell2 l1 l2 ll (by have:=HM.out; omega))
   have LRL:=Lib.hid (tab.lt2 _ (List.getElem_mem ll))
   have HN1:Hid ((l1:Int) < (N:Int)∧l1 < N):=Lib.hid (by have:=HN.out; omega)
   have HN2:Hid ((l2:Int) < (M:Int)∧l2 < M):=Lib.hid (by have:=HM.out; omega)
   have hzN:(0:Int) < (N:Int):=by have:=HN.out; omega
   have hzM:(0:Int) < (M:Int):=by have:=HM.out; omega
   have hzN3:0 < N:=by omega
   have hzM3:0 < M:=by omega
   clear tab
   generalize rb[0]=r0 at *
   generalize rb[l1]=rl at *
   clear l0 ll
   obtain ⟨c00,hc00⟩:∃ t,c 0 0=t:=⟨_,rfl⟩
   obtain ⟨cLR,hcLR⟩:∃ t,c l1 l2=t:=⟨_,rfl⟩
   rw [hc00] at X00
   rw [hcLR] at XLR
   have HPS:Hid (∀ z,PrfS q T c (T ≠ sT) z→VerS q rr T c z):=HSP
   have HC00:=Lib.hid hc00
   have HCLR:Hid (c q.L.length q.R.length=cLR):=Lib.hid (by rw [HL1.out,HL2.out]; exact hcLR)
   clear hc00 hcLR HSP
   by_cases h0:c00=⟨#[48]⟩
   case neg =>
    have HB0:Hid ((c00.toList == (⟨#[48]⟩:ByteArray).toList)=false∧(c00.toList == [48])=false):=Lib.hid (by
     have h:(c00.toList == (⟨#[48]⟩:ByteArray).toList)=false:=by rw [ba_beq]; exact decide_eq_false h0
     exact ⟨h,by simp only [ByteArray.toList_eq] at h ⊢; exact h⟩)
    have HV9:Hid (VerS q rr T c 23):=Lib.hid (HPS.out 23 (.inr (.inl ⟨HNB.out,.inl (by rw [HC00.out]; exact h0),rfl⟩)))
    clear h0
    refine wp_tab (.v 75 (.slice (some ⟨ob,0,none⟩) N N) :: .v 76 (.pointer (some ⟨ob,0,none⟩)) :: .v 77 (.slice (some ⟨r0,0,none⟩) M M) :: .v 78 (.pointer (some ⟨r0,0,none⟩)) :: .v 79 (.string c00) :: .v 80 (.bool true) :: .v 81 (.bool true) :: .v 82 undef :: .v 83 undef :: .v 84 undef :: .v 85 undef :: .v 86 (.bool true) :: .v 87 (.bool true) :: .v 88 undef :: .v 89 undef :: .v 90 undef :: .v 91 undef :: .v 92 undef :: .v 93 undef :: .v 94 undef :: .v 95 undef :: .v 96 undef :: .v 97 undef :: .v 98 undef :: .v 99 undef :: .v 100 undef :: .v 101 undef :: .v 102 (.bool true) :: []) [] [⟨bp,#[.slice (some ⟨ob,0,none⟩) N N], 44, none⟩,⟨ba,#[.slice A0 l.length cc,.string T], 36, none⟩,⟨bq,#[.slice A1 l1 n1,.slice A2 l2 n2,.string (qT (2 * q.ch)),.string (qT (2 * q.mi)),.string (qT (2 * q.ga)),.string (qT (2 * q.re))], 32, none⟩] [] [] [] [] [] (by kernel_rfl) (Below.refl _ _) ⟨S.out.kp,S.out.ka,S.out.kq,trivial⟩ trivial ⟨ld 0 0,?_,?_,?_,?_,?_,pu,sk,sk,sk,sk,?_,pu,sk,sk,sk,sk,sk,sk,sk,sk,sk,sk,sk,sk,sk,sk,?_,trivial⟩ ?_
    ·intro L a U ho J hn dd KK kk; refine .free rfl ?_; have r0:=J.read 0 rfl (dd.get 0 rfl); go_simp; exact kk.out _ _ (J.st 1 rfl rfl)
    ·intro L a U ho J hn dd KK kk; refine .free rfl ?_; have r1:=J.read 1 rfl (dd.get 1 rfl); have e0:=(J.bb.cell (p:=⟨ob,0,none⟩) LO.out).trans X0.out; go_simp; exact kk.out _ _ (J.st 2 rfl rfl)
    ·intro L a U ho J hn dd KK kk; refine .free rfl ?_; have r2:=J.read 2 rfl (dd.get 2 rfl); go_simp; exact kk.out _ _ (J.st 3 rfl rfl)
    ·intro L a U ho J hn dd KK kk; refine .free rfl ?_; have r3:=J.read 3 rfl (dd.get 3 rfl); have e0:=(J.bb.cell (p:=⟨r0,0,none⟩) LR0.out).trans X00.out; go_simp; exact kk.out _ _ (J.st 4 rfl rfl)
    ·intro L a U ho J hn dd KK kk; refine .free rfl ?_; have r4:=J.read 4 rfl (dd.get 4 rfl); have hb:=HB0.out.1; have hb2:=HB0.out.2; go_simp; exact kk.out _ _ (J.st 5 rfl rfl)
    ·intro L a U ho J hn dd KK kk; refine .free rfl ?_; have r6:=J.read 6 rfl (dd.get 6 rfl); go_simp; exact kk.out _ _ (J.st 11 rfl rfl)
    ·intro L a U ho J hn dd KK kk; refine .free rfl ?_; have r12:=J.read 12 rfl (dd.get 12 rfl); go_simp; exact kk.out _ _ (J.st 27 rfl rfl)
    rintro σ W22 _ _ _ _ q22
    simp only [slotsOf,finX,nval,nvalN,nvalA,Nat.reduceBEq,cond_true,cond_false,putAll,Act.put,List.setIfInBounds_toArray,List.set_cons_succ,List.set_cons_zero]
    replace S:=Lib.hid (S.out.below q22)
    clear q22 LBP CBP LBA CBA LBQ CQ0 CQ1 LO X0 X00 LR0 XL XLR LRL HB0
    have HZE:=Lib.hid (S.out.lay 23)
    have f6:=S.out.k6.free 0
    have g6:=S.out.k6.at_ 0 _ rfl
    go_wp2
    generalize World.setCell W22 ⟨b6,0,none⟩ (.int .i64 23)=WZ at *
    refine leaves_marks [] _ HZE.out.mrk (fun w' hm=>?_)
    have kc:KeptC (fun _ _=>True) _ w':=fun g cs t fz _ e=>hm.cells g cs t fz e
    have e0:=(HZE.out.k6.keptC kc trivial).at_ 0 _ rfl
    exact ⟨.int .i64 23,(by simp [results,Tryz.results35, go_sem,e0]),⟨23,rfl,HV9.out⟩,HZE.out.bb.trans hm.below⟩
   have HB0:Hid ((c00.toList == (⟨#[48]⟩:ByteArray).toList)=true∧(c00.toList == [48])=true):=Lib.hid (by
    have h:(c00.toList == (⟨#[48]⟩:ByteArray).toList)=true:=by rw [ba_beq]; exact decide_eq_true h0
    exact ⟨h,by simp only [ByteArray.toList_eq] at h ⊢; exact h⟩)
   have H0:=Lib.hid h0
   clear h0
   by_cases h1:T=sT
   case neg =>
    have HB1:Hid ((T.toList == sT.toList)=false):=Lib.hid (by rw [ba_beq]; exact decide_eq_false h1)
    have HV9:Hid (VerS q rr T c 23):=Lib.hid (HPS.out 23 (.inr (.inl ⟨HNB.out,.inr (.inl h1),rfl⟩)))
    clear h1
    refine wp_tab (.v 75 (.slice (some ⟨ob,0,none⟩) N N) :: .v 76 (.pointer (some ⟨ob,0,none⟩)) :: .v 77 (.slice (some ⟨r0,0,none⟩) M M) :: .v 78 (.pointer (some ⟨r0,0,none⟩)) :: .v 79 (.string c00) :: .v 80 (.bool false) :: .v 81 (.bool false) :: .v 82 (.pointer (some ⟨ba,1,none⟩)) :: .v 83 (.string T) :: .v 84 (.string sT) :: .v 85 (.bool true) :: .v 86 (.bool true) :: .v 87 (.bool true) :: .v 88 undef :: .v 89 undef :: .v 90 undef :: .v 91 undef :: .v 92 undef :: .v 93 undef :: .v 94 undef :: .v 95 undef :: .v 96 undef :: .v 97 undef :: .v 98 undef :: .v 99 undef :: .v 100 undef :: .v 101 undef :: .v 102 (.bool true) :: []) [] [⟨bp,#[.slice (some ⟨ob,0,none⟩) N N], 44, none⟩,⟨ba,#[.slice A0 l.length cc,.string T], 36, none⟩,⟨bq,#[.slice A1 l1 n1,.slice A2 l2 n2,.string (qT (2 * q.ch)),.string (qT (2 * q.mi)),.string (qT (2 * q.ga)),.string (qT (2 * q.re))], 32, none⟩] [] [] [] [] [] (by kernel_rfl) (Below.refl _ _) ⟨S.out.kp,S.out.ka,S.out.kq,trivial⟩ trivial ⟨ld 0 0,?_,?_,?_,?_,?_,pu,?_,?_,?_,?_,?_,pu,sk,sk,sk,sk,sk,sk,sk,sk,sk,sk,sk,sk,sk,sk,?_,trivial⟩ ?_
    ·intro L a U ho J hn dd KK kk; refine .free rfl ?_; have r0:=J.read 0 rfl (dd.get 0 rfl); go_simp; exact kk.out _ _ (J.st 1 rfl rfl)
    ·intro L a U ho J hn dd KK kk; refine .free rfl ?_; have r1:=J.read 1 rfl (dd.get 1 rfl); have e0:=(J.bb.cell (p:=⟨ob,0,none⟩) LO.out).trans X0.out; go_simp; exact kk.out _ _ (J.st 2 rfl rfl)
    ·intro L a U ho J hn dd KK kk; refine .free rfl ?_; have r2:=J.read 2 rfl (dd.get 2 rfl); go_simp; exact kk.out _ _ (J.st 3 rfl rfl)
    ·intro L a U ho J hn dd KK kk; refine .free rfl ?_; have r3:=J.read 3 rfl (dd.get 3 rfl); have e0:=(J.bb.cell (p:=⟨r0,0,none⟩) LR0.out).trans X00.out; go_simp; exact kk.out _ _ (J.st 4 rfl rfl)
    ·intro L a U ho J hn dd KK kk; refine .free rfl ?_; have r4:=J.read 4 rfl (dd.get 4 rfl); have hb:=HB0.out.1; have hb2:=HB0.out.2; go_simp; exact kk.out _ _ (J.st 5 rfl rfl)
    ·intro L a U ho J hn dd KK kk; refine .pos (s:=81) rfl rfl (J.vals 6 _ _ rfl (dd.get 6 rfl)) ?_; have jr4:a.tmps[(4:Nat)]?.getD undef=.pointer (some ⟨ba,0,none⟩):=onlyAt_slot ho 4 rfl; go_simp; exact kk.out _ _ (J.st 7 rfl rfl)
    ·intro L a U ho J hn dd KK kk; refine .pos (s:=81) rfl rfl (J.vals 6 _ _ rfl (dd.get 6 rfl)) ?_; have r7:=J.read 7 rfl (dd.get 7 rfl); have e0:=(J.bb.cell (p:=⟨ba,1,none⟩) LBA.out).trans CBA.out; go_simp; exact kk.out _ _ (J.st 8 rfl rfl)
    ·intro L a U ho J hn dd KK kk; refine .pos (s:=81) rfl rfl (J.vals 6 _ _ rfl (dd.get 6 rfl)) ?_; have jr7:a.tmps[(7:Nat)]?.getD undef=.string sT:=onlyAt_slot ho 7 rfl; go_simp; exact kk.out _ _ (J.st 9 rfl rfl)
    ·intro L a U ho J hn dd KK kk; refine .pos (s:=81) rfl rfl (J.vals 6 _ _ rfl (dd.get 6 rfl)) ?_; have r8:=J.read 8 rfl (dd.get 8 rfl); have r9:=J.read 9 rfl (dd.get 9 rfl); have hb:=HB1.out; go_simp; exact kk.out _ _ (J.st 10 rfl rfl)
    ·intro L a U ho J hn dd KK kk; refine .free rfl ?_; have r6:=J.read 6 rfl (dd.get 6 rfl); have r10:=J.read 10 rfl (dd.get 10 rfl); go_simp; exact kk.out _ _ (J.st 11 rfl rfl)
    ·intro L a U ho J hn dd KK kk; refine .free rfl ?_; have r12:=J.read 12 rfl (dd.get 12 rfl); go_simp; exact kk.out _ _ (J.st 27 rfl rfl)
    rintro σ W22 _ _ _ _ q22
    simp only [slotsOf,finX,nval,nvalN,nvalA,Nat.reduceBEq,cond_true,cond_false,putAll,Act.put,List.setIfInBounds_toArray,List.set_cons_succ,List.set_cons_zero]
    replace S:=Lib.hid (S.out.below q22)
    clear q22 LBP CBP LBA CBA LBQ CQ0 CQ1 LO X0 X00 LR0 XL XLR LRL HB0 HB1
    have HZE:=Lib.hid (S.out.lay 23)
    have f6:=S.out.k6.free 0
    have g6:=S.out.k6.at_ 0 _ rfl
    go_wp2
    generalize World.setCell W22 ⟨b6,0,none⟩ (.int .i64 23)=WZ at *
    refine leaves_marks [] _ HZE.out.mrk (fun w' hm=>?_)
    have kc:KeptC (fun _ _=>True) _ w':=fun g cs t fz _ e=>hm.cells g cs t fz e
    have e0:=(HZE.out.k6.keptC kc trivial).at_ 0 _ rfl
    exact ⟨.int .i64 23,(by simp [results,Tryz.results35, go_sem,e0]),⟨23,rfl,HV9.out⟩,HZE.out.bb.trans hm.below⟩
   have HB1:Hid ((T.toList == sT.toList)=true):=Lib.hid (by rw [ba_beq]; exact decide_eq_true h1)
   have H1:=Lib.hid h1
   clear h1
   by_cases h2:cLR=T
   case neg =>
    have HB2:Hid ((cLR.toList == T.toList)=false):=Lib.hid (by rw [ba_beq]; exact decide_eq_false h2)
    have HV9:Hid (VerS q rr T c 23):=Lib.hid (HPS.out 23 (.inr (.inl ⟨HNB.out,.inr (.inr (.inl (by rw [HCLR.out]; exact h2))),rfl⟩)))
    clear h2
    refine wp_tab (.v 75 (.slice (some ⟨ob,0,none⟩) N N) :: .v 76 (.pointer (some ⟨ob,0,none⟩)) :: .v 77 (.slice (some ⟨r0,0,none⟩) M M) :: .v 78 (.pointer (some ⟨r0,0,none⟩)) :: .v 79 (.string c00) :: .v 80 (.bool false) :: .v 81 (.bool false) :: .v 82 (.pointer (some ⟨ba,1,none⟩)) :: .v 83 (.string T) :: .v 84 (.string sT) :: .v 85 (.bool false) :: .v 86 (.bool false) :: .v 87 (.bool false) :: .v 88 (.slice (some ⟨ob,0,none⟩) N N) :: .v 89 (.pointer (some ⟨bq,0,none⟩)) :: .v 90 (.slice A1 l1 n1) :: .v 91 (.int .i64 l1) :: .v 92 (.pointer (some ⟨ob,l1,none⟩)) :: .v 93 (.slice (some ⟨rl,0,none⟩) M M) :: .v 94 (.pointer (some ⟨bq,1,none⟩)) :: .v 95 (.slice A2 l2 n2) :: .v 96 (.int .i64 l2) :: .v 97 (.pointer (some ⟨rl,l2,none⟩)) :: .v 98 (.string cLR) :: .v 99 (.pointer (some ⟨ba,1,none⟩)) :: .v 100 (.string T) :: .v 101 (.bool true) :: .v 102 (.bool true) :: []) [] [⟨bp,#[.slice (some ⟨ob,0,none⟩) N N], 44, none⟩,⟨ba,#[.slice A0 l.length cc,.string T], 36, none⟩,⟨bq,#[.slice A1 l1 n1,.slice A2 l2 n2,.string (qT (2 * q.ch)),.string (qT (2 * q.mi)),.string (qT (2 * q.ga)),.string (qT (2 * q.re))], 32, none⟩] [] [] [] [] [] (by kernel_rfl) (Below.refl _ _) ⟨S.out.kp,S.out.ka,S.out.kq,trivial⟩ trivial ⟨ld 0 0,?_,?_,?_,?_,?_,pu,?_,?_,?_,?_,?_,pu,?_,?_,?_,?_,?_,?_,?_,?_,?_,?_,?_,?_,?_,?_,?_,trivial⟩ ?_
    ·intro L a U ho J hn dd KK kk; refine .free rfl ?_; have r0:=J.read 0 rfl (dd.get 0 rfl); go_simp; exact kk.out _ _ (J.st 1 rfl rfl)
    ·intro L a U ho J hn dd KK kk; refine .free rfl ?_; have r1:=J.read 1 rfl (dd.get 1 rfl); have e0:=(J.bb.cell (p:=⟨ob,0,none⟩) LO.out).trans X0.out; go_simp; exact kk.out _ _ (J.st 2 rfl rfl)
    ·intro L a U ho J hn dd KK kk; refine .free rfl ?_; have r2:=J.read 2 rfl (dd.get 2 rfl); go_simp; exact kk.out _ _ (J.st 3 rfl rfl)
    ·intro L a U ho J hn dd KK kk; refine .free rfl ?_; have r3:=J.read 3 rfl (dd.get 3 rfl); have e0:=(J.bb.cell (p:=⟨r0,0,none⟩) LR0.out).trans X00.out; go_simp; exact kk.out _ _ (J.st 4 rfl rfl)
    ·intro L a U ho J hn dd KK kk; refine .free rfl ?_; have r4:=J.read 4 rfl (dd.get 4 rfl); have hb:=HB0.out.1; have hb2:=HB0.out.2; go_simp; exact kk.out _ _ (J.st 5 rfl rfl)
    ·intro L a U ho J hn dd KK kk; refine .pos (s:=81) rfl rfl (J.vals 6 _ _ rfl (dd.get 6 rfl)) ?_; have jr4:a.tmps[(4:Nat)]?.getD undef=.pointer (some ⟨ba,0,none⟩):=onlyAt_slot ho 4 rfl; go_simp; exact kk.out _ _ (J.st 7 rfl rfl)
    ·intro L a U ho J hn dd KK kk; refine .pos (s:=81) rfl rfl (J.vals 6 _ _ rfl (dd.get 6 rfl)) ?_; have r7:=J.read 7 rfl (dd.get 7 rfl); have e0:=(J.bb.cell (p:=⟨ba,1,none⟩) LBA.out).trans CBA.out; go_simp; exact kk.out _ _ (J.st 8 rfl rfl)
    ·intro L a U ho J hn dd KK kk; refine .pos (s:=81) rfl rfl (J.vals 6 _ _ rfl (dd.get 6 rfl)) ?_; have jr7:a.tmps[(7:Nat)]?.getD undef=.string sT:=onlyAt_slot ho 7 rfl; go_simp; exact kk.out _ _ (J.st 9 rfl rfl)
    ·intro L a U ho J hn dd KK kk; refine .pos (s:=81) rfl rfl (J.vals 6 _ _ rfl (dd.get 6 rfl)) ?_; have r8:=J.read 8 rfl (dd.get 8 rfl); have r9:=J.read 9 rfl (dd.get 9 rfl); have hb:=HB1.out; go_simp; exact kk.out _ _ (J.st 10 rfl rfl)
    ·intro L a U ho J hn dd KK kk; refine .free rfl ?_; have r6:=J.read 6 rfl (dd.get 6 rfl); have r10:=J.read 10 rfl (dd.get 10 rfl); go_simp; exact kk.out _ _ (J.st 11 rfl rfl)
    ·intro L a U ho J hn dd KK kk; refine .pos (s:=87) rfl rfl (J.vals 12 _ _ rfl (dd.get 12 rfl)) ?_; have jr5:a.tmps[(5:Nat)]?.getD undef=.pointer (some ⟨bp,0,none⟩):=onlyAt_slot ho 5 rfl; have e0:=(J.bb.cell (p:=⟨bp,0,none⟩) LBP.out).trans CBP.out; go_simp; exact kk.out _ _ (J.st 13 rfl rfl)
    ·intro L a U ho J hn dd KK kk; refine .pos (s:=87) rfl rfl (J.vals 12 _ _ rfl (dd.get 12 rfl)) ?_; have jr3:a.tmps[(3:Nat)]?.getD undef=.pointer (some ⟨bq,0,none⟩):=onlyAt_slot ho 3 rfl; go_simp; exact kk.out _ _ (J.st 14 rfl rfl)
    ·intro L a U ho J hn dd KK kk; refine .pos (s:=87) rfl rfl (J.vals 12 _ _ rfl (dd.get 12 rfl)) ?_; have r14:=J.read 14 rfl (dd.get 14 rfl); have e0:=(J.bb.cell (p:=⟨bq,0,none⟩) LBQ.out).trans CQ0.out; go_simp; exact kk.out _ _ (J.st 15 rfl rfl)
    ·intro L a U ho J hn dd KK kk; refine .pos (s:=87) rfl rfl (J.vals 12 _ _ rfl (dd.get 12 rfl)) ?_; have r15:=J.read 15 rfl (dd.get 15 rfl); go_simp; exact kk.out _ _ (J.st 16 rfl rfl)
    ·intro L a U ho J hn dd KK kk; refine .pos (s:=87) rfl rfl (J.vals 12 _ _ rfl (dd.get 12 rfl)) ?_; have r13:=J.read 13 rfl (dd.get 13 rfl); have r16:=J.read 16 rfl (dd.get 16 rfl); have hn1:=HN1.out.1; have hn3:=HN1.out.2; go_simp; exact kk.out _ _ (J.st 17 rfl rfl)
    ·intro L a U ho J hn dd KK kk; refine .pos (s:=87) rfl rfl (J.vals 12 _ _ rfl (dd.get 12 rfl)) ?_; have r17:=J.read 17 rfl (dd.get 17 rfl); have e0:=(J.bb.cell (p:=⟨ob,l1,none⟩) LO.out).trans XL.out; go_simp; exact kk.out _ _ (J.st 18 rfl rfl)
    ·intro L a U ho J hn dd KK kk; refine .pos (s:=87) rfl rfl (J.vals 12 _ _ rfl (dd.get 12 rfl)) ?_; have jr3:a.tmps[(3:Nat)]?.getD undef=.pointer (some ⟨bq,0,none⟩):=onlyAt_slot ho 3 rfl; go_simp; exact kk.out _ _ (J.st 19 rfl rfl)
    ·intro L a U ho J hn dd KK kk; refine .pos (s:=87) rfl rfl (J.vals 12 _ _ rfl (dd.get 12 rfl)) ?_; have r19:=J.read 19 rfl (dd.get 19 rfl); have e0:=(J.bb.cell (p:=⟨bq,1,none⟩) LBQ.out).trans CQ1.out; go_simp; exact kk.out _ _ (J.st 20 rfl rfl)
    ·intro L a U ho J hn dd KK kk; refine .pos (s:=87) rfl rfl (J.vals 12 _ _ rfl (dd.get 12 rfl)) ?_; have r20:=J.read 20 rfl (dd.get 20 rfl); go_simp; exact kk.out _ _ (J.st 21 rfl rfl)
    ·intro L a U ho J hn dd KK kk; refine .pos (s:=87) rfl rfl (J.vals 12 _ _ rfl (dd.get 12 rfl)) ?_; have r18:=J.read 18 rfl (dd.get 18 rfl); have r21:=J.read 21 rfl (dd.get 21 rfl); have hn2:=HN2.out.1; have hn4:=HN2.out.2; go_simp; exact kk.out _ _ (J.st 22 rfl rfl)
    ·intro L a U ho J hn dd KK kk; refine .pos (s:=87) rfl rfl (J.vals 12 _ _ rfl (dd.get 12 rfl)) ?_; have r22:=J.read 22 rfl (dd.get 22 rfl); have e0:=(J.bb.cell (p:=⟨rl,l2,none⟩) LRL.out).trans XLR.out; go_simp; exact kk.out _ _ (J.st 23 rfl rfl)
    ·intro L a U ho J hn dd KK kk; refine .pos (s:=87) rfl rfl (J.vals 12 _ _ rfl (dd.get 12 rfl)) ?_; have jr4:a.tmps[(4:Nat)]?.getD undef=.pointer (some ⟨ba,0,none⟩):=onlyAt_slot ho 4 rfl; go_simp; exact kk.out _ _ (J.st 24 rfl rfl)
    ·intro L a U ho J hn dd KK kk; refine .pos (s:=87) rfl rfl (J.vals 12 _ _ rfl (dd.get 12 rfl)) ?_; have r24:=J.read 24 rfl (dd.get 24 rfl); have e0:=(J.bb.cell (p:=⟨ba,1,none⟩) LBA.out).trans CBA.out; go_simp; exact kk.out _ _ (J.st 25 rfl rfl)
    ·intro L a U ho J hn dd KK kk; refine .pos (s:=87) rfl rfl (J.vals 12 _ _ rfl (dd.get 12 rfl)) ?_; have r23:=J.read 23 rfl (dd.get 23 rfl); have r25:=J.read 25 rfl (dd.get 25 rfl); have hb:=HB2.out; go_simp; exact kk.out _ _ (J.st 26 rfl rfl)
    ·intro L a U ho J hn dd KK kk; refine .free rfl ?_; have r12:=J.read 12 rfl (dd.get 12 rfl); have r26:=J.read 26 rfl (dd.get 26 rfl); go_simp; exact kk.out _ _ (J.st 27 rfl rfl)
    rintro σ W22 _ _ _ _ q22
    simp only [slotsOf,finX,nval,nvalN,nvalA,Nat.reduceBEq,cond_true,cond_false,putAll,Act.put,List.setIfInBounds_toArray,List.set_cons_succ,List.set_cons_zero]
    replace S:=Lib.hid (S.out.below q22)
    clear q22 LBP CBP LBA CBA LBQ CQ0 CQ1 LO X0 X00 LR0 XL XLR LRL HB0 HB1 HB2
    have HZE:=Lib.hid (S.out.lay 23)
    have f6:=S.out.k6.free 0
    have g6:=S.out.k6.at_ 0 _ rfl
    go_wp2
    generalize World.setCell W22 ⟨b6,0,none⟩ (.int .i64 23)=WZ at *
    refine leaves_marks [] _ HZE.out.mrk (fun w' hm=>?_)
    have kc:KeptC (fun _ _=>True) _ w':=fun g cs t fz _ e=>hm.cells g cs t fz e
    have e0:=(HZE.out.k6.keptC kc trivial).at_ 0 _ rfl
    exact ⟨.int .i64 23,(by simp [results,Tryz.results35, go_sem,e0]),⟨23,rfl,HV9.out⟩,HZE.out.bb.trans hm.below⟩
   have HB2:Hid ((cLR.toList == T.toList)=true):=Lib.hid (by rw [ba_beq]; exact decide_eq_true h2)
   have H2:=Lib.hid h2
   clear h2
   refine wp_tab (.v 75 (.slice (some ⟨ob,0,none⟩) N N) :: .v 76 (.pointer (some ⟨ob,0,none⟩)) :: .v 77 (.slice (some ⟨r0,0,none⟩) M M) :: .v 78 (.pointer (some ⟨r0,0,none⟩)) :: .v 79 (.string c00) :: .v 80 (.bool false) :: .v 81 (.bool false) :: .v 82 (.pointer (some ⟨ba,1,none⟩)) :: .v 83 (.string T) :: .v 84 (.string sT) :: .v 85 (.bool false) :: .v 86 (.bool false) :: .v 87 (.bool false) :: .v 88 (.slice (some ⟨ob,0,none⟩) N N) :: .v 89 (.pointer (some ⟨bq,0,none⟩)) :: .v 90 (.slice A1 l1 n1) :: .v 91 (.int .i64 l1) :: .v 92 (.pointer (some ⟨ob,l1,none⟩)) :: .v 93 (.slice (some ⟨rl,0,none⟩) M M) :: .v 94 (.pointer (some ⟨bq,1,none⟩)) :: .v 95 (.slice A2 l2 n2) :: .v 96 (.int .i64 l2) :: .v 97 (.pointer (some ⟨rl,l2,none⟩)) :: .v 98 (.string cLR) :: .v 99 (.pointer (some ⟨ba,1,none⟩)) :: .v 100 (.string T) :: .v 101 (.bool false) :: .v 102 (.bool false) :: []) [] [⟨bp,#[.slice (some ⟨ob,0,none⟩) N N], 44, none⟩,⟨ba,#[.slice A0 l.length cc,.string T], 36, none⟩,⟨bq,#[.slice A1 l1 n1,.slice A2 l2 n2,.string (qT (2 * q.ch)),.string (qT (2 * q.mi)),.string (qT (2 * q.ga)),.string (qT (2 * q.re))], 32, none⟩] [] [] [] [] [] (by kernel_rfl) (Below.refl _ _) ⟨S.out.kp,S.out.ka,S.out.kq,trivial⟩ trivial ⟨ld 0 0,?_,?_,?_,?_,?_,pu,?_,?_,?_,?_,?_,pu,?_,?_,?_,?_,?_,?_,?_,?_,?_,?_,?_,?_,?_,?_,?_,trivial⟩ ?_
   ·intro L a U ho J hn dd KK kk; refine .free rfl ?_; have r0:=J.read 0 rfl (dd.get 0 rfl); go_simp; exact kk.out _ _ (J.st 1 rfl rfl)
   ·intro L a U ho J hn dd KK kk; refine .free rfl ?_; have r1:=J.read 1 rfl (dd.get 1 rfl); have e0:=(J.bb.cell (p:=⟨ob,0,none⟩) LO.out).trans X0.out; go_simp; exact kk.out _ _ (J.st 2 rfl rfl)
   ·intro L a U ho J hn dd KK kk; refine .free rfl ?_; have r2:=J.read 2 rfl (dd.get 2 rfl); go_simp; exact kk.out _ _ (J.st 3 rfl rfl)
   ·intro L a U ho J hn dd KK kk; refine .free rfl ?_; have r3:=J.read 3 rfl (dd.get 3 rfl); have e0:=(J.bb.cell (p:=⟨r0,0,none⟩) LR0.out).trans X00.out; go_simp; exact kk.out _ _ (J.st 4 rfl rfl)
   ·intro L a U ho J hn dd KK kk; refine .free rfl ?_; have r4:=J.read 4 rfl (dd.get 4 rfl); have hb:=HB0.out.1; have hb2:=HB0.out.2; go_simp; exact kk.out _ _ (J.st 5 rfl rfl)
   ·intro L a U ho J hn dd KK kk; refine .pos (s:=81) rfl rfl (J.vals 6 _ _ rfl (dd.get 6 rfl)) ?_; have jr4:a.tmps[(4:Nat)]?.getD undef=.pointer (some ⟨ba,0,none⟩):=onlyAt_slot ho 4 rfl; go_simp; exact kk.out _ _ (J.st 7 rfl rfl)
   ·intro L a U ho J hn dd KK kk; refine .pos (s:=81) rfl rfl (J.vals 6 _ _ rfl (dd.get 6 rfl)) ?_; have r7:=J.read 7 rfl (dd.get 7 rfl); have e0:=(J.bb.cell (p:=⟨ba,1,none⟩) LBA.out).trans CBA.out; go_simp; exact kk.out _ _ (J.st 8 rfl rfl)
   ·intro L a U ho J hn dd KK kk; refine .pos (s:=81) rfl rfl (J.vals 6 _ _ rfl (dd.get 6 rfl)) ?_; have jr7:a.tmps[(7:Nat)]?.getD undef=.string sT:=onlyAt_slot ho 7 rfl; go_simp; exact kk.out _ _ (J.st 9 rfl rfl)
   ·intro L a U ho J hn dd KK kk; refine .pos (s:=81) rfl rfl (J.vals 6 _ _ rfl (dd.get 6 rfl)) ?_; have r8:=J.read 8 rfl (dd.get 8 rfl); have r9:=J.read 9 rfl (dd.get 9 rfl); have hb:=HB1.out; go_simp; exact kk.out _ _ (J.st 10 rfl rfl)
   ·intro L a U ho J hn dd KK kk; refine .free rfl ?_; have r6:=J.read 6 rfl (dd.get 6 rfl); have r10:=J.read 10 rfl (dd.get 10 rfl); go_simp; exact kk.out _ _ (J.st 11 rfl rfl)
   ·intro L a U ho J hn dd KK kk; refine .pos (s:=87) rfl rfl (J.vals 12 _ _ rfl (dd.get 12 rfl)) ?_; have jr5:a.tmps[(5:Nat)]?.getD undef=.pointer (some ⟨bp,0,none⟩):=onlyAt_slot ho 5 rfl; have e0:=(J.bb.cell (p:=⟨bp,0,none⟩) LBP.out).trans CBP.out; go_simp; exact kk.out _ _ (J.st 13 rfl rfl)
   ·intro L a U ho J hn dd KK kk; refine .pos (s:=87) rfl rfl (J.vals 12 _ _ rfl (dd.get 12 rfl)) ?_; have jr3:a.tmps[(3:Nat)]?.getD undef=.pointer (some ⟨bq,0,none⟩):=onlyAt_slot ho 3 rfl; go_simp; exact kk.out _ _ (J.st 14 rfl rfl)
   ·intro L a U ho J hn dd KK kk; refine .pos (s:=87) rfl rfl (J.vals 12 _ _ rfl (dd.get 12 rfl)) ?_; have r14:=J.read 14 rfl (dd.get 14 rfl); have e0:=(J.bb.cell (p:=⟨bq,0,none⟩) LBQ.out).trans CQ0.out; go_simp; exact kk.out _ _ (J.st 15 rfl rfl)
   ·intro L a U ho J hn dd KK kk; refine .pos (s:=87) rfl rfl (J.vals 12 _ _ rfl (dd.get 12 rfl)) ?_; have r15:=J.read 15 rfl (dd.get 15 rfl); go_simp; exact kk.out _ _ (J.st 16 rfl rfl)
   ·intro L a U ho J hn dd KK kk; refine .pos (s:=87) rfl rfl (J.vals 12 _ _ rfl (dd.get 12 rfl)) ?_; have r13:=J.read 13 rfl (dd.get 13 rfl); have r16:=J.read 16 rfl (dd.get 16 rfl); have hn1:=HN1.out.1; have hn3:=HN1.out.2; go_simp; exact kk.out _ _ (J.st 17 rfl rfl)
   ·intro L a U ho J hn dd KK kk; refine .pos (s:=87) rfl rfl (J.vals 12 _ _ rfl (dd.get 12 rfl)) ?_; have r17:=J.read 17 rfl (dd.get 17 rfl); have e0:=(J.bb.cell (p:=⟨ob,l1,none⟩) LO.out).trans XL.out; go_simp; exact kk.out _ _ (J.st 18 rfl rfl)
   ·intro L a U ho J hn dd KK kk; refine .pos (s:=87) rfl rfl (J.vals 12 _ _ rfl (dd.get 12 rfl)) ?_; have jr3:a.tmps[(3:Nat)]?.getD undef=.pointer (some ⟨bq,0,none⟩):=onlyAt_slot ho 3 rfl; go_simp; exact kk.out _ _ (J.st 19 rfl rfl)
   ·intro L a U ho J hn dd KK kk; refine .pos (s:=87) rfl rfl (J.vals 12 _ _ rfl (dd.get 12 rfl)) ?_; have r19:=J.read 19 rfl (dd.get 19 rfl); have e0:=(J.bb.cell (p:=⟨bq,1,none⟩) LBQ.out).trans CQ1.out; go_simp; exact kk.out _ _ (J.st 20 rfl rfl)
   ·intro L a U ho J hn dd KK kk; refine .pos (s:=87) rfl rfl (J.vals 12 _ _ rfl (dd.get 12 rfl)) ?_; have r20:=J.read 20 rfl (dd.get 20 rfl); go_simp; exact kk.out _ _ (J.st 21 rfl rfl)
   ·intro L a U ho J hn dd KK kk; refine .pos (s:=87) rfl rfl (J.vals 12 _ _ rfl (dd.get 12 rfl)) ?_; have r18:=J.read 18 rfl (dd.get 18 rfl); have r21:=J.read 21 rfl (dd.get 21 rfl); have hn2:=HN2.out.1; have hn4:=HN2.out.2; go_simp; exact kk.out _ _ (J.st 22 rfl rfl)
   ·intro L a U ho J hn dd KK kk; refine .pos (s:=87) rfl rfl (J.vals 12 _ _ rfl (dd.get 12 rfl)) ?_; have r22:=J.read 22 rfl (dd.get 22 rfl); have e0:=(J.bb.cell (p:=⟨rl,l2,none⟩) LRL.out).trans XLR.out; go_simp; exact kk.out _ _ (J.st 23 rfl rfl)
   ·intro L a U ho J hn dd KK kk; refine .pos (s:=87) rfl rfl (J.vals 12 _ _ rfl (dd.get 12 rfl)) ?_; have jr4:a.tmps[(4:Nat)]?.getD undef=.pointer (some ⟨ba,0,none⟩):=onlyAt_slot ho 4 rfl; go_simp; exact kk.out _ _ (J.st 24 rfl rfl)
   ·intro L a U ho J hn dd KK kk; refine .pos (s:=87) rfl rfl (J.vals 12 _ _ rfl (dd.get 12 rfl)) ?_; have r24:=J.read 24 rfl (dd.get 24 rfl); have e0:=(J.bb.cell (p:=⟨ba,1,none⟩) LBA.out).trans CBA.out; go_simp; exact kk.out _ _ (J.st 25 rfl rfl)
   ·intro L a U ho J hn dd KK kk; refine .pos (s:=87) rfl rfl (J.vals 12 _ _ rfl (dd.get 12 rfl)) ?_; have r23:=J.read 23 rfl (dd.get 23 rfl); have r25:=J.read 25 rfl (dd.get 25 rfl); have hb:=HB2.out; go_simp; exact kk.out _ _ (J.st 26 rfl rfl)
   ·intro L a U ho J hn dd KK kk; refine .free rfl ?_; have r12:=J.read 12 rfl (dd.get 12 rfl); have r26:=J.read 26 rfl (dd.get 26 rfl); go_simp; exact kk.out _ _ (J.st 27 rfl rfl)
   rintro σ W22 _ _ _ _ q22
   simp only [slotsOf,finX,nval,nvalN,nvalA,Nat.reduceBEq,cond_true,cond_false,putAll,Act.put,List.setIfInBounds_toArray,List.set_cons_succ,List.set_cons_zero]
   replace S:=Lib.hid (S.out.below q22)
   clear q22 LBP CBP LBA CBA LBQ CQ0 CQ1 LO X0 X00 LR0 XL XLR LRL HB0 HB1 HB2
   have HV23:Hid (badP q c→VerS q rr T c 23):=Lib.hid (fun hb=>HPS.out 23 (.inr (.inl ⟨HNB.out,.inr (.inr (.inr hb)),rfl⟩)))
   have HV0:Hid (¬ badP q c→VerS q rr T c 0):=Lib.hid (fun hb=>HPS.out 0 (.inr (.inr ⟨HNB.out,fun h=>by
    rcases h with h | h | h | h
    ·exact h (by rw [HC00.out,H0.out])
    ·exact h H1.out
    ·exact h (by rw [HCLR.out,H2.out])
    ·exact hb h,rfl⟩)))
   have HRI:Hid (∀ i j,i≤q.L.length→j≤q.R.length→rightQ (c i j)=true):=Lib.hid (fun i j hi hj=>by
    by_cases h:rightQ (c i j)=true
    ·exact h
    ·exact absurd (.inl ⟨i,j,hi,hj,by simpa using h⟩) HNB.out)
   clear H0 H1 H2 HPS HNB HC00 HCLR HN1 HN2
   have p0:=S.out.kp.at_ 0 _ rfl
   go_wp2
   clear p0
   clear hlt
   refine wp_loop_ghost_k (fun k a' wr=>∃ (i:Nat) (ds:List Deferred),(∃ v:Nat→Value,a'={ tmps:=(.agg #[.slice A1 l1 n1,.slice A2 l2 n2,.string (qT (2 * q.ch)),.string (qT (2 * q.mi)),.string (qT (2 * q.ga)),.string (qT (2 * q.re))] :: .agg #[.slice A0 l.length cc,.string T] :: .slice (some ⟨ob,0,none⟩) N N :: .pointer (some ⟨bq,0,none⟩) :: .pointer (some ⟨ba,0,none⟩) :: .pointer (some ⟨bp,0,none⟩) :: .pointer (some ⟨b6,0,none⟩) :: v 7 :: v 8 :: v 9 :: v 10 :: v 11 :: v 12 :: v 13 :: v 14 :: v 15 :: v 16 :: v 17 :: v 18 :: v 19 :: v 20 :: v 21 :: v 22 :: v 23 :: v 24 :: v 25 :: v 26 :: v 27 :: v 28 :: v 29 :: v 30 :: v 31 :: v 32 :: v 33 :: v 34 :: v 35 :: v 36 :: v 37 :: v 38 :: v 39 :: v 40 :: v 41 :: v 42 :: v 43 :: v 44 :: v 45 :: v 46 :: v 47 :: v 48 :: v 49 :: v 50 :: v 51 :: v 52 :: v 53 :: v 54 :: v 55 :: v 56 :: v 57 :: v 58 :: v 59 :: v 60 :: v 61 :: v 62 :: v 63 :: v 64 :: v 65 :: v 66 :: v 67 :: v 68 :: v 69 :: v 70 :: v 71 :: v 72 :: v 73 :: v 74 :: v 75 :: v 76 :: v 77 :: v 78 :: v 79 :: v 80 :: v 81 :: v 82 :: v 83 :: v 84 :: v 85 :: v 86 :: v 87 :: v 88 :: v 89 :: v 90 :: v 91 :: v 92 :: v 93 :: v 94 :: v 95 :: v 96 :: v 97 :: v 98 :: v 99 :: v 100 :: v 101 :: v 102 :: v 103 :: .int .i64 (N:Nat) :: .int .i64 (i:Nat) :: v 106 :: v 107 :: v 108 :: v 109 :: v 110 :: v 111 :: v 112 :: v 113 :: v 114 :: v 115 :: v 116 :: v 117 :: v 118 :: v 119 :: v 120 :: v 121 :: v 122 :: v 123 :: v 124 :: v 125 :: v 126 :: v 127 :: v 128 :: v 129 :: v 130 :: v 131 :: v 132 :: v 133 :: v 134 :: v 135 :: v 136 :: v 137 :: v 138 :: v 139 :: v 140 :: v 141 :: v 142 :: v 143 :: v 144 :: v 145 :: v 146 :: []).toArray,defers:=ds })∧i≤N∧k + i=N∧(∀ i' j' k,i'≤q.L.length→j'≤q.R.length→(i' < i)→k ∈ kinds→okS q k i' j'→worseT (c i' j') (c (nxI k i') (nxJ k j')) (cst q k i' j')=false)∧StV w0 bq ba bp b6 ob N q (.slice A1 l1 n1) (.slice A2 l2 n2) (.slice A0 l.length cc) T ds wr) N ?_ ?_
   ·exact ⟨0,[],ex_frame (by kernel_rfl),Nat.zero_le _,by omega,fun i' j' k _ _ h=>absurd h (Nat.not_lt_zero _),S.out⟩
   clear S
   rintro k a' wr ⟨i,ds,⟨v,rfl⟩,hiN,hk,hgd,hS⟩ J K hJ hK
   have S:=Lib.hid hS
   have HGD:=Lib.hid hgd
   clear hS hgd
   by_cases hk0:i=N
   ·have hiN2:¬ (i:Int) < (N:Int):=by omega
    have hiN3:decide ((i:Int) < (N:Int))=false:=decide_eq_false hiN2
    have HV9:Hid (VerS q rr T c 0):=Lib.hid (HV0.out (fun ⟨i',j',k',h1,h2,h3,h4,h5⟩=>by
     have h:=HGD.out i' j' k' h1 h2 (by have:=HN.out; have:=HL1.out; omega) h3 h4
     rw [h5] at h
     cases h))
    clear hJ hK hk0 hk
    have HZE:=Lib.hid (S.out.lay 0)
    have f6:=S.out.k6.free 0
    have g6:=S.out.k6.at_ 0 _ rfl
    go_wp2
    generalize World.setCell wr ⟨b6,0,none⟩ (.int .i64 0)=WZ at *
    refine leaves_marks ds _ HZE.out.mrk (fun w' hm=>?_)
    have kc:KeptC (fun _ _=>True) _ w':=fun g cs t fz _ e=>hm.cells g cs t fz e
    have e0:=(HZE.out.k6.keptC kc trivial).at_ 0 _ rfl
    exact ⟨.int .i64 0,(by simp [results,Tryz.results35, go_sem,e0]),⟨0,rfl,HV9.out⟩,HZE.out.bb.trans hm.below⟩
   have hlt:i < N:=by omega
   have hi:i≤q.L.length:=by have:=HN.out; have:=HL1.out; omega
   have hz1:(i:Int) < (N:Int):=by omega
   have hz2:decide ((i:Int) < (N:Int))=true:=decide_eq_true hz1
   clear hk0
   go_upto_region 27 with (fail)
   have kbi:=Blk.fresh wr #[.int .i64 (i:Int)] 3
   have q6:=below_new wr (.cells #[.int .i64 (i:Int)] 3)
   have hbi:b6 < wr.heap.size:=S.out.k6.lt
   replace S:=Lib.hid (S.out.below q6)
   clear q6
   generalize (wr.alloc (.cells #[.int .i64 (i:Int)] 3))=W6 at *
   obtain ⟨bi,hbie⟩:∃ b,wr.heap.size=b:=⟨_,rfl⟩
   rw [hbie] at kbi hbi ⊢
   clear hbie
   have l1':i < rb.length:=by rw [HRB.out]; omega
   have y0:=S.out.kp.at_ 0 _ rfl
   have y1:=kbi.at_ 0 _ rfl
   have x1:=(TAB.out.below S.out.bb).cell1 i l1'
   obtain ⟨r1,hr1⟩:∃ r,rb[i]=r:=⟨_,rfl⟩
   have HR1:Hid (∀ h:i < rb.length,rb[i]=r1):=Lib.hid (fun _=>hr1)
   rw [hr1] at x1
   have KBI:=Lib.hid kbi
   clear kbi hr1 l1'
   go_wp2
   clear y0 y1 x1
   refine wp_loop_ghost_k (fun m a' W=>∃ (j:Nat) (ds:List Deferred),(∃ v:Nat→Value,a'={ tmps:=(.agg #[.slice A1 l1 n1,.slice A2 l2 n2,.string (qT (2 * q.ch)),.string (qT (2 * q.mi)),.string (qT (2 * q.ga)),.string (qT (2 * q.re))] :: .agg #[.slice A0 l.length cc,.string T] :: .slice (some ⟨ob,0,none⟩) N N :: .pointer (some ⟨bq,0,none⟩) :: .pointer (some ⟨ba,0,none⟩) :: .pointer (some ⟨bp,0,none⟩) :: .pointer (some ⟨b6,0,none⟩) :: v 7 :: v 8 :: v 9 :: v 10 :: v 11 :: v 12 :: v 13 :: v 14 :: .pointer (some ⟨bi,0,none⟩) :: v 16 :: v 17 :: v 18 :: v 19 :: v 20 :: v 21 :: v 22 :: v 23 :: v 24 :: v 25 :: v 26 :: v 27 :: v 28 :: v 29 :: v 30 :: v 31 :: v 32 :: v 33 :: v 34 :: v 35 :: v 36 :: v 37 :: v 38 :: v 39 :: v 40 :: v 41 :: v 42 :: v 43 :: v 44 :: v 45 :: v 46 :: v 47 :: v 48 :: v 49 :: v 50 :: v 51 :: v 52 :: v 53 :: v 54 :: v 55 :: v 56 :: v 57 :: v 58 :: v 59 :: v 60 :: v 61 :: v 62 :: v 63 :: v 64 :: v 65 :: v 66 :: v 67 :: v 68 :: v 69 :: v 70 :: v 71 :: v 72 :: v 73 :: v 74 :: v 75 :: v 76 :: v 77 :: v 78 :: v 79 :: v 80 :: v 81 :: v 82 :: v 83 :: v 84 :: v 85 :: v 86 :: v 87 :: v 88 :: v 89 :: v 90 :: v 91 :: v 92 :: v 93 :: v 94 :: v 95 :: v 96 :: v 97 :: v 98 :: v 99 :: v 100 :: v 101 :: v 102 :: v 103 :: .int .i64 (N:Nat) :: .int .i64 (i:Nat) :: v 106 :: v 107 :: v 108 :: v 109 :: v 110 :: v 111 :: .int .i64 (M:Nat) :: .int .i64 (j:Nat) :: v 114 :: v 115 :: v 116 :: v 117 :: v 118 :: v 119 :: v 120 :: v 121 :: v 122 :: v 123 :: v 124 :: v 125 :: v 126 :: v 127 :: v 128 :: v 129 :: v 130 :: v 131 :: v 132 :: v 133 :: v 134 :: v 135 :: v 136 :: v 137 :: v 138 :: v 139 :: v 140 :: v 141 :: v 142 :: v 143 :: v 144 :: v 145 :: v 146 :: []).toArray,defers:=ds })∧j≤M∧m + j=M∧(∀ i' j' k,i'≤q.L.length→j'≤q.R.length→(i' < i ∨ (i'=i∧j' < j))→k ∈ kinds→okS q k i' j'→worseT (c i' j') (c (nxI k i') (nxJ k j')) (cst q k i' j')=false)∧(StV w0 bq ba bp b6 ob N q (.slice A1 l1 n1) (.slice A2 l2 n2) (.slice A0 l.length cc) T ds W∧Blk W bi #[.int .i64 i] 3)) M ?_ ?_
   ·exact ⟨0,ds,ex_frame (by kernel_rfl),Nat.zero_le _,by omega,fun i' j' k h1 h2 h3 h4 h5=>HGD.out i' j' k h1 h2 (by omega) h4 h5,S.out,KBI.out⟩
   clear S KBI v HGD
   clear ds
   rintro m a' W ⟨j,ds,⟨v,rfl⟩,hjM,hm,hgd,hS,hbi2⟩ J2 K2 hJ2 hK2
   have S:=Lib.hid hS
   have KI:=Lib.hid hbi2
   have HGD:=Lib.hid hgd
   clear hS hbi2 hgd
   by_cases hm0:j=M
   ·have hz3:¬ (j:Int) < (M:Int):=by omega
    have hz4:decide ((j:Int) < (M:Int))=false:=decide_eq_false hz3
    have HG2:Hid (∀ i' j' k,i'≤q.L.length→j'≤q.R.length→(i' < i + 1)→k ∈ kinds→okS q k i' j'→worseT (c i' j') (c (nxI k i') (nxJ k j')) (cst q k i' j')=false):=Lib.hid (fun i' j' k h1 h2 h3 h4 h5=>HGD.out i' j' k h1 h2 (by have:=HM.out; have:=HL2.out; omega) h4 h5)
    clear hJ2 hK2 hm0 hm
    have hwi:IntKind.i64.wrap ((i:Int) + 1)=(i:Int) + 1:=IntWalk.i64_in _ (by have:=HN.out; omega)
    go_wp2
    exact ⟨k - 1,by omega,hJ _ _ _ ⟨i + 1,ds,ex_frame (by kernel_rfl),by omega,by omega,HG2.out,S.out⟩⟩
   have hjlt:j < M:=by omega
   have hj:j≤q.R.length:=by have:=HM.out; have:=HL2.out; omega
   have hz3:(j:Int) < (M:Int):=by omega
   have hz4:decide ((j:Int) < (M:Int))=true:=decide_eq_true hz3
   clear hm0
   go_upto_region 30 with (fail)
   have kbj:=Blk.fresh W #[.int .i64 (j:Int)] 3
   have q9:=below_new W (.cells #[.int .i64 (j:Int)] 3)
   have hbj:b6 < W.heap.size:=S.out.k6.lt
   have hbij:bi < W.heap.size:=KI.out.lt
   replace S:=Lib.hid (S.out.below q9)
   replace KI:=Lib.hid (KI.out.below q9)
   clear q9
   generalize (W.alloc (.cells #[.int .i64 (j:Int)] 3))=WA at *
   obtain ⟨bj,hbje⟩:∃ b,W.heap.size=b:=⟨_,rfl⟩
   rw [hbje] at kbj hbj hbij ⊢
   clear hbje
   have y0:=KI.out.at_ 0 _ rfl
   have yj:=kbj.at_ 0 _ rfl
   have a0:=S.out.kq.at_ 0 _ rfl
   have a1:=S.out.kq.at_ 1 _ rfl
   have a2:=S.out.kq.at_ 2 _ rfl
   have a3:=S.out.kq.at_ 3 _ rfl
   have a4:=S.out.kq.at_ 4 _ rfl
   have a5:=S.out.kq.at_ 5 _ rfl
   have KJ:=Lib.hid kbj
   clear kbj
   go_wp2_with (first
    | (go_at_call 73; refine (steps_make q _ _ i j _).mono ?_; rintro e W2 ⟨rfl,qb,hsz2,k1,k2,k3⟩)
    | fail "arm")
   clear y0 yj a0 a1 a2 a3 a4 a5
   have hS2:=S.out.below qb
   have hi2:=KI.out.below qb
   have hj2:=KJ.out.below qb
   have hs4:=S.out.bb.size
   have hlt6:b6 < WA.heap.size:=S.out.k6.lt
   clear S KI KJ qb
   obtain ⟨bw,hbw⟩:∃ b,WA.heap.size=b:=⟨_,rfl⟩
   rw [hbw] at k1 k2 k3 hsz2 hs4 hlt6
   simp only [hbw]
   clear hbw
   have hStW:StW w0 bw (bw + 1) (bw + 2) q (.slice A1 l1 n1) (.slice A2 l2 n2) i j W2:=⟨KeptC.of_bb hS2.bb,hs4,k1,k2,k3⟩
   have hMf:FarM w0 (fun _ _=>False) [bw,bw + 1,bw + 2] [32, 3]:=⟨fun g _ h=>h.elim,fun g hg _ _ h=>h.elim⟩
   have hW2s:w0.heap.size≤W2.heap.size:=hS2.bb.size
   have hI:OwnFrom W2.heap.size (fun (pre:List (SK q i j)) V=>((∀ x ∈ pre,worseT (c i j) (c (nxI x.k i) (nxJ x.k j)) (cst q x.k i j)=false)∧(StV w0 bq ba bp b6 ob N q (.slice A1 l1 n1) (.slice A2 l2 n2) (.slice A0 l.length cc) T ds V∧KeepsLow W2.heap.size W2 V))∧Blk V bi #[.int .i64 i] 3 ∧ Blk V bj #[.int .i64 j] 3):=fun s A B row h hg hr =>
    ⟨⟨h.1.1,StV.own rfl hW2s hS2.mrk s A B row h.1.2 hg hr⟩,ownFrom_cells (I:=fun (_:Unit) X=>Blk X bi #[.int .i64 i] 3 ∧ Blk X bj #[.int .i64 j] 3) (fun _ X X' h k _=>⟨h.1.keptC k trivial,h.2.keptC k trivial⟩) _ () A B row h.2 hg hr⟩
   have hIx:∀ cd:Code,OwnFrom W2.heap.size (fun (pre:List (SK q i j)) V=>cd=.ret∧badP q c∧(StE w0 b6 23 ds V∧KeepsLow W2.heap.size W2 V)):=fun cd s A B row h hg hr=>⟨h.1,h.2.1,StE.own rfl hW2s hS2.mrk s A B row h.2.2 hg hr⟩
   refine wide_loop (n:=9) (gf := 100) (lb:=#[.pointer (some ⟨bw + 1,0,none⟩),.pointer (some ⟨bw + 2,0,none⟩),.pointer (some ⟨bw,0,none⟩)]) rfl (enters_of Tryz.func100 (by kernel_rfl) rfl)
    (SeqJ.of (steps_stops (9 - 1) q OK.out _ _ i j hi hj w0 HE.out (by rw [HL1.out.symm,HL2.out.symm] at HQ; first | exact HQ.out | (have h:=HQ.out; rw [← HL1.out,← HL2.out]; exact h)) bw (bw + 1) (bw + 2) (fun _ _=>False) hMf W2 hStW)) (fun h k=>KeptC.trans h k) (fun V o o' h ho=>KeptC.put _ h ho) (fun _=>rfl)
    (fun pre V=>((∀ x ∈ pre,worseT (c i j) (c (nxI x.k i) (nxJ x.k j)) (cst q x.k i j)=false)∧(StV w0 bq ba bp b6 ob N q (.slice A1 l1 n1) (.slice A2 l2 n2) (.slice A0 l.length cc) T ds V∧KeepsLow W2.heap.size W2 V))∧Blk V bi #[.int .i64 i] 3 ∧ Blk V bj #[.int .i64 j] 3)
    (fun cd pre V=>cd=.ret∧badP q c∧(StE w0 b6 23 ds V∧KeepsLow W2.heap.size W2 V)) hI hIx ⟨⟨fun x h=>(by cases h),hS2,KeepsLow.refl _ _⟩,hi2,hj2⟩
    (fun pre x a' V=>∃ (bs:Nat),(((∀ x ∈ pre,worseT (c i j) (c (nxI x.k i) (nxJ x.k j)) (cst q x.k i j)=false)∧(StV w0 bq ba bp b6 ob N q (.slice A1 l1 n1) (.slice A2 l2 n2) (.slice A0 l.length cc) T ds V∧KeepsLow W2.heap.size W2 V))∧Blk V bi #[.int .i64 i] 3 ∧ Blk V bj #[.int .i64 j] 3)∧Blk V bs #[.int .i64 x.k,.int .i64 i,.int .i64 j] 56 ∧ ∃ v:Nat→Value,a'={ tmps:=(.agg #[.slice A1 l1 n1,.slice A2 l2 n2,.string (qT (2 * q.ch)),.string (qT (2 * q.mi)),.string (qT (2 * q.ga)),.string (qT (2 * q.re))] :: .agg #[.slice A0 l.length cc,.string T] :: .slice (some ⟨ob,0,none⟩) N N :: .pointer (some ⟨bq,0,none⟩) :: .pointer (some ⟨ba,0,none⟩) :: .pointer (some ⟨bp,0,none⟩) :: .pointer (some ⟨b6,0,none⟩) :: v 7 :: v 8 :: v 9 :: v 10 :: v 11 :: v 12 :: v 13 :: v 14 :: .pointer (some ⟨bi,0,none⟩) :: .pointer (some ⟨bj,0,none⟩) :: .pointer (some ⟨bs,0,none⟩) :: .string (qT (cst q x.k i j)) :: v 19 :: v 20 :: v 21 :: v 22 :: v 23 :: v 24 :: v 25 :: v 26 :: v 27 :: v 28 :: v 29 :: v 30 :: v 31 :: v 32 :: v 33 :: v 34 :: v 35 :: v 36 :: v 37 :: v 38 :: v 39 :: v 40 :: v 41 :: v 42 :: v 43 :: v 44 :: v 45 :: v 46 :: v 47 :: v 48 :: v 49 :: v 50 :: v 51 :: v 52 :: v 53 :: v 54 :: v 55 :: v 56 :: v 57 :: v 58 :: v 59 :: v 60 :: v 61 :: v 62 :: v 63 :: v 64 :: v 65 :: v 66 :: v 67 :: v 68 :: v 69 :: v 70 :: v 71 :: v 72 :: v 73 :: v 74 :: v 75 :: v 76 :: v 77 :: v 78 :: v 79 :: v 80 :: v 81 :: v 82 :: v 83 :: v 84 :: v 85 :: v 86 :: v 87 :: v 88 :: v 89 :: v 90 :: v 91 :: v 92 :: v 93 :: v 94 :: v 95 :: v 96 :: v 97 :: v 98 :: v 99 :: v 100 :: v 101 :: v 102 :: v 103 :: .int .i64 (N:Nat) :: .int .i64 (i:Nat) :: v 106 :: v 107 :: v 108 :: v 109 :: v 110 :: v 111 :: .int .i64 (M:Nat) :: .int .i64 (j:Nat) :: v 114 :: v 115 :: v 116 :: v 117 :: v 118 :: v 119 :: v 120 :: v 121 :: v 122 :: v 123 :: v 124 :: v 125 :: v 126 :: v 127 :: v 128 :: v 129 :: v 130 :: v 131 :: v 132 :: v 133 :: v 134 :: v 135 :: v 136 :: v 137 :: v 138 :: v 139 :: v 140 :: v 141 :: v 142 :: v 143 :: v 144 :: v 145 :: v 146 :: []).toArray,defers:=[] })
    (fun pre x a' s A B row h hg hr=>by
     obtain ⟨bs,h1,h2,h3⟩:=h
     exact ⟨bs,hI _ A B row h1 hg hr,ownFrom_cells (I:=fun (_:Unit) V=>Blk V bs #[.int .i64 x.k,.int .i64 i,.int .i64 j] 56) (fun _ V V' h k _=>h.keptC k trivial) _ () A B row h2 hg hr,h3⟩)
    ?assign ?body ?done ?stop
   case assign =>
    rintro l2' pre x V K ⟨⟨h0,h1,h2⟩,h3,h4⟩ hK
    have qv:=below_new V (.cells #[.int .i64 x.k,.int .i64 i,.int .i64 j] 56)
    have kv:=Blk.fresh V #[.int .i64 x.k,.int .i64 i,.int .i64 j] 56
    dsimp only [encS]
    gi_wp2
    exact hK _ _ (keepsFrom_below qv) (KeptC.below qv) ⟨V.heap.size,⟨⟨h0,h1.below qv,h2.trans (KeepsLow.of (keepsFrom_below qv))⟩,h3.below qv,h4.below qv⟩,kv,ex_frame (by kernel_rfl)⟩
   case body =>
    rintro l2' pre x a' V ⟨bs,⟨⟨h0,h1,h2⟩,h3,h4⟩,hb,v,rfl⟩ hlen
    have HNX:Hid (Ret Tryz.prog V 51 #[.agg #[.int .i64 x.k,.int .i64 i,.int .i64 j]] (.tuple #[.int .i64 (nxI x.k i:Nat),.int .i64 (nxJ x.k j:Nat)])):=Lib.hid (by
     have h:=cnext_any x.k i j (by have:=HL1.out; omega) (by have:=HL2.out; omega) V
     rw [nzI_nat,nzJ_nat x.k j x.h1] at h
     exact h)
    have d0:=hb.at_ 0 _ rfl
    have d1:=hb.at_ 1 _ rfl
    have d2:=hb.at_ 2 _ rfl
    have H0:=Lib.hid h0
    have H1:=Lib.hid h1
    have H2:=Lib.hid h2
    have H3:=Lib.hid h3
    have H4:=Lib.hid h4
    clear h0 h1 h2 h3 h4 hI hIx hS2 hi2 hj2 hStW hMf
    gi_wp2_with (first
     | ((first | refine ⟨trivial,fun h=>(by cases h),?_⟩ | refine ⟨trivial,?_⟩); with_reducible refine (CallsIn.inRound l2' (callsIn_wide.2 (HNX.out _ (Below.refl _ _)))).mono ?_; rintro e V1 ⟨rfl,qv⟩)
     | fail "arm")
    have h1:=H1.out.below qv
    have h2:=H2.out.trans (KeepsLow.of (keepsFrom_below qv))
    have KI:=Lib.hid (H3.out.below qv)
    have KJ:=Lib.hid (H4.out.below qv)
    have QV:=Lib.hid qv
    have hks:=x.h2
    have hmi:nxI x.k i≤q.L.length:=hks.1
    have hmj:nxJ x.k j≤q.R.length:=hks.2.1
    have hb2:=cst_bd q OK.out x.k i j
    have tab:=TAB.out.below h1.bb
    have l1':i < rb.length:=by have:=HRB.out; omega
    have l3:nxI x.k i < rb.length:=by have:=HRB.out; have:=HN.out; have:=HL1.out; omega
    have C30:=tab.cell1 i l1'
    rw [HR1.out] at C30
    have C3:=Lib.hid C30
    have C40:=tab.cell2 i j l1' hjlt
    rw [HR1.out] at C40
    have C4:=Lib.hid C40
    have LC40:=tab.lt2 rb[i] (List.getElem_mem l1')
    rw [HR1.out] at LC40
    have LC4:=Lib.hid LC40
    have C1:=Lib.hid (tab.cell1 (nxI x.k i) l3)
    have C2:=Lib.hid (tab.cell2 (nxI x.k i) (nxJ x.k j) l3 (by have:=HM.out; have:=HL2.out; omega))
    have LC2:=Lib.hid (tab.lt2 _ (List.getElem_mem l3))
    have LO:=Lib.hid tab.lt1
    have KP:=Lib.hid h1.kp
    have HE1:=HE.out.below h1.bb
    have HAD:=Lib.hid (addT_any (cst q x.k i j) (HRI.out i j hi hj) (HCS.out i j hi hj) (by omega) V1 HE1)
    obtain ⟨z,hz,hcm⟩:=cmpT_any (cst q x.k i j) (HRI.out i j hi hj) (HRI.out _ _ hmi hmj) (HCS.out i j hi hj) (HCS.out _ _ hmi hmj) (by omega) V1 HE1
    have HCM:=Lib.hid hcm
    obtain ⟨bw',hbw'⟩:∃ b,worseT (c i j) (c (nxI x.k i) (nxJ x.k j)) (cst q x.k i j)=b:=⟨_,rfl⟩
    rw [hbw'] at hz
    have HZD:=Lib.hid hz
    have HBW:=Lib.hid hbw'
    have hzz1:(nxI x.k i:Int) < (N:Int):=by have:=HN.out; have:=HL1.out; omega
    have hzz2:(nxJ x.k j:Int) < (M:Int):=by have:=HM.out; have:=HL2.out; omega
    have S1:=Lib.hid h1
    have L1:=Lib.hid h2
    clear h1 h2 H1 H2 H3 H4 qv hb2 hks hb d0 d1 d2 HNX HE1 tab C30 C40 LC40 hcm hz hbw' hmi hmj
    generalize rb[nxI x.k i]=r2 at *
    clear l3 l1'
    have HXK:Hid (okS q x.k i j∧x.k ∈ kinds):=Lib.hid ⟨x.h2,kinds_of x.h1⟩
    have HPX:Hid (bw'=false→∀ y ∈ pre ++ [x],worseT (c i j) (c (nxI y.k i) (nxJ y.k j)) (cst q y.k i j)=false):=Lib.hid (fun e y hy=>by
     rcases List.mem_append.1 hy with hy | hy
     ·exact H0.out y hy
     ·rw [List.mem_singleton] at hy
      subst hy
      rw [HBW.out]
      exact e)
    have HPB:Hid (bw'=true→badP q c):=Lib.hid (fun e=>⟨i,j,x.k,hi,hj,HXK.out.2,HXK.out.1,by rw [HBW.out]; exact e⟩)
    clear HBW HXK H0 hsz2
    generalize sumT (c i j) (cst q x.k i j)=tS at *
    generalize c (nxI x.k i) (nxJ x.k j)=tN at *
    generalize hta:c i j=tA at *
    generalize qT (cst q x.k i j)=co at *
    generalize nxI x.k i=mi at *
    generalize nxJ x.k j=mj at *
    have HTA:=Lib.hid hta
    clear hta
    refine wpIn_tab (.v 127 (.slice (some ⟨ob,0,none⟩) N N) :: .v 128 (.int .i64 mi) :: .v 129 (.pointer (some ⟨ob,mi,none⟩)) :: .v 130 (.slice (some ⟨r2,0,none⟩) M M) :: .v 131 (.int .i64 mj) :: .v 132 (.pointer (some ⟨r2,mj,none⟩)) :: .v 133 (.string tN) :: .v 134 (.slice (some ⟨ob,0,none⟩) N N) :: .v 135 (.int .i64 i) :: .v 136 (.pointer (some ⟨ob,i,none⟩)) :: .v 137 (.slice (some ⟨r1,0,none⟩) M M) :: .v 138 (.int .i64 j) :: .v 139 (.pointer (some ⟨r1,j,none⟩)) :: .v 140 (.string tA) :: .v 141 (.string co) :: .v 142 (.string tS) :: .v 143 (.int .i64 z) :: .v 144 (.bool bw') :: []) [] [⟨bp,#[.slice (some ⟨ob,0,none⟩) N N], 44, none⟩,⟨bi,#[.int .i64 i], 3, none⟩,⟨bj,#[.int .i64 j], 3, none⟩] [] [] [] [] [] (by kernel_rfl) (by intro hL; obtain ⟨_,_,hL⟩:=hL; exact hL.elim) (Below.refl _ _) ⟨KP.out,KI.out,KJ.out,trivial⟩ trivial ⟨ld 0 0,pu,?_,?_,pu,?_,?_,ld 0 0,ld 1 0,?_,?_,ld 2 0,?_,?_,pu,cl HAD.out,cl HCM.out,?_,trivial⟩ ?_
    ·intro L a U ho J hn dd KK kk; refine .free rfl ?_; have r127:=J.read 0 rfl (dd.get 0 rfl); have r128:=J.read 1 rfl (dd.get 1 rfl); go_simp; exact kk.out _ _ (J.st 2 rfl rfl)
    ·intro L a U ho J hn dd KK kk; refine .free rfl ?_; have r129:=J.read 2 rfl (dd.get 2 rfl); have e0:=(J.bb.cell (p:=⟨ob,mi,none⟩) LO.out).trans C1.out; go_simp; exact kk.out _ _ (J.st 3 rfl rfl)
    ·intro L a U ho J hn dd KK kk; refine .free rfl ?_; have r130:=J.read 3 rfl (dd.get 3 rfl); have r131:=J.read 4 rfl (dd.get 4 rfl); go_simp; exact kk.out _ _ (J.st 5 rfl rfl)
    ·intro L a U ho J hn dd KK kk; refine .free rfl ?_; have r132:=J.read 5 rfl (dd.get 5 rfl); have e0:=(J.bb.cell (p:=⟨r2,mj,none⟩) LC2.out).trans C2.out; go_simp; exact kk.out _ _ (J.st 6 rfl rfl)
    ·intro L a U ho J hn dd KK kk; refine .free rfl ?_; have r134:=J.read 7 rfl (dd.get 7 rfl); have r135:=J.read 8 rfl (dd.get 8 rfl); go_simp; exact kk.out _ _ (J.st 9 rfl rfl)
    ·intro L a U ho J hn dd KK kk; refine .free rfl ?_; have r136:=J.read 9 rfl (dd.get 9 rfl); have e0:=(J.bb.cell (p:=⟨ob,i,none⟩) LO.out).trans C3.out; go_simp; exact kk.out _ _ (J.st 10 rfl rfl)
    ·intro L a U ho J hn dd KK kk; refine .free rfl ?_; have r137:=J.read 10 rfl (dd.get 10 rfl); have r138:=J.read 11 rfl (dd.get 11 rfl); go_simp; exact kk.out _ _ (J.st 12 rfl rfl)
    ·intro L a U ho J hn dd KK kk; refine .free rfl ?_; have r139:=J.read 12 rfl (dd.get 12 rfl); have e0:=(J.bb.cell (p:=⟨r1,j,none⟩) LC4.out).trans C4.out; go_simp; exact kk.out _ _ (J.st 13 rfl rfl)
    ·intro L a U ho J hn dd KK kk; refine .free rfl ?_; have r143:=J.read 16 rfl (dd.get 16 rfl); have hz:=HZD.out; go_simp; exact kk.out _ _ (J.st 17 rfl rfl)
    rintro σ V9 _ _ _ _ B9
    simp only [slotsOf,finX,nval,nvalN,nvalA,Nat.reduceBEq,cond_true,cond_false,putAll,Act.put,List.setIfInBounds_toArray,List.set_cons_succ,List.set_cons_zero]
    have S9:=Lib.hid (S1.out.below B9.out)
    have kk:KeepsFrom 0 V V9:=(keepsFrom_below QV.out).trans (keepsFrom_below B9.out)
    have kc:KeptC (fun g _=>¬ False) V V9:=(KeptC.below QV.out).trans (KeptC.below B9.out)
    have KK9:=Lib.hid kk
    have KC9:=Lib.hid kc
    have KI9:=Lib.hid (KI.out.below B9.out)
    have KJ9:=Lib.hid (KJ.out.below B9.out)
    have L9:=Lib.hid (L1.out.trans (KeepsLow.of (keepsFrom_below B9.out)))
    clear kk kc KI KJ L1 S1 B9 HAD HCM C1 C2 C3 C4 LC2 LC4 LO KP HZD
    cases bw' with
    | false =>
     have HPX2:Hid (∀ y ∈ pre ++ [x],worseT (c i j) (c (nxI y.k i) (nxJ y.k j)) (cst q y.k i j)=false):=Lib.hid (by rw [HTA.out]; exact HPX.out rfl)
     clear HPX HPB
     gi_wp2
     exact ⟨KeepsFrom.mono KK9.out (Nat.zero_le _),KC9.out.mono (fun _ _ _ h=>h.elim),⟨HPX2.out,S9.out,L9.out⟩,KI9.out,KJ9.out⟩
    | true =>
     have HPB2:=Lib.hid (HPB.out rfl)
     clear HPX HPB
     have f6:=S9.out.k6.free 0
     have g6:=S9.out.k6.at_ 0 _ rfl
     gi_wp2
     have hE:=S9.out.lay 23
     have w1:=Wrote.set S9.out.k6 0 (.int .i64 23)
     exact ⟨KeepsFrom.mono (KK9.out.trans w1.keeps) (Nat.zero_le _),rfl,HPB2.out,hE,L9.out.trans (KeepsLow.of w1.keeps)⟩
   case done =>
    rintro D ys V hD rfl ⟨⟨h0,h1,h2⟩,h3,h4⟩ hK
    have S9:=Lib.hid (h1.marks (Marks.add hS2.mrk h1.mrk (by omega) hD hK))
    have KI:=Lib.hid h3
    have HG2:Hid (∀ i' j' k,i'≤q.L.length→j'≤q.R.length→(i' < i ∨ (i'=i∧j' < j + 1))→k ∈ kinds→okS q k i' j'→worseT (c i' j') (c (nxI k i') (nxJ k j')) (cst q k i' j')=false):=Lib.hid (fun i' j' k a1 a2 a3 a4 a5=>by
     by_cases e:i'=i∧j'=j
     ·obtain ⟨rfl,rfl⟩:=e
      obtain ⟨x,hx,rfl⟩:=upS_mem q i' j' k a4 a5
      exact h0 x hx
     ·exact HGD.out i' j' k a1 a2 (by omega) a4 a5)
    have w1:IntKind.i64.wrap ((j:Int) + 1)=(j:Int) + 1:=IntWalk.i64_in _ (by have:=HM.out; omega)
    clear hI hIx hS2 hi2 hj2 h0 h1 h2 h3 h4 hK
    go_wp2
    exact ⟨m - 1,by omega,hJ2 _ _ _ ⟨j + 1,_,ex_frame (by kernel_rfl),by omega,by omega,HG2.out,S9.out,KI.out⟩⟩
   case stop =>
    rintro D cd pre V hD hpre ⟨rfl,hbad,hE,hlow⟩ hK
    have hm9:=Marks.add hS2.mrk hE.mrk (by omega) hD hK
    have HV9:=Lib.hid (HV23.out hbad)
    have HE9:=Lib.hid hE
    have HM9:=Lib.hid hm9
    clear hI hIx hS2 hi2 hj2 hK hm9 hE
    go_wp2
    refine leaves_marks _ _ HM9.out (fun w' hm=>?_)
    have kc:KeptC (fun _ _=>True) _ w':=fun g cs t fz _ e=>hm.cells g cs t fz e
    have e0:=(HE9.out.k6.keptC kc trivial).at_ 0 _ rfl
    exact ⟨.int .i64 23,(by simp [results,Tryz.results35, go_sem,e0]),⟨23,rfl,HV9.out⟩,HE9.out.bb.trans hm.below⟩

end Go.Proofs.YthhkmihjnnfpgaaGreatDoor
