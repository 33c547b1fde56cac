/- A region that draws its order and ends in an append that is assigned. No program in sight. -/
import Derived.Test.YtopilnlniidejaaGreatDoorGPar
import Derived.Test.YtopilnlniidejaaGreatDoorApp
namespace Go.Proofs.YtopilnlniidejaaGreatDoor
set_option linter.all false
open Go.RowKit

def edge (ops : Array Oper) (j i : Nat) : Bool := match ops[j]? with
 | some o => o.after.toList.any fun e => Region.binds .any e && e.on == i
 | none => false
def pathOk (ops : Array Oper) (k : Nat) : List Nat → List Nat → Bool
 | _, [] => true
 | known, i :: r => (edge ops k i || known.any fun j => edge ops j i) && pathOk ops k (i :: known) r
def Down (ops : Array Oper) (L : Nat → Prop) : Prop := ∀ i o, ops[i]? = some o → L i → Waited L o.after.toList
theorem path_up {ops : Array Oper} {L : Nat → Prop} {k : Nat} {o : Oper} (hd : Down ops L) (ho : ops[k]? = some o) (hw : Waited L o.after.toList) : ∀ (todo known : List Nat), (∀ j ∈ known, L j) → pathOk ops k known todo = true → ∀ i ∈ todo, L i
 | [], _, _, _, i, hi => by cases hi
 | x :: r, known, hk, h, i, hi => by
  unfold pathOk at h
  simp only [Bool.and_eq_true, Bool.or_eq_true] at h
  have hx : L x := by
   rcases h.1 with h1 | h1
   ·unfold edge at h1
    rw [ho] at h1
    exact hw.get x h1
   ·obtain ⟨j, hj, h2⟩ := List.any_eq_true.1 h1
    unfold edge at h2
    cases hoj : ops[j]? with
    | none => rw [hoj] at h2; cases h2
    | some oj =>
     rw [hoj] at h2
     exact (hd j oj hoj (hk j hj)).get x h2
  rcases List.mem_cons.1 hi with rfl | hi
  ·exact hx
  ·exact path_up hd ho hw r (x :: known) (fun j hj => by rcases List.mem_cons.1 hj with rfl | hj; exact hx; exact hk j hj) h.2 i hi
theorem Waited.mono {L L' : Nat → Prop} (h : ∀ k, L k → L' k) : ∀ {l : List Edge}, Waited L l → Waited L' l
 | [], _ => trivial
 | _ :: _, hw => ⟨fun hb => h _ (hw.1 hb), Waited.mono h hw.2⟩
theorem Down.more {ops : Array Oper} {L : Nat → Prop} {i : Nat} {o : Oper} (hd : Down ops L) (ho : ops[i]? = some o) (hw : Waited L o.after.toList) : Down ops (fun k => L k ∨ k = i) := by
 intro j oj hj hL
 rcases hL with hL | rfl
 ·exact (hd j oj hj hL).mono fun k hk => .inl hk
 ·rw [ho] at hj
  cases hj
  exact hw.mono fun k hk => .inl hk

theorem allOps_of {F : Nat → Oper → Prop} : ∀ (l : List Oper) (k : Nat), (∀ i o, l[i]? = some o → F (k + i) o) → AllOps F k l
 | [], _, _ => trivial
 | o :: r, k, h => ⟨by have := h 0 o rfl; simpa using this, allOps_of r (k + 1) fun i x hx => by have := h (i + 1) x (by simpa using hx); rw [show k + (i + 1) = k + 1 + i by omega] at this; exact this⟩
def ckP (P : Program) (ops : Array Oper) (n : Nat) (tb : List Row) (ns : List NB) (eb : List EB) (al : List AL) (dl xd : List (Nat × Nat)) (clo : List Nat) (sa sb : Nat) : Bool :=
 P.follows .mixedOrders && (backward ops && (plainOps ops (slotsOf tb ++ [sa, sb]) && (((slotsOf tb ++ [sa, sb]).all fun s => decide (s < n)) && (Nat.beq (tb.length + 2) ops.size && ((ns.all fun x => Nat.blt x.k tb.length && (x.st.all fun p => Nat.blt p.1 tb.length)) && ((eb.all fun x => x.st.all fun p => Nat.blt p.1 tb.length) &&
  ((xd.all fun p => Nat.blt p.1 eb.length && Nat.blt p.2 ns.length) && ((dl.all fun p => Nat.blt p.1 ns.length && Nat.blt p.2 ns.length) && ((tb.all fun r => okRow ns al tb.length r) && (pathOk ops tb.length [] clo && (((List.range tb.length).all fun i => clo.contains i) &&
  (((slotsOf tb).all fun s => s != sa && s != sb) && (sa != sb && ((List.range tb.length).all fun i => match ops[i]? with
   | some o => o.dst != some sa && o.dst != some sb
   | none => true))))))))))))))
section
variable {P : Program} {ops : Array Oper} {Q : Exit → Act → World → Prop} {w V U : World} {tb : List Row} {ns : List NB} {eb : List EB} {al : List AL} {od dl xd : List (Nat × Nat)} {pl : List (Nat × Nat × Value)} {σ : Nat → Value} {L : Nat → Prop}
theorem RJ.final (J : RJ w V.heap.size tb ns eb al od dl pl L σ U) (he : EldAll V eb) (hL : ∀ i, i < tb.length → L i) (q5 : (ns.all fun x => Nat.blt x.k tb.length && (x.st.all fun p => Nat.blt p.1 tb.length)) = true)
  (q6 : (eb.all fun x => x.st.all fun p => Nat.blt p.1 tb.length) = true) (q7 : (xd.all fun p => Nat.blt p.1 eb.length && Nat.blt p.2 ns.length) = true) (q8 : (dl.all fun p => Nat.blt p.1 ns.length && Nat.blt p.2 ns.length) = true)
  (q9 : (tb.all fun r => okRow ns al tb.length r) = true) : (slotsOf tb).map σ = finX ns al σ tb ∧ FinN σ w U ns ∧ FinE U eb ∧ FinX σ ns eb xd ∧ FinD σ ns dl ∧ Hid (Below w.heap.size w U) := by
 have hst : ∀ x ∈ ns, L x.k ∧ ∀ p, x.st = some p → L p.1 := fun x hx => by
  have := List.all_eq_true.1 q5 x hx
  simp only [Bool.and_eq_true] at this
  refine ⟨hL _ (blt_lt this.1), fun p hp => hL _ ?_⟩
  have h2 := this.2
  rw [hp] at h2
  exact blt_lt h2
 have hnew : ∀ x ∈ ns, match x.st with
  | none => NewB (σ x.s) V.heap.size U x.m x.cs x.T
  | some p => NewB (σ x.s) V.heap.size U x.m p.2 x.T := fun x hx => by
  obtain ⟨i, hi1, hi2⟩ := List.mem_iff_getElem.1 hx
  have hi : ns[i]? = some x := by rw [List.getElem?_eq_getElem hi1, hi2]
  have := J.news i x hi (hst x hx).1
  obtain ⟨k, s, m, cs, T, st⟩ := x
  cases st with
  | none => exact this
  | some p => exact this.2 ((hst _ hx).2 p rfl)
 have hnew' : ∀ j, j < ns.length → V.heap.size ≤ blkOf (σ (nbS ns j)) := fun j hj => by
  have hx := List.getElem_mem hj
  have := hnew _ hx
  unfold nbS
  rw [List.getElem?_eq_getElem hj]
  generalize ns[j] = x at *
  obtain ⟨k, s, m, cs, T, st⟩ := x
  cases st with
  | none => exact this.low
  | some p => exact this.low
 have nv : ∀ (k d : Nat), tb[k]? = some (.n d) → ∃ p, nval ns al σ d = some p ∧ L p.1 := fun k d hk => by
  have h1 := List.all_eq_true.1 q9 _ (List.mem_of_getElem? hk)
  simp only [okRow] at h1
  have hf := nval_fst ns al (fun _ => undef) σ d
  cases h2 : nval ns al (fun _ => undef) d with
  | none => rw [h2] at h1; cases h1
  | some p' =>
   rw [h2] at h1 hf
   cases h3 : nval ns al σ d with
   | none => rw [h3] at hf; cases hf
   | some p =>
    rw [h3] at hf
    simp only [Option.map_some, Option.some.injEq] at hf
    exact ⟨p, rfl, by rw [← hf]; exact hL _ (blt_lt h1)⟩
 refine ⟨finX_eq J tb 0 (fun k => by rw [Nat.zero_add]) (fun k hk => hL k (by omega)) (fun k d p hk hv => ?_) (fun k d hk hv => ?_), finN_of V.heap.size J.low ns hnew, finE_of eb fun x hx => ?_, finX_of fun p hp => ?_, finD_of fun p hp => ?_, Lib.hid J.bb⟩
 ·obtain ⟨p', h1, h2⟩ := nv k d hk
  rw [hv] at h1
  cases h1
  exact h2
 ·obtain ⟨p', h1, _⟩ := nv k d hk
  rw [hv] at h1
  cases h1
 ·obtain ⟨i, hi1, hi2⟩ := List.mem_iff_getElem.1 hx
  have hi : eb[i]? = some x := by rw [List.getElem?_eq_getElem hi1, hi2]
  have := J.elds i x hi
  have h6 := List.all_eq_true.1 q6 x hx
  obtain ⟨e, cs, T, st⟩ := x
  cases st with
  | none => exact this
  | some p => exact this.2 (hL _ (blt_lt h6))
 ·have h7 := List.all_eq_true.1 q7 p hp
  simp only [Bool.and_eq_true] at h7
  have l1 := blt_lt h7.1
  have l2 := hnew' p.2 (blt_lt h7.2)
  have hx : eb[p.1]? = some eb[p.1] := List.getElem?_eq_getElem l1
  have := (he.at_ p.1 _ hx).lt
  unfold ebE
  rw [hx]
  show (eb[p.1]).e ≠ _
  omega
 ·have h8 := List.all_eq_true.1 q8 p hp
  simp only [Bool.and_eq_true] at h8
  have l1 := blt_lt h8.1
  have l2 := blt_lt h8.2
  have hx : ns[p.1]? = some ns[p.1] := List.getElem?_eq_getElem l1
  have hy : ns[p.2]? = some ns[p.2] := List.getElem?_eq_getElem l2
  obtain ⟨u, hu1, hu2⟩ := List.mem_iff_getElem.1 hp
  have := J.dis u p _ _ (by rw [List.getElem?_eq_getElem hu1, hu2]) hx hy (hst _ (List.getElem_mem l1)).1 (hst _ (List.getElem_mem l2)).1
  unfold nbS
  rw [hx, hy]
  exact this

theorem wp_tab_app {id : Nat} {a : Act} (tb : List Row) (ns : List NB) (eb : List EB) (al : List AL) (od dl xd : List (Nat × Nat)) (pl : List (Nat × Nat × Value)) (clo : List Nat) (sa sb : Nat) (oa ob : Oper)
  (hc : ckP P ops a.tmps.size tb ns eb al dl xd clo sa sb = true) (h1 : ops[tb.length]? = some oa) (h2 : ops[tb.length + 1]? = some ob) (g1 : oa.guard = none) (g2 : ob.guard = none) (d1 : oa.dst = some sa) (d2 : ob.dst = some sb) (p2 : ob.op = .assign (.tmp sa)) (w2 : edge ops (tb.length + 1) tb.length = true)
  (hb : Below w.heap.size w V) (he : EldAll V eb) (hp : PreAll (slotOf a) pl) (hops : AllOps (Ob P ops Q a (slotsOf tb) w V.heap.size tb ns eb al od dl pl true) 0 (ops.toList.take tb.length))
  (hend : ∀ σ W, FinN σ w W ns → FinE W eb → FinX σ ns eb xd → FinD σ ns dl → Hid (Below w.heap.size w W) →
   ∃ v W', (execOp (putAll a (slotsOf tb) (finX ns al σ tb)).eval oa).run P W = .ok (.value v) W' ∧ Q .normal (((putAll a (slotsOf tb) (finX ns al σ tb)).put (some sa) v).put (some sb) v) W') : (Code.region id ops true).wp P Q a V := by
 unfold ckP at hc
 simp only [Bool.and_eq_true] at hc
 obtain ⟨q1, q2, q3, q4, q45, q5, q6, q7, q8, q9, qa, qb, qc, qd, qe⟩ := hc
 have hlen : tb.length + 2 = ops.size := Nat.eq_of_beq_eq_true q45
 have hne : sa ≠ sb := by simpa using qd
 have hns : ∀ s ∈ slotsOf tb, s ≠ sa ∧ s ≠ sb := fun s hs => by
  have := List.all_eq_true.1 qc s hs
  simpa using this
 have hall : ∀ s ∈ slotsOf tb ++ [sa, sb], s < a.tmps.size := fun s hs => by simpa using List.all_eq_true.1 q4 s hs
 -- the invariant
 let J : (Nat → Prop) → (Nat → Value) → World → Prop := fun L σ U => Down ops L ∧
  ((¬ L tb.length ∧ ¬ L (tb.length + 1) ∧ σ sa = slotOf a sa ∧ σ sb = slotOf a sb ∧ RJ w V.heap.size tb ns eb al od dl pl L σ U) ∨
   (L tb.length ∧ ¬ L (tb.length + 1) ∧ ∃ (a1 : Act) (v : Value), putAll a (slotsOf tb ++ [sa, sb]) ((slotsOf tb ++ [sa, sb]).map σ) = a1.put (some sa) v ∧ σ sa = v ∧ Q .normal ((a1.put (some sa) v).put (some sb) v) U) ∨
   (L tb.length ∧ L (tb.length + 1) ∧ Q .normal (putAll a (slotsOf tb ++ [sa, sb]) ((slotsOf tb ++ [sa, sb]).map σ)) U))
 refine wp_region_par2 q1 (slotsOf tb ++ [sa, sb]) J q2 q3 q4 ?_ ?_ ?_
 ·exact ⟨fun i o _ h => h.elim, .inl ⟨fun h => h, fun h => h, rfl, rfl, RJ.drew (RJ.start rfl hb he hp)⟩⟩
 ·have key : ∀ i o, ops[i]? = some o → ∀ L a' w', OnlyAt (slotsOf tb ++ [sa, sb]) a a' → J L (slotOf a') w' → ¬ L i → Waited L o.after.toList →
   ∀ K' : Act → World → Prop, Hid (∀ v w'', J (fun k => L k ∨ k = i) (updS (slotOf a') o.dst v) w'' → K' (a'.put o.dst v) w'') → Wants ops (slotOf a') o (Oper.wp P o a' w' K' Q) (J (fun k => L k ∨ k = i) (updS (slotOf a') o.dst undef) w') := by
   intro i o hio L a' w' hoa hJ hn hw K hK
   obtain ⟨hD, hJ⟩ := hJ
   have hD' := hD.more hio hw
   have hi : i < ops.size := (Array.getElem?_eq_some_iff.1 hio).1
   -- with what is untouched of the last two slots, only the tables' slots have been written
   have only : slotOf a' sa = slotOf a sa → slotOf a' sb = slotOf a sb → OnlyAt (slotsOf tb) a a' := fun ea eb' => by
    refine ⟨hoa.defers, hoa.size, fun s hs => ?_⟩
    by_cases e1 : s = sa
    ·subst e1
     have l1 := hall s (by simp)
     unfold slotOf at ea
     rw [Array.getElem?_eq_getElem l1, Array.getElem?_eq_getElem (by rw [hoa.size]; exact l1)] at ea ⊢
     simpa using ea
    ·by_cases e2 : s = sb
     ·subst e2
      have l1 := hall s (by simp)
      unfold slotOf at eb'
      rw [Array.getElem?_eq_getElem l1, Array.getElem?_eq_getElem (by rw [hoa.size]; exact l1)] at eb' ⊢
      simpa using eb'
     ·exact hoa.far s (by simp [hs, e1, e2])
   by_cases e1 : i = tb.length
   ·subst e1
    rw [h1] at hio
    cases hio
    rcases hJ with ⟨n1, n2, ea, eb', hR⟩ | ⟨l1, _⟩ | ⟨l1, _⟩
    ·have hL : ∀ i, i < tb.length → L i := fun i hi => by
      have := List.all_eq_true.1 qb i (List.mem_range.2 hi)
      exact path_up hD h1 hw clo [] (fun j hj => by cases hj) qa i (by simpa using this)
     obtain ⟨f1, f2, f3, f4, f5, f6⟩ := hR.final he hL q5 q6 q7 q8 q9
     obtain ⟨v, W', hrun, hQ⟩ := hend (slotOf a') w' f2 f3 f4 f5 f6
     have ho := only ea eb'
     have hin : ∀ s ∈ slotsOf tb, s < a.tmps.size := fun s hs => hall s (by simp [hs])
     have ea' : a' = putAll a (slotsOf tb) (finX ns al (slotOf a') tb) := by rw [← f1]; exact ho.eq hin
     refine .free g1 ?_
     unfold Oper.wp
     rw [← ea'] at hrun hQ
     rw [hrun]
     refine hK.out v W' ⟨hD', .inr (.inl ⟨.inr rfl, fun h => ?_, a', v, ?_, ?_, hQ⟩)⟩
     ·rcases h with h | h
      ·exact n2 h
      ·omega
     ·rw [d1]
      have ho2 := hoa.put (some sa) v (fun s e => by cases e; simp)
      have := ho2.eq hall
      rw [slotOf_put a' (some sa) v (fun s e => by cases e; rw [hoa.size]; exact hall _ (by simp))] at this
      exact this.symm
     ·rw [d1]
      exact upd_same
    ·exact absurd l1 hn
    ·exact absurd l1 hn
   ·by_cases e2 : i = tb.length + 1
    ·subst e2
     rw [h2] at hio
     cases hio
     rcases hJ with ⟨n1, _⟩ | ⟨l1, n2, a1, v, ef, ev, hQ⟩ | ⟨_, l2, _⟩
     ·exfalso
      unfold edge at w2
      rw [h2] at w2
      exact n1 (hw.get _ w2)
     ·refine .free g2 ?_
      unfold Oper.wp execOp
      rw [p2]
      have hv : a'.eval (.tmp sa) = v := by
       show a'.tmps.getD sa undef = v
       rw [Array.getD_eq_getD_getElem?]
       exact ev
      simp only [Sem.run_pure, hv]
      refine hK.out v w' ⟨hD', .inr (.inr ⟨.inl l1, .inr rfl, ?_⟩)⟩
      have ho2 := hoa.put (some sb) v (fun s e => by cases e; simp)
      have e3 := ho2.eq hall
      rw [slotOf_put a' (some sb) v (fun s e => by cases e; rw [hoa.size]; exact hall _ (by simp))] at e3
      rw [d2, ← e3]
      have e4 : a' = a1.put (some sa) v := by rw [← ef]; exact hoa.eq hall
      rw [e4]
      exact hQ
     ·exact absurd l2 hn
    ·have hlt : i < tb.length := by omega
     rcases hJ with ⟨n1, n2, ea, eb', hR⟩ | ⟨l1, _⟩ | ⟨l1, _⟩
     ·have hO := AllOps.at_ _ 0 i o hops (by rw [List.getElem?_take, if_pos hlt, Array.getElem?_toList]; exact hio)
      rw [Nat.zero_add] at hO
      have hd : o.dst ≠ some sa ∧ o.dst ≠ some sb := by
       have := List.all_eq_true.1 qe i (List.mem_range.2 hlt)
       rw [hio] at this
       simpa using this
      have keep : ∀ (s : Nat) (v : Value), o.dst ≠ some s → updS (slotOf a') o.dst v s = slotOf a' s := fun s v hs => by
       cases hdst : o.dst with
       | none => rfl
       | some d =>
        rw [hdst] at hs
        exact upd_other (fun e => hs (by rw [e]))
      have mk : ∀ v w'', RJ w V.heap.size tb ns eb al od dl pl (fun k => L k ∨ k = i) (updS (slotOf a') o.dst v) w'' → J (fun k => L k ∨ k = i) (updS (slotOf a') o.dst v) w'' := fun v w'' hr =>
       ⟨hD', .inl ⟨fun h => by rcases h with h | h; exact n1 h; omega, fun h => by rcases h with h | h; exact n2 h; omega, by rw [keep sa v hd.1, ea], by rw [keep sb v hd.2, eb'], hr⟩⟩
      have hW := hO L a' w' (only ea eb') hR hn hw K (Lib.hid fun v w'' hr => hK.out v w'' (mk v w'' hr))
      unfold Wants at hW ⊢
      cases hg : o.guard with
      | none => rw [hg] at hW; exact hW
      | some gd =>
       obtain ⟨j, want⟩ := gd
       rw [hg] at hW
       obtain ⟨s, b, k1, k2, k3, k4⟩ := hW
       exact ⟨s, b, k1, k2, k3, fun h => mk undef w' (k4 h)⟩
     ·exfalso
      have hL : ∀ i, i < tb.length → L i := fun i hi => by
       have := List.all_eq_true.1 qb i (List.mem_range.2 hi)
       exact path_up hD h1 (hD _ _ h1 l1) clo [] (fun j hj => by cases hj) qa i (by simpa using this)
      exact hn (hL i hlt)
     ·exfalso
      have hL : ∀ i, i < tb.length → L i := fun i hi => by
       have := List.all_eq_true.1 qb i (List.mem_range.2 hi)
       exact path_up hD h1 (hD _ _ h1 l1) clo [] (fun j hj => by cases hj) qa i (by simpa using this)
      exact hn (hL i hlt)
  exact allOps_of ops.toList 0 fun i o hio => by
   rw [Nat.zero_add]
   exact key i o (by simpa using hio)
 ·intro L σ W hJ hL
  rcases hJ.2 with ⟨n1, _⟩ | ⟨_, n2, _⟩ | ⟨_, _, hQ⟩
  ·exact absurd (hL _ (by omega)) n1
  ·exact absurd (hL _ (by omega)) n2
  ·exact hQ
end

section
variable {P : Program} {t e : TypeId} {sz bytes : Nat} {o : Oper} {a : Act} {W : World} {K : Value → World → Prop}
theorem blk_cells {b : Nat} {l : List Value} {T : TypeId} (h : Blk W b l.toArray T) : ∀ j u, l[j]? = some u → W.cell? ((⟨b, 0, none⟩ : Addr).add j) = some u := by
 intro j u hj
 have ha : (⟨b, 0, none⟩ : Addr).add j = ⟨b, j, none⟩ := by
  unfold Addr.add
  split <;> simp_all
 rw [ha]
 exact h.atL j u hj
theorem app0_k (E : StrElem P t e sz bytes) (s x : Operand) (ho : o.op = .call { callee := .builtin .append, args := #[s, x], argTypes := #[t, t] }) (hs : a.eval s = .slice none 0 0) {b : Nat} (news : List Value) (hn : news.length = sz)
  (hx : a.eval x = .slice (some ⟨b, 0, none⟩) 1 1) (hb : Blk W b news.toArray e) (h1 : ∀ u ∈ news, u.oneCell' = true)
  (h : ∀ g c r w', Blk w' g (news ++ r).toArray e → W.heap.size ≤ g → Room 1 c sz news r → W.grownBy w' none → K (.slice (some ⟨g, 0, none⟩) 1 c) w') : ∃ v W', (execOp a.eval o).run P W = .ok (.value v) W' ∧ K v W' := by
 obtain ⟨i, z, hi, hz, hzs, hsz, hby⟩ := E.parts
 have hsm := E.small
 obtain ⟨v', w', hr, h2, h3, _, _⟩ := run_append_own_at (P := P) W W.heap.size t o.type e i z sz bytes E.ht hi hz hsz hby hzs E.pos (.slice none 0 0) 0 [] (World.ownsRow_nil _ _ _ _) ⟨b, 0, none⟩ 1 1 news (by omega) (blk_cells hb) h1 (by simp only [maxLen]; omega) (by omega) (Nat.le_refl _)
 refine ⟨v', w', ?_, ?_⟩
 ·unfold execOp
  simp only [ho, resolve, invoke, builtin, Sem.run_bind, Sem.run_pure, Result.andThen_ok, List.map_toArray, List.map_cons, List.map_nil, hs, hx, hr]
 ·rcases h2.2 with ⟨_, hn0⟩ | ⟨g, cap, cur, rfl, hg, hh, hle, hc, hcs, ht⟩
  ·omega
  ·have hcur : cur = (news ++ cur.toList.drop (1 * sz)).toArray := by
    have e1 : cur.toList = news ++ cur.toList.drop (1 * sz) := by
     conv => lhs; rw [← List.take_append_drop (1 * sz) cur.toList]
     rw [Nat.zero_add] at ht
     rw [ht]
     rfl
    rw [← e1]
   refine h g cap (cur.toList.drop (1 * sz)) w' ?_ hg ⟨by omega, ?_, by omega, hc⟩ h3
   ·rw [← hcur]
    exact hh
   ·have := congrArg Array.size hcur
    simp only [List.size_toArray] at this
    rw [← this, hcs]
theorem appN_k (E : StrElem P t e sz bytes) (s x : Operand) (ho : o.op = .call { callee := .builtin .append, args := #[s, x], argTypes := #[t, t] }) {d n c : Nat} (hs : a.eval s = .slice (some ⟨d, 0, none⟩) n c) (l r : List Value) (hl : Blk W d (l ++ r).toArray e) (hr : Room n c sz l r) (hn1 : n ≤ 1000000)
  {b : Nat} (news : List Value) (hn : news.length = sz) (hx : a.eval x = .slice (some ⟨b, 0, none⟩) 1 1) (hb : Blk W b news.toArray e) (h1 : ∀ u ∈ news, u.oneCell' = true)
  (h : ∀ g c' r' w', Blk w' g (l ++ news ++ r').toArray e → (g = d ∨ W.heap.size ≤ g) → Room (n + 1) c' sz (l ++ news) r' → W.grownBy w' (some d) → K (.slice (some ⟨g, 0, none⟩) (n + 1) c') w') : ∃ v W', (execOp a.eval o).run P W = .ok (.value v) W' ∧ K v W' := by
 obtain ⟨i, z, hi, hz, hzs, hsz, hby⟩ := E.parts
 have hsm := E.small
 have hown : W.ownsRow 0 e sz (.slice (some ⟨d, 0, none⟩) n c) n l := by
  refine ⟨hr.len, .inr ⟨d, c, (l ++ r).toArray, rfl, Nat.zero_le _, hl, hr.le, hr.max, by simpa using hr.all, ?_⟩⟩
  rw [← hr.len]
  simp
 have hbytes : (n + 1) * bytes ≤ 140737488355328 := by
  have : (n + 1) * bytes ≤ 1000001 * 1000 := Nat.mul_le_mul (by omega) hsm
  omega
 obtain ⟨v', w', hrun, h2, h3, _, h5⟩ := run_append_own_at (P := P) W 0 t o.type e i z sz bytes E.ht hi hz hsz hby hzs E.pos _ n l hown ⟨b, 0, none⟩ 1 1 news (by omega) (blk_cells hb) h1 (by simp only [maxLen]; omega) hbytes (Nat.zero_le _)
 refine ⟨v', w', ?_, ?_⟩
 ·unfold execOp
  simp only [ho, resolve, invoke, builtin, Sem.run_bind, Sem.run_pure, Result.andThen_ok, List.map_toArray, List.map_cons, List.map_nil, hs, hx, hrun]
 ·rcases h2.2 with ⟨_, hn0⟩ | ⟨g, cap, cur, rfl, hg, hh, hle, hc, hcs, ht⟩
  ·omega
  ·have hcur : cur = (l ++ news ++ cur.toList.drop ((n + 1) * sz)).toArray := by
    have e1 : cur.toList = l ++ news ++ cur.toList.drop ((n + 1) * sz) := by
     conv => lhs; rw [← List.take_append_drop ((n + 1) * sz) cur.toList]
     rw [ht]
    rw [← e1]
   refine h g cap (cur.toList.drop ((n + 1) * sz)) w' ?_ ?_ ⟨?_, ?_, by omega, hc⟩ h3
   ·rw [← hcur]
    exact hh
   ·simp only [Value.ownBlock, Option.some.injEq] at h5
    rcases h5 with h5 | h5
    ·exact .inl h5
    ·exact .inr (by omega)
   ·rw [List.length_append, hr.len, hn, Nat.add_mul]
    omega
   ·have := congrArg Array.size hcur
    simp only [List.size_toArray] at this
    rw [← this, hcs]
end

end Go.Proofs.YtopilnlniidejaaGreatDoor
