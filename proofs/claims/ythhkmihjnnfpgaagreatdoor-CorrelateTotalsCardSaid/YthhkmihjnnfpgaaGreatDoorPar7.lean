/- Drawn regions whose calls make rows of unknown room: tables with parameters that are settled on the way. No program in sight. -/
import Derived.Test.YthhkmihjnnfpgaaGreatDoorPar6
namespace Go.Proofs.YthhkmihjnnfpgaaGreatDoor
set_option linter.all false
open Go.RowKit

def ObX {ι : Type} (P : Program) (ops : Array Oper) (Q : Exit → Act → World → Prop) (a0 : Act) (slots : List Nat) (w : World) (B : Nat) (tb : List Row) (ns : ι → List NB) (eb : List EB) (al : List AL) (od dl : List (Nat × Nat)) (pl : List (Nat × Nat × Value)) (i : Nat) (o : Oper) : Prop :=
 ∀ L a' w', OnlyAt slots a0 a' → (∃ x, RJ w B tb (ns x) eb al od dl pl L (slotOf a') w') → ¬ L i → Waited L o.after.toList →
  ∀ K' : Act → World → Prop, Hid (∀ v w'', (∃ x, RJ w B tb (ns x) eb al od dl pl (fun k => L k ∨ k = i) (updS (slotOf a') o.dst v) w'') → K' (a'.put o.dst v) w'') → Wants ops (slotOf a') o (Oper.wp P o a' w' K' Q) (∃ x, RJ w B tb (ns x) eb al od dl pl (fun k => L k ∨ k = i) (updS (slotOf a') o.dst undef) w')
section
variable {ι : Type} {P : Program} {ops : Array Oper} {Q : Exit → Act → World → Prop} {w : World}
theorem Wants.mono {ops : Array Oper} {σ : Nat → Value} {o : Oper} {p p' q q' : Prop} (h : Wants ops σ o p q) (hp : p → p') (hq : q → q') : Wants ops σ o p' q' := by
 unfold Wants at *
 cases hg : o.guard with
 | none => rw [hg] at h; exact hp h
 | some g =>
  obtain ⟨j, want⟩ := g
  rw [hg] at h
  obtain ⟨s, v, h1, h2, h3, h4⟩ := h
  exact ⟨s, v, h1, h2, fun e => hp (h3 e), fun e => hq (h4 e)⟩
theorem obX {a0 : Act} {slots : List Nat} {B : Nat} {tb : List Row} {ns : ι → List NB} {eb : List EB} {al : List AL} {od dl : List (Nat × Nat)} {pl : List (Nat × Nat × Value)} {i : Nat} {o : Oper}
  (h : ∀ x, Ob P ops Q a0 slots w B tb (ns x) eb al od dl pl true i o) : ObX P ops Q a0 slots w B tb ns eb al od dl pl i o := by
 intro L a U ho ⟨x, J⟩ hn hd K' hK
 exact (h x L a U ho J hn hd K' (Lib.hid (fun v w'' h2 => hK.out v w'' ⟨x, h2⟩))).mono id (fun h => ⟨x, h⟩)
theorem RJ.rebase {B : Nat} {tb : List Row} {ns ns' : List NB} {eb : List EB} {al : List AL} {od dl : List (Nat × Nat)} {pl : List (Nat × Nat × Value)} {L : Nat → Prop} {σ : Nat → Value} {U : World} (J : RJ w B tb ns eb al od dl pl L σ U)
  (h : ∀ (i : Nat) (x' : NB), ns'[i]? = some x' → ∃ x, ns[i]? = some x ∧ x.k = x'.k ∧ x.s = x'.s ∧ (L x'.k → x' = x)) : RJ w B tb ns' eb al od dl pl L σ U :=
 ⟨J.vals, fun i x' hx hL => by
  obtain ⟨x, h1, h2, h3, h4⟩ := h i x' hx
  have := h4 hL
  subst this
  exact J.news i x' h1 hL, J.elds, J.als, J.ord, fun i p x' y' hp hx hy hL hL' => by
  obtain ⟨x, h1, h2, h3, h4⟩ := h p.1 x' hx
  obtain ⟨y, g1, g2, g3, g4⟩ := h p.2 y' hy
  rw [← h3, ← g3]
  exact J.dis i p x y hp h1 g1 (by rw [h2]; exact hL) (by rw [g2]; exact hL'), J.pre, J.sz, J.low, J.bb⟩
theorem wpAny_tabX {a : Act} {V : World} (x0 : ι) (tb : List Row) (ns : ι → List NB) (eb : List EB) (al : List AL) (od dl xd : List (Nat × Nat)) (pl : List (Nat × Nat × Value)) (hc : ∀ x, ckT P ops a.tmps.size tb (ns x) eb al dl xd true = true)
  (hb : Below w.heap.size w V) (he : EldAll V eb) (hp : PreAll (slotOf a) pl) (hops : AllOps (ObX P ops Q a (slotsOf tb) w V.heap.size tb ns eb al od dl pl) 0 ops.toList)
  (hend : ∀ x σ W, FinN σ w W (ns x) → FinE W eb → FinX σ (ns x) eb xd → FinD σ (ns x) dl → Hid (Below w.heap.size w W) → Q .normal (putAll a (slotsOf tb) (finX (ns x) al σ tb)) W) : wpAny P .any ops Q ops.size (Array.replicate ops.size false) a V.drew := by
 have fin : ∀ L σ W, (∃ x, RJ w V.heap.size tb (ns x) eb al od dl pl L σ W) → (∀ i, i < ops.size → L i) → Q .normal (putAll a (slotsOf tb) ((slotsOf tb).map σ)) W := by
  rintro L σ W ⟨x1, J⟩ hL
  have hc := hc x1
  have hend := hend x1
  generalize ns x1 = ns at *
  unfold ckT at hc
  simp only [Bool.and_eq_true] at hc
  obtain ⟨q1, q2, q3, q4, q5, q6, q7, q8, q9⟩ := hc
  have hlen := Nat.eq_of_beq_eq_true q4
  have hst : ∀ x ∈ ns, L x.k ∧ ∀ p, x.st = some p → L p.1 := fun x hx => by
   have := List.all_eq_true.1 q5 x hx
   simp only [Bool.and_eq_true] at this
   refine ⟨hL _ (blt_lt this.1), fun p hp => hL _ ?_⟩
   have h2 := this.2
   rw [hp] at h2
   exact blt_lt h2
  have hnew : ∀ x ∈ ns, match x.st with
   | none => NewB (σ x.s) V.heap.size W x.m x.cs x.T
   | some p => NewB (σ x.s) V.heap.size W x.m p.2 x.T := fun x hx => by
   obtain ⟨i, hi1, hi2⟩ := List.mem_iff_getElem.1 hx
   have hi : ns[i]? = some x := by rw [List.getElem?_eq_getElem hi1, hi2]
   have := J.news i x hi (hst x hx).1
   obtain ⟨k, s, m, cs, T, st⟩ := x
   cases st with
   | none => exact this
   | some p => exact this.2 ((hst _ hx).2 p rfl)
  have hnew' : ∀ j, j < ns.length → V.heap.size ≤ blkOf (σ (nbS ns j)) := fun j hj => by
   have hx := List.getElem_mem hj
   have := hnew _ hx
   unfold nbS
   rw [List.getElem?_eq_getElem hj]
   generalize ns[j] = x at *
   obtain ⟨k, s, m, cs, T, st⟩ := x
   cases st with
   | none => exact this.low
   | some p => exact this.low
  rw [finX_eq J tb 0 (fun k => by rw [Nat.zero_add]) (fun k hk => hL k (by omega)) (fun k d p hk hv => by
    have h1 := List.all_eq_true.1 q9 _ (List.mem_of_getElem? hk)
    simp only [okRow] at h1
    have hf := nval_fst ns al (fun _ => undef) σ d
    rw [hv] at hf
    cases h2 : nval ns al (fun _ => undef) d with
    | none => rw [h2] at hf; cases hf
    | some p' =>
     rw [h2] at h1 hf
     simp only [Option.map_some, Option.some.injEq] at hf
     rw [← hf]
     exact hL _ (blt_lt h1))
   (fun k d hk hv => by
    have h1 := List.all_eq_true.1 q9 _ (List.mem_of_getElem? hk)
    simp only [okRow] at h1
    have hf := nval_fst ns al (fun _ => undef) σ d
    rw [hv] at hf
    cases h2 : nval ns al (fun _ => undef) d with
    | none => rw [h2] at h1; cases h1
    | some p' => rw [h2] at hf; cases hf)]
  refine hend σ W (finN_of V.heap.size J.low ns hnew) (finE_of eb fun x hx => ?_) (finX_of fun p hp => ?_) (finD_of fun p hp => ?_) (Lib.hid J.bb)
  ·obtain ⟨i, hi1, hi2⟩ := List.mem_iff_getElem.1 hx
   have hi : eb[i]? = some x := by rw [List.getElem?_eq_getElem hi1, hi2]
   have := J.elds i x hi
   have h6 := List.all_eq_true.1 q6 x hx
   obtain ⟨e, cs, T, st⟩ := x
   cases st with
   | none => exact this
   | some p => exact this.2 (hL _ (blt_lt h6))
  ·have h7 := List.all_eq_true.1 q7 p hp
   simp only [Bool.and_eq_true] at h7
   have l1 := blt_lt h7.1
   have l2 := hnew' p.2 (blt_lt h7.2)
   have hx : eb[p.1]? = some eb[p.1] := List.getElem?_eq_getElem l1
   have := (he.at_ p.1 _ hx).lt
   unfold ebE
   rw [hx]
   show (eb[p.1]).e ≠ _
   omega
  ·have h8 := List.all_eq_true.1 q8 p hp
   simp only [Bool.and_eq_true] at h8
   have l1 := blt_lt h8.1
   have l2 := blt_lt h8.2
   have hx : ns[p.1]? = some ns[p.1] := List.getElem?_eq_getElem l1
   have hy : ns[p.2]? = some ns[p.2] := List.getElem?_eq_getElem l2
   obtain ⟨u, hu1, hu2⟩ := List.mem_iff_getElem.1 hp
   have := J.dis u p _ _ (by rw [List.getElem?_eq_getElem hu1, hu2]) hx hy (hst _ (List.getElem_mem l1)).1 (hst _ (List.getElem_mem l2)).1
   unfold nbS
   rw [hx, hy]
   exact this
 have hc := hc x0
 unfold ckT at hc
 simp only [Bool.and_eq_true] at hc
 obtain ⟨q1, q2, q3, _⟩ := hc
 simp only [Bool.not_true, Bool.false_or, Bool.and_eq_true] at q1
 exact wpAny_par2 (slotsOf tb) (fun L σ U => ∃ x, RJ w V.heap.size tb (ns x) eb al od dl pl L σ U) q1.2 q2 q3 ⟨x0, RJ.drew (RJ.start rfl hb he hp)⟩ hops fin
theorem wpIn_phaseX {F : Fence} (hF : Fair F) {n id : Nat} {w : World} {a : Act} {V : World} (x0 : ι) (f k : Nat) (tb : List Row) (ns : ι → List NB) (eb : List EB) (al : List AL) (od dl xd : List (Nat × Nat)) (pl : List (Nat × Nat × Value))
  (hc0 : ∀ x, ckT P (takeO ops k) a.tmps.size tb (ns x) eb al dl xd true = true) (hc : (noDefer ops && P.follows .mixedOrders && closedO ops f k && backward ops && guardsLow ops k && decide (k ≤ ops.size) && seqO ops k) = true)
  (hL : ¬ LetsOut Q) (hb : Below w.heap.size w V) (he : EldAll V eb) (hp : PreAll (slotOf a) pl) (hops : AllOps (ObX P (takeO ops k) (tailQ F n P ops Q k) a (slotsOf tb) w V.heap.size tb ns eb al od dl pl) 0 (takeO ops k).toList)
  (hend : ∀ x σ W, FinN σ w W (ns x) → FinE W eb → FinX σ (ns x) eb xd → FinD σ (ns x) dl → Hid (Below w.heap.size w W) → wpListIn F n P ops Q (ops.toList.drop k) (putAll a (slotsOf tb) (finX (ns x) al σ tb)) W) : (Code.region id ops true).wpIn F n P Q a V := by
 simp only [Bool.and_eq_true] at hc
 obtain ⟨⟨⟨⟨⟨⟨c2, c3⟩, c4⟩, c5⟩, c6⟩, c7⟩, c8⟩ := hc
 have hk := of_decide_eq_true c7
 have h := wpAny_tabX (Q := tailQ F n P ops Q k) x0 tb ns eb al od dl xd pl hc0 hb he hp hops hend
 rw [takeO_size hk] at h
 refine wpIn_region_any c3 ?_
 have h2 := anyIn_phase (Q := Q) (Q' := tailQ F n P ops Q k) hF (n := n) c2 c4 c5 hk c6 (fun _ _ _ hh => hh) (fun ⟨a, w, hh⟩ => hL ⟨a, w, hh⟩)
  (fun a w hh => anyIn_seq (ops.size - k) k a w (by omega) (fun d hd => by
   have := List.all_eq_true.1 c8 d (List.mem_range.2 hd)
   exact eq_of_beq this) hh)
  k (Array.replicate k false) (Array.replicate ops.size false) a V.drew ⟨by simp, by simp, fun j hj => by simp [hj, show j < ops.size by omega], fun j hj hj2 => by simp [hj2]⟩
  (fun i hi => by
   rw [Array.getD_eq_getD_getElem?, Array.getElem?_replicate] at hi
   split at hi <;> cases hi) (by simp) h
 rw [show k + (ops.size - k) = ops.size by omega] at h2
 exact h2
end

end Go.Proofs.YthhkmihjnnfpgaaGreatDoor
