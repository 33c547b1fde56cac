/- A region that draws its order, inside a round of a range over a function: walked by the plain words, in the wide fence. No program in sight. -/
import Derived.StillTailTactics
import Derived.OrdersIn
import Derived.RangeFuncCalls
import Derived.TacticsIn
import Derived.WalkKit
namespace Go.Proofs.YtmkeigfckfkifaaDoor
open Go.RowKit

section
variable {P : Program} {ops : Array Oper} {Q : Exit → Act → World → Prop} {md : Region.Mode}

theorem rowsIn_round {l n : Nat} {row : String} {args : Array Value} {w : World} {R : Value → World → Prop} (h : Rows P row args w R) : RowsIn (Fence.wide.inRound l) n P row args w R :=
  fun c cs _ => let ⟨v, w', r, s⟩ := h c cs; ⟨v, w', r, stepsIn_wide.2 s⟩

theorem opIn_of_op {l n : Nat} {o : Oper} {a : Act} {w : World} {K K' : Act → World → Prop} (hnd : ∀ c, o.op ≠ .defer c) (hK : ∀ a w, K a w → K' a w) (h : o.wp P a w K Q) : o.wpIn (Fence.wide.inRound l) n P a w K' Q := by
  refine ⟨fun _ _ => trivial, ?_⟩
  rw [show (Fence.wide.inRound l).round = some l from rfl, Oper.semAt_some l _ _ hnd]
  unfold Oper.wp at h
  generalize (execOp a.eval o).run P w = r at *
  have hdep : (Fence.wide.inRound l).depth.isSome = true → 1 ≤ n := fun hd => by cases hd
  cases r with
  | ok x w' =>
    cases x
    case value v => exact hK _ _ h
    case skip => exact hK _ _ h
    case defer d => exact hK _ _ h
    case enter f args =>
      refine ⟨hdep, CallsIn.inRound l (callsIn_wide.2 (Calls.mono h ?_))⟩
      intro e w'' he
      cases e with
      | returned v => exact hK _ _ he
      | panicked c => exact he
      | outgrown => exact he
    case row row args => exact ⟨hdep, rowsIn_round (fun c cs => let ⟨v, w', r, s⟩ := h c cs; ⟨v, w', hK _ _ r, s⟩)⟩
    all_goals exact h.elim
  | halt x w' => cases x <;> exact h

/-- No operation is a defer statement. -/
def noDefer (ops : Array Oper) : Bool := ops.toList.all fun o => match o.op with
  | .defer _ => false
  | _ => true

theorem noDefer_spec (h : noDefer ops = true) {i : Nat} {o : Oper} (ho : ops[i]? = some o) : ∀ c, o.op ≠ .defer c := by
  intro c hc
  have hm : o ∈ ops.toList := by
    rw [Array.mem_toList_iff]
    exact Array.mem_of_getElem? ho
  have := List.all_eq_true.1 h o hm
  rw [hc] at this
  cases this

theorem anyIn_of_any {l n : Nat} (hd : noDefer ops = true) (hL : ¬ LetsOut Q) : ∀ (fuel : Nat) (listed : Array Bool) (a : Act) (w : World),
    wpAny P md ops Q fuel listed a w → wpAnyIn (Fence.wide.inRound l) n P md ops Q fuel listed a w := by
  intro fuel
  induction fuel with
  | zero => intro listed a w h; exact h
  | succ fuel ih =>
    intro listed a w h
    refine ⟨h.1, fun i hi => ?_⟩
    have h2 := h.2 i hi
    unfold wpOp at h2
    unfold wpOpIn
    cases ho : ops[i]? with
    | none => simp only [ho] at h2 ⊢; exact ih _ _ _ h2
    | some o =>
      simp only [ho] at h2 ⊢
      by_cases hw : Region.wanted o (yielded ops a.tmps) = true
      · simp only [hw, if_true] at h2 ⊢
        rcases h2 with h2 | h2
        · exact opIn_of_op (noDefer_spec hd ho) (fun a w => ih _ a w) h2
        · exact (hL h2.2).elim
      · simp only [hw] at h2 ⊢
        exact ⟨fun _ _ => trivial, ih _ _ _ h2⟩

/-- The head of the region only reads; its tail is a chain: in a round. -/
theorem wpIn_region_still_tail {lp m : Nat} {id : Nat} {a : Act} {w : World} {l : List Oper} (n : Nat) (hm : P.follows .mixedOrders = true) (hB : Region.lexTailB .any l.toArray n = true)
    (hnd : noDefer l.toArray = true) (hL : ¬ LetsOut Q)
    (h : wpStill P l.toArray { w with drawn := w.drawn + 1 } (fun a' => wpList P l.toArray Q (l.drop n) a' { w with drawn := w.drawn + 1 }) (l.take n) a) : (Code.region id l.toArray true).wpIn (Fence.wide.inRound lp) m P Q a w := by
  simp only [Region.lexTailB, Bool.and_eq_true, decide_eq_true_eq] at hB
  obtain ⟨⟨⟨⟨hsel, hn⟩, hs⟩, hc⟩, hlex⟩ := hB
  have hn' : n < l.length := by simpa using hn
  have htl : (l.take n).length = n := by simp; omega
  have hdl : (l.drop n).length = l.toArray.size - n := by simp
  have inv0 : HeadInv .any l.toArray n (Array.replicate l.toArray.size false) :=
    ⟨by simp, fun j oj _ hl => (by rw [getD_replicate_false] at hl; cases hl), fun t _ ht => getD_in (by simpa using ht) (getD_replicate_false _ _)⟩
  have H := wpAnyL_lex (md := .any) (g := l.toArray.size - n) hsel hs hc hn (l.take n) 0 _ a (fun j hj => by
    have hj' : j < n := by rw [htl] at hj; exact hj
    simp [hj']) (by simpa using htl) inv0 (by rw [htl]; exact hlex) h
  refine wpIn_region_any hm (anyIn_of_any hnd hL _ _ _ _ ?_)
  have := wpAny_of_head (Q' := Q) (g := l.toArray.size - n) (fun listed a' hL => by
    have := wpAny_of_seq (md := .any) (Q' := Q) (l.drop n) n listed a' { w with drawn := w.drawn + 1 } (fun j => by simp [List.getElem?_drop]) (by rw [hdl]; exact hL.1) hL.2
    rwa [hdl] at this) _ _ _ H
  rw [htl, show n + (l.toArray.size - n) = l.toArray.size by omega] at this
  exact this
/-- An end that is reached in the ordinary way alone. -/
def OnlyN (Q : Exit → Act → World → Prop) : Exit → Act → World → Prop
  | .normal, a, w => Q .normal a w
  | _, _, _ => False

theorem onlyN_le : ∀ (e : Exit) (a : Act) (w : World), OnlyN Q e a w → Q e a w
  | .normal, _, _, h => h
  | .ret, _, _, h => h.elim
  | .exit _, _, _, h => h.elim
  | .goto _, _, _, h => h.elim
  | .panic _, _, _, h => h.elim
  | .outgrown, _, _, h => h.elim
end

end Go.Proofs.YtmkeigfckfkifaaDoor
