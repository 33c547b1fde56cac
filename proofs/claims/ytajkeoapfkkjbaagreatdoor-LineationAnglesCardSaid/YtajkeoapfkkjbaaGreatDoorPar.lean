/- A region that draws its order, by one invariant over what has come up: one obligation for each operation, whatever the number of orders. No program in sight. -/
import Derived.Test.YtajkeoapfkkjbaaGreatDoorBox
import Derived.Deep.RegionHeld3
namespace Go.Proofs.YtajkeoapfkkjbaaGreatDoor
set_option linter.all false
open Go.RowKit

/-- Slots written over. -/
def putAll (a : Act) : List Nat → List Value → Act
  | s :: ss, v :: vs => putAll (a.put (some s) v) ss vs
  | _, _ => a

/-- F of each operation and its number. -/
def AllOps (F : Nat → Oper → Prop) : Nat → List Oper → Prop
  | _, [] => True
  | k, o :: os => F k o ∧ AllOps F (k + 1) os

theorem AllOps.at_ {F : Nat → Oper → Prop} : ∀ (l : List Oper) (k i : Nat) (o : Oper), AllOps F k l → l[i]? = some o → F (k + i) o
  | [], _, i, _, _, h => by simp at h
  | a :: l, k, 0, o, h, e => by
    simp at e
    subst e
    exact h.1
  | a :: l, k, i + 1, o, h, e => by
    have := AllOps.at_ l (k + 1) i o h.2 (by simpa using e)
    rw [show k + (i + 1) = k + 1 + i by omega]
    exact this

/-- What an operation waits for has come up. -/
def Waited (L : Nat → Prop) : List Edge → Prop
  | [] => True
  | e :: es => (Region.binds .any e = true → L e.on) ∧ Waited L es

theorem Waited.of {L : Nat → Prop} : ∀ (l : List Edge), (∀ e ∈ l, Region.binds .any e = true → L e.on) → Waited L l
  | [], _ => trivial
  | e :: es, h => ⟨h e (List.mem_cons_self ..), Waited.of es (fun x hx => h x (List.mem_cons_of_mem _ hx))⟩

/-- The edges of a region lead back. -/
def backward (ops : Array Oper) : Bool := (List.range ops.size).all fun i => match ops[i]? with
  | none => true
  | some o => o.after.all fun e => !Region.binds .any e || decide (e.on < i)

theorem all_up {ops : Array Oper} (hb : backward ops = true) {listed : Array Bool} (hr : Region.ready .any ops listed = []) : ∀ (n i : Nat), i ≤ n → i < ops.size → listed.getD i true = true := by
  intro n
  induction n with
  | zero =>
    intro i hi hlt
    have e : i = 0 := by omega
    subst e
    by_cases h : listed.getD 0 true = true
    · exact h
    · exfalso
      have hm : 0 ∈ Region.ready .any ops listed := mem_ready.2 ⟨by simpa using h, ops[0], by simp [hlt], fun e he hbd => by
        have hx := List.all_eq_true.1 hb 0 (List.mem_range.2 hlt)
        rw [show ops[0]? = some ops[0] by simp [hlt]] at hx
        have := (Array.all_eq_true_iff_forall_mem.1 hx) e he
        rw [hbd] at this
        simp at this⟩
      rw [hr] at hm
      cases hm
  | succ n ih =>
    intro i hi hlt
    by_cases h : listed.getD i true = true
    · exact h
    · exfalso
      have hm : i ∈ Region.ready .any ops listed := mem_ready.2 ⟨by simpa using h, ops[i], by simp [hlt], fun e he hbd => by
        have hx := List.all_eq_true.1 hb i (List.mem_range.2 hlt)
        rw [show ops[i]? = some ops[i] by simp [hlt]] at hx
        have h1 := (Array.all_eq_true_iff_forall_mem.1 hx) e he
        have h2 : e.on < i := by
          rw [hbd] at h1
          simpa using h1
        have h3 := ih e.on (by omega) (by omega)
        have h4 : e.on < listed.size := by
          refine Classical.byContradiction fun h4 => h ?_
          simp [show ¬ i < listed.size by omega]
        simp [h4] at h3 ⊢
        exact h3⟩
      rw [hr] at hm
      exact absurd hm List.not_mem_nil

/-- What has come up. -/
def upL (listed : Array Bool) (k : Nat) : Prop := listed.getD k false = true

theorem upL_set (listed : Array Bool) (i : Nat) (hi : i < listed.size) : upL (listed.setIfInBounds i true) = fun k => upL listed k ∨ k = i := by
  funext k
  unfold upL
  apply propext
  by_cases h : k = i
  · subst h
    simp [hi]
  · have h' : i ≠ k := fun e => h e.symm
    simp only [h, or_false]
    simp [Array.getElem_setIfInBounds, h']

/-- What stands in a slot. -/
def slotOf (a : Act) (s : Nat) : Value := a.tmps[s]?.getD undef
def updS (σ : Nat → Value) (d : Option Nat) (v : Value) (s : Nat) : Value := match d with
  | none => σ s
  | some d => if s = d then v else σ s

/-- Nothing but the slots has been written. -/
structure OnlyAt (slots : List Nat) (a a' : Act) : Prop where
  defers : a'.defers = a.defers
  size : a'.tmps.size = a.tmps.size
  far : ∀ s, s ∉ slots → a'.tmps[s]? = a.tmps[s]?

theorem OnlyAt.slot {slots : List Nat} {a a' : Act} (h : OnlyAt slots a a') (s : Nat) (hs : slots.contains s = false) : a'.tmps[s]?.getD undef = a.tmps[s]?.getD undef := by
  rw [h.far s (by simpa using hs)]

theorem OnlyAt.put {slots : List Nat} {a a' : Act} (h : OnlyAt slots a a') (d : Option Nat) (v : Value) (hd : ∀ s, d = some s → s ∈ slots) : OnlyAt slots a (a'.put d v) := by
  cases d with
  | none => exact h
  | some s =>
    refine ⟨h.defers, by simp [Act.put, h.size], fun k hk => ?_⟩
    have : s ≠ k := fun e => hk (e ▸ hd s rfl)
    simp [Act.put, this]
    exact h.far k hk

theorem slotOf_put (a : Act) (d : Option Nat) (v : Value) (hd : ∀ s, d = some s → s < a.tmps.size) : slotOf (a.put d v) = updS (slotOf a) d v := by
  funext k
  cases d with
  | none => rfl
  | some s =>
    have hs := hd s rfl
    unfold slotOf updS
    by_cases h : k = s
    · subst h
      simp [Act.put, hs]
    · have h' : s ≠ k := fun e => h e.symm
      simp [Act.put, h, h']

theorem putAll_defers : ∀ (slots : List Nat) (vs : List Value) (a : Act), (putAll a slots vs).defers = a.defers
  | [], _, _ => rfl
  | _ :: _, [], _ => rfl
  | s :: ss, v :: vs, a => putAll_defers ss vs (a.put (some s) v)

theorem putAll_at (σ : Nat → Value) (k : Nat) : ∀ (slots : List Nat) (a : Act), (∀ s ∈ slots, s < a.tmps.size) →
    (putAll a slots (slots.map σ)).tmps[k]? = if k ∈ slots then some (σ k) else a.tmps[k]?
  | [], a, _ => by simp [putAll]
  | s :: ss, a, h => by
    have hs := h s (List.mem_cons_self ..)
    have ih := putAll_at σ k ss (a.put (some s) (σ s)) (fun x hx => by simpa [Act.put] using h x (List.mem_cons_of_mem _ hx))
    show (putAll (a.put (some s) (σ s)) ss (ss.map σ)).tmps[k]? = _
    rw [ih]
    by_cases h1 : k ∈ ss
    · simp [h1]
    · by_cases h2 : k = s
      · subst h2
        simp [h1, Act.put, hs]
      · have h3 : s ≠ k := fun e => h2 e.symm
        simp [h1, h2, Act.put, h3]

theorem OnlyAt.eq {slots : List Nat} {a a' : Act} (h : OnlyAt slots a a') (hs : ∀ s ∈ slots, s < a.tmps.size) : a' = putAll a slots (slots.map (slotOf a')) := by
  have hd := putAll_defers slots (slots.map (slotOf a')) a
  have ht : (putAll a slots (slots.map (slotOf a'))).tmps = a'.tmps := by
    apply Array.ext_getElem?
    intro k
    rw [putAll_at (slotOf a') k slots a hs]
    by_cases hk : k ∈ slots
    · have hlt : k < a'.tmps.size := by rw [h.size]; exact hs k hk
      unfold slotOf
      simp [hk, hlt]
    · rw [if_neg hk, h.far k hk]
  generalize putAll a slots (slots.map (slotOf a')) = b at *
  cases b with
  | mk t d =>
    cases a' with
    | mk t' d' =>
      simp only at hd ht
      rw [ht, hd, ← h.defers]

/-- Each operation writes one of the slots or none. -/
def plainOps (ops : Array Oper) (slots : List Nat) : Bool := ops.all fun o => (match o.dst with | none => true | some d => slots.contains d)

/-- p where the operation's guard lets it by, q where it does not. -/
def Wants (ops : Array Oper) (σ : Nat → Value) (o : Oper) (p q : Prop) : Prop := match o.guard with
  | none => p
  | some (j, want) => ∃ s b, (ops[j]?.bind fun x => x.dst) = some s ∧ σ s = .bool b ∧ (b = want → p) ∧ (b ≠ want → q)

theorem Wants.free {ops : Array Oper} {σ : Nat → Value} {o : Oper} {p q : Prop} (hg : o.guard = none) (h : p) : Wants ops σ o p q := by
  unfold Wants
  rw [hg]
  exact h
theorem Wants.pos {ops : Array Oper} {σ : Nat → Value} {o : Oper} {p q : Prop} {j s : Nat} {b : Bool} (hg : o.guard = some (j, b)) (hs : (ops[j]?.bind fun x => x.dst) = some s) (hb : σ s = .bool b) (h : p) : Wants ops σ o p q := by
  unfold Wants
  rw [hg]
  exact ⟨s, b, hs, hb, fun _ => h, fun hn => absurd rfl hn⟩
theorem Wants.neg {ops : Array Oper} {σ : Nat → Value} {o : Oper} {p q : Prop} {j s : Nat} {b : Bool} (hg : o.guard = some (j, !b)) (hs : (ops[j]?.bind fun x => x.dst) = some s) (hb : σ s = .bool b) (h : q) : Wants ops σ o p q := by
  unfold Wants
  rw [hg]
  exact ⟨s, b, hs, hb, fun e => absurd e (by cases b <;> simp), fun _ => h⟩
theorem slot_some {a : Act} {s : Nat} {b : Bool} (h : slotOf a s = .bool b) : a.tmps[s]? = some (.bool b) := by
  unfold slotOf at h
  cases hs : a.tmps[s]? with
  | none => rw [hs] at h; cases h
  | some v => rw [hs] at h; exact congrArg some h

/-! What the slots of a region hold, by lists: the slots that its operations write, and what they write. -/

theorem old {L : Nat → Prop} {P : Prop} {k i : Nat} (f : L k → P) (hne : (k == i) = false) (h : L k ∨ k = i) : P := f (h.resolve_right (by simpa using hne))

theorem Waited.get {L : Nat → Prop} : ∀ {l : List Edge}, Waited L l → ∀ (k : Nat), (l.any fun e => Region.binds .any e && e.on == k) = true → L k
  | [], _, k, h => by simp at h
  | e :: es, hw, k, h => by
    rw [List.any_cons, Bool.or_eq_true, Bool.and_eq_true] at h
    rcases h with ⟨h1, h2⟩ | h
    · exact eq_of_beq h2 ▸ hw.1 h1
    · exact Waited.get hw.2 k h

def Vals (ds : List (Option Nat)) (vs : List Value) (L : Nat → Prop) (σ : Nat → Value) : Prop := ∀ k s v, ds[k]? = some (some s) → vs[k]? = some v → L k → σ s = v

/-- No other operation writes the slot s. -/
def lone (ds : List (Option Nat)) (i s : Nat) : Bool := (List.range ds.length).all fun k => k == i || ds[k]? != some (some s)

theorem lone.ne {ds : List (Option Nat)} {i s : Nat} (h : lone ds i s = true) {k : Nat} (hk : k ≠ i) : ds[k]? ≠ some (some s) := fun e => by
  have hlt : k < ds.length := (List.getElem?_eq_some_iff.1 e).1
  have := List.all_eq_true.1 h k (List.mem_range.2 hlt)
  simp [hk, e] at this

theorem Vals.start {ds : List (Option Nat)} {vs : List Value} {σ : Nat → Value} : Vals ds vs (fun _ => False) σ := fun _ _ _ _ _ h => h.elim

theorem Vals.set {ds : List (Option Nat)} {vs : List Value} {L : Nat → Prop} {σ : Nat → Value} (V : Vals ds vs L σ) (i s : Nat) (v : Value) (hd : ds[i]? = some (some s)) (hv : vs[i]? = some v) (h : lone ds i s = true) :
    Vals ds vs (fun k => L k ∨ k = i) (updS σ (some s) v) := fun k s' v' e1 e2 hL => by
  by_cases hk : k = i
  · subst hk
    rw [e1] at hd
    rw [e2] at hv
    injection hd with hd
    injection hd with hd
    injection hv with hv
    subst hd
    subst hv
    unfold updS
    simp
  · have hs : s' ≠ s := fun e => lone.ne h hk (e ▸ e1)
    unfold updS
    simp [hs]
    exact V k s' v' e1 e2 (hL.resolve_right hk)

theorem Vals.apart {ds : List (Option Nat)} {vs : List Value} {L : Nat → Prop} {σ : Nat → Value} (V : Vals ds vs L σ) (i s : Nat) (v : Value) (hd : ds[i]? = some none) (h : lone ds i s = true) :
    Vals ds vs (fun k => L k ∨ k = i) (updS σ (some s) v) := fun k s' v' e1 e2 hL => by
  have hk : k ≠ i := fun e => by rw [e, hd] at e1; cases e1
  have hs : s' ≠ s := fun e => lone.ne h hk (e ▸ e1)
  unfold updS
  simp [hs]
  exact V k s' v' e1 e2 (hL.resolve_right hk)

theorem Vals.same {ds : List (Option Nat)} {vs : List Value} {L : Nat → Prop} {σ : Nat → Value} (V : Vals ds vs L σ) (i : Nat) (v : Value) (hd : ds[i]? = some none) : Vals ds vs (fun k => L k ∨ k = i) (updS σ none v) := fun k s' v' e1 e2 hL => by
  have hk : k ≠ i := fun e => by rw [e, hd] at e1; cases e1
  exact V k s' v' e1 e2 (hL.resolve_right hk)

theorem Vals.read {ds : List (Option Nat)} {vs : List Value} {L : Nat → Prop} {a : Act} (V : Vals ds vs L (slotOf a)) (k : Nat) {s : Nat} {v : Value} (hd : ds[k]? = some (some s)) (hv : vs[k]? = some v) (hL : L k) : a.tmps[s]?.getD undef = v := V k s v hd hv hL

/-- The world, or the world with one draw: found by itself. -/
class NearI (w w1 : World) : Prop where
  near : Near w w1
instance NearI.same (w : World) : NearI w w := ⟨Near.same w⟩
instance NearI.one (w : World) : NearI w w.drew := ⟨Near.one w⟩
theorem Blk.nearI {w w1 w' : World} {b : Nat} {cs : Array Value} {T : TypeId} (h : Blk w b cs T) [e : NearI w w1] (q : Below w1.heap.size w1 w') : Blk w' b cs T := h.near e.near q
theorem baseI {w0 w w1 : World} {B : Nat} [h : NearI w w1] (b : Below B w0 w) : Below B w0 w1 := Near.base h.near b
theorem goI {w0 w w1 w2 : World} [h : NearI w w1] (b : Below w0.heap.size w0 w) (q : Below w1.heap.size w1 w2) : Below w0.heap.size w0 w2 := Near.go h.near b q b.size

section
variable {P : Program} {ops : Array Oper} {Q : Exit → Act → World → Prop} {a0 : Act} {slots : List Nat} {J : (Nat → Prop) → (Nat → Value) → World → Prop}

theorem wpAny_par (hb : backward ops = true) (hp : plainOps ops slots = true) (hin : ∀ s ∈ slots, s < a0.tmps.size)
    (hstep : ∀ L a w, OnlyAt slots a0 a → J L (slotOf a) w → ∀ i o, ops[i]? = some o → ¬ L i → (∀ e ∈ o.after, Region.binds .any e = true → L e.on) →
      ∀ K' : Act → World → Prop, (∀ v w', J (fun k => L k ∨ k = i) (updS (slotOf a) o.dst v) w' → K' (a.put o.dst v) w') → Wants ops (slotOf a) o (Oper.wp P o a w K' Q) (J (fun k => L k ∨ k = i) (updS (slotOf a) o.dst undef) w))
    (hend : ∀ L a w, OnlyAt slots a0 a → J L (slotOf a) w → (∀ i, i < ops.size → L i) → Q .normal a w) :
    ∀ (fuel : Nat) (listed : Array Bool) (a : Act) (w : World), OnlyAt slots a0 a → listed.size = ops.size → listed.toList.count false ≤ fuel → J (upL listed) (slotOf a) w →
      wpAny P .any ops Q fuel listed a w := by
  intro fuel
  have done : ∀ (listed : Array Bool) (a : Act) (w : World), OnlyAt slots a0 a → listed.size = ops.size → J (upL listed) (slotOf a) w → Region.ready .any ops listed = [] → Q .normal a w := by
    intro listed a w ho hs hJ hr
    refine hend _ a w ho hJ (fun i hi => ?_)
    have := all_up hb hr i i (Nat.le_refl _) hi
    unfold upL
    have h2 : i < listed.size := by omega
    simp [h2] at this ⊢
    exact this
  induction fuel with
  | zero =>
    intro listed a w hoa hs hc hJ
    have hall : ∀ i, i < ops.size → listed.getD i true = true := fun i hi => by
      have h2 : i < listed.size := by omega
      simp [h2]
      have h3 : false ∉ listed.toList := List.count_eq_zero.1 (by omega)
      cases h4 : listed[i] with
      | true => rfl
      | false => exact absurd (by rw [← h4]; exact Array.getElem_mem_toList h2) h3
    have hr : Region.ready .any ops listed = [] := by
      cases h : Region.ready .any ops listed with
      | nil => rfl
      | cons i l =>
        exfalso
        have hm : i ∈ Region.ready .any ops listed := by rw [h]; exact List.mem_cons_self ..
        obtain ⟨h1, o, ho, _⟩ := mem_ready.1 hm
        have := hall i (Array.getElem?_eq_some_iff.1 ho).1
        rw [this] at h1
        cases h1
    exact ⟨hr, done listed a w hoa hs hJ hr⟩
  | succ fuel ih =>
    intro listed a w hoa hs hc hJ
    refine ⟨fun hr => done listed a w hoa hs hJ hr, fun i hi => ?_⟩
    obtain ⟨h1, o, ho, hd⟩ := mem_ready.1 hi
    have hlt : i < listed.size := by rw [hs]; exact (Array.getElem?_eq_some_iff.1 ho).1
    have hn : ¬ upL listed i := fun h => by
      unfold upL at h
      simp [hlt] at h h1
      rw [h] at h1
      cases h1
    have hpo := (Array.all_eq_true_iff_forall_mem.1 hp) o (Array.mem_of_getElem? ho)
    have hds : ∀ s, o.dst = some s → s ∈ slots := fun s e => by
      rw [e] at hpo
      simpa using hpo
    refine wpOp_step ho (fun K' hK => ?_)
    have step : ∀ v w', J (fun k => upL listed k ∨ k = i) (updS (slotOf a) o.dst v) w' → K' (a.put o.dst v) w' := fun v w' hJ' => hK _ _ (by
      refine ih (listed.setIfInBounds i true) _ w' (hoa.put o.dst v hds) (by simp [hs]) ?_ ?_
      · rw [Array.toList_setIfInBounds, List.count_set (by simpa using hlt)]
        have h2 : listed.toList[i]'(by simpa using hlt) = false := by
          simp [hlt] at h1
          simpa using h1
        rw [h2]
        have h3 : 0 < listed.toList.count false := List.count_pos_iff.2 (by rw [← h2]; exact List.getElem_mem _)
        rw [if_pos (by rfl), if_neg (by simp)]
        omega
      · rw [upL_set listed i hlt, slotOf_put a o.dst v (fun s e => by rw [hoa.size]; exact hin s (hds s e))]
        exact hJ')
    have h := hstep (upL listed) a w hoa hJ i o ho hn hd K' step
    unfold Wants at h
    unfold Region.wanted
    cases hg : o.guard with
    | none =>
      rw [hg] at h
      exact h
    | some g =>
      obtain ⟨j, want⟩ := g
      rw [hg] at h
      obtain ⟨s, b, h1, h2, h3, h4⟩ := h
      have h5 : yielded ops a.tmps j = some b := by
        unfold yielded
        rw [h1]
        show (match (a.tmps[s]?) with | some (Value.bool b) => some b | _ => none) = some b
        rw [slot_some h2]
      show if (yielded ops a.tmps j == some want) = true then _ else _
      rw [h5]
      by_cases hb : b = want
      · rw [if_pos (by rw [hb]; simp)]
        exact h3 hb
      · rw [if_neg (by simpa using hb)]
        exact step undef w (h4 hb)

/-- A region that draws its order: J holds at the start; each operation keeps it. -/
theorem wp_region_par {id : Nat} {a : Act} {w : World} (hm : P.follows .mixedOrders = true) (slots : List Nat) (J : (Nat → Prop) → (Nat → Value) → World → Prop) (hb : backward ops = true) (hp : plainOps ops slots = true)
    (hin : (slots.all fun s => decide (s < a.tmps.size)) = true) (h0 : ∀ σ, J (fun _ => False) σ w.drew)
    (hstep : AllOps (fun i o => ∀ L a' w', OnlyAt slots a a' → J L (slotOf a') w' → ¬ L i → Waited L o.after.toList →
      ∀ K' : Act → World → Prop, Hid (∀ v w'', J (fun k => L k ∨ k = i) (updS (slotOf a') o.dst v) w'' → K' (a'.put o.dst v) w'') → Wants ops (slotOf a') o (Oper.wp P o a' w' K' Q) (J (fun k => L k ∨ k = i) (updS (slotOf a') o.dst undef) w')) 0 ops.toList)
    (hend : ∀ L σ w', J L σ w' → (∀ i, i < ops.size → L i) → Q .normal (putAll a slots (slots.map σ)) w') : (Code.region id ops true).wp P Q a w := by
  refine wp_region_any hm ?_
  have hin' : ∀ s ∈ slots, s < a.tmps.size := fun s hs => by simpa using List.all_eq_true.1 hin s hs
  exact wpAny_par (P := P) (Q := Q) (a0 := a) (slots := slots) (J := J) hb hp hin' (fun L a' w' hoa hJ i o ho hn hd K' hK => by
    have := AllOps.at_ ops.toList 0 i o hstep (by simpa using ho)
    rw [Nat.zero_add] at this
    exact this L a' w' hoa hJ hn (Waited.of _ (by simpa using hd)) K' hK)
    (fun L a' w' hoa hJ hL => by rw [hoa.eq hin']; exact hend L _ w' hJ hL) ops.size (Array.replicate ops.size false) a w.drew ⟨rfl, rfl, fun _ _ => rfl⟩ (by simp) (by simp) (by
      have e : upL (Array.replicate ops.size false) = fun _ => False := by
        funext k
        unfold upL
        apply propext
        by_cases h : k < ops.size <;> simp [h]
      rw [e]
      exact h0 _)
end

end Go.Proofs.YtajkeoapfkkjbaaGreatDoor
