/- Regions by one invariant, whatever their order; blocks that they make and write. -/
import Derived.Test.YtopilnlniidejaaGreatDoorBox
import Derived.Deep.RegionHeld3
/- A region that draws its order, by one invariant over what has come up: one obligation for each operation, whatever the number of orders. No program in sight. -/
namespace Go.Proofs.YtopilnlniidejaaGreatDoor
set_option linter.all false
open Go.RowKit

/-- Slots written over. -/
def putAll (a : Act) : List Nat → List Value → Act
  | s :: ss, v :: vs => putAll (a.put (some s) v) ss vs
  | _, _ => a

/-- F of each operation and its number. -/
def AllOps (F : Nat → Oper → Prop) : Nat → List Oper → Prop
  | _, [] => True
  | k, o :: os => F k o ∧ AllOps F (k + 1) os

theorem AllOps.at_ {F : Nat → Oper → Prop} : ∀ (l : List Oper) (k i : Nat) (o : Oper), AllOps F k l → l[i]? = some o → F (k + i) o
  | [], _, i, _, _, h => by simp at h
  | a :: l, k, 0, o, h, e => by
    simp at e
    subst e
    exact h.1
  | a :: l, k, i + 1, o, h, e => by
    have := AllOps.at_ l (k + 1) i o h.2 (by simpa using e)
    rw [show k + (i + 1) = k + 1 + i by omega]
    exact this

/-- What an operation waits for has come up. -/
def Waited (L : Nat → Prop) : List Edge → Prop
  | [] => True
  | e :: es => (Region.binds .any e = true → L e.on) ∧ Waited L es

theorem Waited.of {L : Nat → Prop} : ∀ (l : List Edge), (∀ e ∈ l, Region.binds .any e = true → L e.on) → Waited L l
  | [], _ => trivial
  | e :: es, h => ⟨h e (List.mem_cons_self ..), Waited.of es (fun x hx => h x (List.mem_cons_of_mem _ hx))⟩

/-- The edges of a region lead back. -/
def backward (ops : Array Oper) : Bool := (List.range ops.size).all fun i => match ops[i]? with
  | none => true
  | some o => o.after.all fun e => !Region.binds .any e || decide (e.on < i)

theorem all_up {ops : Array Oper} (hb : backward ops = true) {listed : Array Bool} (hr : Region.ready .any ops listed = []) : ∀ (n i : Nat), i ≤ n → i < ops.size → listed.getD i true = true := by
  intro n
  induction n with
  | zero =>
    intro i hi hlt
    have e : i = 0 := by omega
    subst e
    by_cases h : listed.getD 0 true = true
    · exact h
    · exfalso
      have hm : 0 ∈ Region.ready .any ops listed := mem_ready.2 ⟨by simpa using h, ops[0], by simp [hlt], fun e he hbd => by
        have hx := List.all_eq_true.1 hb 0 (List.mem_range.2 hlt)
        rw [show ops[0]? = some ops[0] by simp [hlt]] at hx
        have := (Array.all_eq_true_iff_forall_mem.1 hx) e he
        rw [hbd] at this
        simp at this⟩
      rw [hr] at hm
      cases hm
  | succ n ih =>
    intro i hi hlt
    by_cases h : listed.getD i true = true
    · exact h
    · exfalso
      have hm : i ∈ Region.ready .any ops listed := mem_ready.2 ⟨by simpa using h, ops[i], by simp [hlt], fun e he hbd => by
        have hx := List.all_eq_true.1 hb i (List.mem_range.2 hlt)
        rw [show ops[i]? = some ops[i] by simp [hlt]] at hx
        have h1 := (Array.all_eq_true_iff_forall_mem.1 hx) e he
        have h2 : e.on < i := by
          rw [hbd] at h1
          simpa using h1
        have h3 := ih e.on (by omega) (by omega)
        have h4 : e.on < listed.size := by
          refine Classical.byContradiction fun h4 => h ?_
          simp [show ¬ i < listed.size by omega]
        simp [h4] at h3 ⊢
        exact h3⟩
      rw [hr] at hm
      exact absurd hm List.not_mem_nil

/-- What has come up. -/
def upL (listed : Array Bool) (k : Nat) : Prop := listed.getD k false = true

theorem upL_set (listed : Array Bool) (i : Nat) (hi : i < listed.size) : upL (listed.setIfInBounds i true) = fun k => upL listed k ∨ k = i := by
  funext k
  unfold upL
  apply propext
  by_cases h : k = i
  · subst h
    simp [hi]
  · have h' : i ≠ k := fun e => h e.symm
    simp only [h, or_false]
    simp [Array.getElem_setIfInBounds, h']

/-- What stands in a slot. -/
def slotOf (a : Act) (s : Nat) : Value := a.tmps[s]?.getD undef
def updS (σ : Nat → Value) (d : Option Nat) (v : Value) (s : Nat) : Value := match d with
  | none => σ s
  | some d => if s = d then v else σ s

/-- Nothing but the slots has been written. -/
structure OnlyAt (slots : List Nat) (a a' : Act) : Prop where
  defers : a'.defers = a.defers
  size : a'.tmps.size = a.tmps.size
  far : ∀ s, s ∉ slots → a'.tmps[s]? = a.tmps[s]?

theorem OnlyAt.slot {slots : List Nat} {a a' : Act} (h : OnlyAt slots a a') (s : Nat) (hs : slots.contains s = false) : a'.tmps[s]?.getD undef = a.tmps[s]?.getD undef := by
  rw [h.far s (by simpa using hs)]

theorem OnlyAt.put {slots : List Nat} {a a' : Act} (h : OnlyAt slots a a') (d : Option Nat) (v : Value) (hd : ∀ s, d = some s → s ∈ slots) : OnlyAt slots a (a'.put d v) := by
  cases d with
  | none => exact h
  | some s =>
    refine ⟨h.defers, by simp [Act.put, h.size], fun k hk => ?_⟩
    have : s ≠ k := fun e => hk (e ▸ hd s rfl)
    simp [Act.put, this]
    exact h.far k hk

theorem slotOf_put (a : Act) (d : Option Nat) (v : Value) (hd : ∀ s, d = some s → s < a.tmps.size) : slotOf (a.put d v) = updS (slotOf a) d v := by
  funext k
  cases d with
  | none => rfl
  | some s =>
    have hs := hd s rfl
    unfold slotOf updS
    by_cases h : k = s
    · subst h
      simp [Act.put, hs]
    · have h' : s ≠ k := fun e => h e.symm
      simp [Act.put, h, h']

theorem putAll_defers : ∀ (slots : List Nat) (vs : List Value) (a : Act), (putAll a slots vs).defers = a.defers
  | [], _, _ => rfl
  | _ :: _, [], _ => rfl
  | s :: ss, v :: vs, a => putAll_defers ss vs (a.put (some s) v)

theorem putAll_at (σ : Nat → Value) (k : Nat) : ∀ (slots : List Nat) (a : Act), (∀ s ∈ slots, s < a.tmps.size) →
    (putAll a slots (slots.map σ)).tmps[k]? = if k ∈ slots then some (σ k) else a.tmps[k]?
  | [], a, _ => by simp [putAll]
  | s :: ss, a, h => by
    have hs := h s (List.mem_cons_self ..)
    have ih := putAll_at σ k ss (a.put (some s) (σ s)) (fun x hx => by simpa [Act.put] using h x (List.mem_cons_of_mem _ hx))
    show (putAll (a.put (some s) (σ s)) ss (ss.map σ)).tmps[k]? = _
    rw [ih]
    by_cases h1 : k ∈ ss
    · simp [h1]
    · by_cases h2 : k = s
      · subst h2
        simp [h1, Act.put, hs]
      · have h3 : s ≠ k := fun e => h2 e.symm
        simp [h1, h2, Act.put, h3]

theorem OnlyAt.eq {slots : List Nat} {a a' : Act} (h : OnlyAt slots a a') (hs : ∀ s ∈ slots, s < a.tmps.size) : a' = putAll a slots (slots.map (slotOf a')) := by
  have hd := putAll_defers slots (slots.map (slotOf a')) a
  have ht : (putAll a slots (slots.map (slotOf a'))).tmps = a'.tmps := by
    apply Array.ext_getElem?
    intro k
    rw [putAll_at (slotOf a') k slots a hs]
    by_cases hk : k ∈ slots
    · have hlt : k < a'.tmps.size := by rw [h.size]; exact hs k hk
      unfold slotOf
      simp [hk, hlt]
    · rw [if_neg hk, h.far k hk]
  generalize putAll a slots (slots.map (slotOf a')) = b at *
  cases b with
  | mk t d =>
    cases a' with
    | mk t' d' =>
      simp only at hd ht
      rw [ht, hd, ← h.defers]

/-- Each operation writes one of the slots or none. -/
def plainOps (ops : Array Oper) (slots : List Nat) : Bool := ops.all fun o => (match o.dst with | none => true | some d => slots.contains d)

/-- p where the operation's guard lets it by, q where it does not. -/
def Wants (ops : Array Oper) (σ : Nat → Value) (o : Oper) (p q : Prop) : Prop := match o.guard with
  | none => p
  | some (j, want) => ∃ s b, (ops[j]?.bind fun x => x.dst) = some s ∧ σ s = .bool b ∧ (b = want → p) ∧ (b ≠ want → q)

theorem Wants.free {ops : Array Oper} {σ : Nat → Value} {o : Oper} {p q : Prop} (hg : o.guard = none) (h : p) : Wants ops σ o p q := by
  unfold Wants
  rw [hg]
  exact h
theorem Wants.pos {ops : Array Oper} {σ : Nat → Value} {o : Oper} {p q : Prop} {j s : Nat} {b : Bool} (hg : o.guard = some (j, b)) (hs : (ops[j]?.bind fun x => x.dst) = some s) (hb : σ s = .bool b) (h : p) : Wants ops σ o p q := by
  unfold Wants
  rw [hg]
  exact ⟨s, b, hs, hb, fun _ => h, fun hn => absurd rfl hn⟩
theorem Wants.neg {ops : Array Oper} {σ : Nat → Value} {o : Oper} {p q : Prop} {j s : Nat} {b : Bool} (hg : o.guard = some (j, !b)) (hs : (ops[j]?.bind fun x => x.dst) = some s) (hb : σ s = .bool b) (h : q) : Wants ops σ o p q := by
  unfold Wants
  rw [hg]
  exact ⟨s, b, hs, hb, fun e => absurd e (by cases b <;> simp), fun _ => h⟩
theorem slot_some {a : Act} {s : Nat} {b : Bool} (h : slotOf a s = .bool b) : a.tmps[s]? = some (.bool b) := by
  unfold slotOf at h
  cases hs : a.tmps[s]? with
  | none => rw [hs] at h; cases h
  | some v => rw [hs] at h; exact congrArg some h

/-! What the slots of a region hold, by lists: the slots that its operations write, and what they write. -/

theorem old {L : Nat → Prop} {P : Prop} {k i : Nat} (f : L k → P) (hne : (k == i) = false) (h : L k ∨ k = i) : P := f (h.resolve_right (by simpa using hne))

theorem Waited.get {L : Nat → Prop} : ∀ {l : List Edge}, Waited L l → ∀ (k : Nat), (l.any fun e => Region.binds .any e && e.on == k) = true → L k
  | [], _, k, h => by simp at h
  | e :: es, hw, k, h => by
    rw [List.any_cons, Bool.or_eq_true, Bool.and_eq_true] at h
    rcases h with ⟨h1, h2⟩ | h
    · exact eq_of_beq h2 ▸ hw.1 h1
    · exact Waited.get hw.2 k h

def Vals (ds : List (Option Nat)) (vs : List Value) (L : Nat → Prop) (σ : Nat → Value) : Prop := ∀ k s v, ds[k]? = some (some s) → vs[k]? = some v → L k → σ s = v

/-- No other operation writes the slot s. -/
def lone (ds : List (Option Nat)) (i s : Nat) : Bool := (List.range ds.length).all fun k => k == i || ds[k]? != some (some s)

theorem lone.ne {ds : List (Option Nat)} {i s : Nat} (h : lone ds i s = true) {k : Nat} (hk : k ≠ i) : ds[k]? ≠ some (some s) := fun e => by
  have hlt : k < ds.length := (List.getElem?_eq_some_iff.1 e).1
  have := List.all_eq_true.1 h k (List.mem_range.2 hlt)
  simp [hk, e] at this

theorem Vals.start {ds : List (Option Nat)} {vs : List Value} {σ : Nat → Value} : Vals ds vs (fun _ => False) σ := fun _ _ _ _ _ h => h.elim

theorem Vals.set {ds : List (Option Nat)} {vs : List Value} {L : Nat → Prop} {σ : Nat → Value} (V : Vals ds vs L σ) (i s : Nat) (v : Value) (hd : ds[i]? = some (some s)) (hv : vs[i]? = some v) (h : lone ds i s = true) :
    Vals ds vs (fun k => L k ∨ k = i) (updS σ (some s) v) := fun k s' v' e1 e2 hL => by
  by_cases hk : k = i
  · subst hk
    rw [e1] at hd
    rw [e2] at hv
    injection hd with hd
    injection hd with hd
    injection hv with hv
    subst hd
    subst hv
    unfold updS
    simp
  · have hs : s' ≠ s := fun e => lone.ne h hk (e ▸ e1)
    unfold updS
    simp [hs]
    exact V k s' v' e1 e2 (hL.resolve_right hk)

theorem Vals.same {ds : List (Option Nat)} {vs : List Value} {L : Nat → Prop} {σ : Nat → Value} (V : Vals ds vs L σ) (i : Nat) (v : Value) (hd : ds[i]? = some none) : Vals ds vs (fun k => L k ∨ k = i) (updS σ none v) := fun k s' v' e1 e2 hL => by
  have hk : k ≠ i := fun e => by rw [e, hd] at e1; cases e1
  exact V k s' v' e1 e2 (hL.resolve_right hk)

theorem Vals.read {ds : List (Option Nat)} {vs : List Value} {L : Nat → Prop} {a : Act} (V : Vals ds vs L (slotOf a)) (k : Nat) {s : Nat} {v : Value} (hd : ds[k]? = some (some s)) (hv : vs[k]? = some v) (hL : L k) : a.tmps[s]?.getD undef = v := V k s v hd hv hL

/-- The world, or the world with one draw: found by itself. -/
class NearI (w w1 : World) : Prop where
  near : Near w w1
instance NearI.same (w : World) : NearI w w := ⟨Near.same w⟩
instance NearI.one (w : World) : NearI w w.drew := ⟨Near.one w⟩
theorem Blk.nearI {w w1 w' : World} {b : Nat} {cs : Array Value} {T : TypeId} (h : Blk w b cs T) [e : NearI w w1] (q : Below w1.heap.size w1 w') : Blk w' b cs T := h.near e.near q
theorem baseI {w0 w w1 : World} {B : Nat} [h : NearI w w1] (b : Below B w0 w) : Below B w0 w1 := Near.base h.near b
theorem goI {w0 w w1 w2 : World} [h : NearI w w1] (b : Below w0.heap.size w0 w) (q : Below w1.heap.size w1 w2) : Below w0.heap.size w0 w2 := Near.go h.near b q b.size

section
variable {P : Program} {ops : Array Oper} {Q : Exit → Act → World → Prop} {a0 : Act} {slots : List Nat} {J : (Nat → Prop) → (Nat → Value) → World → Prop}

theorem wpAny_par (hb : backward ops = true) (hp : plainOps ops slots = true) (hin : ∀ s ∈ slots, s < a0.tmps.size)
    (hstep : ∀ L a w, OnlyAt slots a0 a → J L (slotOf a) w → ∀ i o, ops[i]? = some o → ¬ L i → (∀ e ∈ o.after, Region.binds .any e = true → L e.on) →
      ∀ K' : Act → World → Prop, (∀ v w', J (fun k => L k ∨ k = i) (updS (slotOf a) o.dst v) w' → K' (a.put o.dst v) w') → Wants ops (slotOf a) o (Oper.wp P o a w K' Q) (J (fun k => L k ∨ k = i) (updS (slotOf a) o.dst undef) w))
    (hend : ∀ L a w, OnlyAt slots a0 a → J L (slotOf a) w → (∀ i, i < ops.size → L i) → Q .normal a w) :
    ∀ (fuel : Nat) (listed : Array Bool) (a : Act) (w : World), OnlyAt slots a0 a → listed.size = ops.size → listed.toList.count false ≤ fuel → J (upL listed) (slotOf a) w →
      wpAny P .any ops Q fuel listed a w := by
  intro fuel
  have done : ∀ (listed : Array Bool) (a : Act) (w : World), OnlyAt slots a0 a → listed.size = ops.size → J (upL listed) (slotOf a) w → Region.ready .any ops listed = [] → Q .normal a w := by
    intro listed a w ho hs hJ hr
    refine hend _ a w ho hJ (fun i hi => ?_)
    have := all_up hb hr i i (Nat.le_refl _) hi
    unfold upL
    have h2 : i < listed.size := by omega
    simp [h2] at this ⊢
    exact this
  induction fuel with
  | zero =>
    intro listed a w hoa hs hc hJ
    have hall : ∀ i, i < ops.size → listed.getD i true = true := fun i hi => by
      have h2 : i < listed.size := by omega
      simp [h2]
      have h3 : false ∉ listed.toList := List.count_eq_zero.1 (by omega)
      cases h4 : listed[i] with
      | true => rfl
      | false => exact absurd (by rw [← h4]; exact Array.getElem_mem_toList h2) h3
    have hr : Region.ready .any ops listed = [] := by
      cases h : Region.ready .any ops listed with
      | nil => rfl
      | cons i l =>
        exfalso
        have hm : i ∈ Region.ready .any ops listed := by rw [h]; exact List.mem_cons_self ..
        obtain ⟨h1, o, ho, _⟩ := mem_ready.1 hm
        have := hall i (Array.getElem?_eq_some_iff.1 ho).1
        rw [this] at h1
        cases h1
    exact ⟨hr, done listed a w hoa hs hJ hr⟩
  | succ fuel ih =>
    intro listed a w hoa hs hc hJ
    refine ⟨fun hr => done listed a w hoa hs hJ hr, fun i hi => ?_⟩
    obtain ⟨h1, o, ho, hd⟩ := mem_ready.1 hi
    have hlt : i < listed.size := by rw [hs]; exact (Array.getElem?_eq_some_iff.1 ho).1
    have hn : ¬ upL listed i := fun h => by
      unfold upL at h
      simp [hlt] at h h1
      rw [h] at h1
      cases h1
    have hpo := (Array.all_eq_true_iff_forall_mem.1 hp) o (Array.mem_of_getElem? ho)
    have hds : ∀ s, o.dst = some s → s ∈ slots := fun s e => by
      rw [e] at hpo
      simpa using hpo
    refine wpOp_step ho (fun K' hK => ?_)
    have step : ∀ v w', J (fun k => upL listed k ∨ k = i) (updS (slotOf a) o.dst v) w' → K' (a.put o.dst v) w' := fun v w' hJ' => hK _ _ (by
      refine ih (listed.setIfInBounds i true) _ w' (hoa.put o.dst v hds) (by simp [hs]) ?_ ?_
      · rw [Array.toList_setIfInBounds, List.count_set (by simpa using hlt)]
        have h2 : listed.toList[i]'(by simpa using hlt) = false := by
          simp [hlt] at h1
          simpa using h1
        rw [h2]
        have h3 : 0 < listed.toList.count false := List.count_pos_iff.2 (by rw [← h2]; exact List.getElem_mem _)
        rw [if_pos (by rfl), if_neg (by simp)]
        omega
      · rw [upL_set listed i hlt, slotOf_put a o.dst v (fun s e => by rw [hoa.size]; exact hin s (hds s e))]
        exact hJ')
    have h := hstep (upL listed) a w hoa hJ i o ho hn hd K' step
    unfold Wants at h
    unfold Region.wanted
    cases hg : o.guard with
    | none =>
      rw [hg] at h
      exact h
    | some g =>
      obtain ⟨j, want⟩ := g
      rw [hg] at h
      obtain ⟨s, b, h1, h2, h3, h4⟩ := h
      have h5 : yielded ops a.tmps j = some b := by
        unfold yielded
        rw [h1]
        show (match (a.tmps[s]?) with | some (Value.bool b) => some b | _ => none) = some b
        rw [slot_some h2]
      show if (yielded ops a.tmps j == some want) = true then _ else _
      rw [h5]
      by_cases hb : b = want
      · rw [if_pos (by rw [hb]; simp)]
        exact h3 hb
      · rw [if_neg (by simpa using hb)]
        exact step undef w (h4 hb)

end

end Go.Proofs.YtopilnlniidejaaGreatDoor

/- Regions in order by the same invariant as those that draw theirs; blocks that a region makes; cells written in a row. No program in sight. -/
namespace Go.Proofs.YtopilnlniidejaaGreatDoor
set_option linter.all false
open Go.RowKit

/-- Values written from a cell on. -/
def setAll (w : World) (b : Nat) : Nat → List Value → World
  | _, [] => w
  | o, v :: vs => setAll (w.setCell ⟨b, o, none⟩ v) b (o + 1) vs
/-- What a block then holds. -/
def putCells (cs : Array Value) : Nat → List Value → Array Value
  | _, [] => cs
  | o, v :: vs => putCells (cs.setIfInBounds o v) (o + 1) vs

theorem Blk.one {w : World} {b k : Nat} {cs : Array Value} {T : TypeId} (h : Blk w b cs T) (hk : b ≠ k) (o : Nat) (v : Value) : Blk (w.setCell ⟨k, o, none⟩ v) b cs T := by
  unfold Blk World.setCell at *
  simp only [Array.getElem?_modify, if_neg (Ne.symm hk)]
  exact h
theorem Blk.elseA {w : World} {b k : Nat} {cs : Array Value} {T : TypeId} (h : Blk w b cs T) (hk : b ≠ k) (o : Nat) (vs : List Value) : Blk (setAll w k o vs) b cs T := by
  induction vs generalizing w o with
  | nil => exact h
  | cons v vs ih => exact ih (h.one hk o v) (o + 1)
theorem Blk.setA {w : World} {b : Nat} {cs : Array Value} {T : TypeId} (h : Blk w b cs T) (o : Nat) (vs : List Value) : Blk (setAll w b o vs) b (putCells cs o vs) T := by
  induction vs generalizing w o cs with
  | nil => exact h
  | cons v vs ih => exact ih (h.set o v) (o + 1)
theorem below_setA (w : World) (B k : Nat) (hB : B ≤ k) (o : Nat) (vs : List Value) : Below B w (setAll w k o vs) := by
  have one : ∀ (w : World) (o : Nat) (v : Value), Below B w (w.setCell ⟨k, o, none⟩ v) := fun w o v => Below.setCell (p := ⟨k, o, none⟩) (Below.refl B w) hB v
  induction vs generalizing w o with
  | nil => exact Below.refl B w
  | cons v vs ih => exact (one w o v).trans (ih _ _)
theorem size_setA (w : World) (k o : Nat) (vs : List Value) : (setAll w k o vs).heap.size = w.heap.size := by
  induction vs generalizing w o with
  | nil => rfl
  | cons v vs ih => rw [show setAll w k o (v :: vs) = setAll (w.setCell ⟨k, o, none⟩ v) k (o + 1) vs from rfl, ih]; simp

/-- The block that a pointer or a slice leads to. -/
def blkOf : Value → Nat
  | .pointer (some a) => a.block
  | .slice (some a) _ _ => a.block
  | _ => 0

/-- x leads to a block made since the heap had B blocks, which holds these cells. -/
structure NewB (x : Value) (B : Nat) (W : World) (mk : Nat → Value) (cs : Array Value) (T : TypeId) : Prop where
  eq : x = mk (blkOf x)
  low : B ≤ blkOf x
  blk : Blk W (blkOf x) cs T
theorem NewB.of {x : Value} {B g : Nat} {W : World} {mk : Nat → Value} {cs : Array Value} {T : TypeId} (e : x = mk g) (hm : blkOf (mk g) = g) (hg : B ≤ g) (h : Blk W g cs T) : NewB x B W mk cs T := by
  have e' : blkOf x = g := by rw [e, hm]
  exact ⟨by rw [e', e], by rw [e']; exact hg, by rw [e']; exact h⟩
theorem NewB.below {x : Value} {B : Nat} {W W' : World} {mk : Nat → Value} {cs : Array Value} {T : TypeId} (h : NewB x B W mk cs T) (q : Below W.heap.size W W') : NewB x B W' mk cs T := ⟨h.eq, h.low, h.blk.below q⟩
theorem NewB.elseA {x : Value} {B k : Nat} {W : World} {mk : Nat → Value} {cs : Array Value} {T : TypeId} (h : NewB x B W mk cs T) (hk : blkOf x ≠ k) (o : Nat) (vs : List Value) : NewB x B (setAll W k o vs) mk cs T := ⟨h.eq, h.low, h.blk.elseA hk o vs⟩
theorem NewB.old {x : Value} {B k : Nat} {W : World} {mk : Nat → Value} {cs : Array Value} {T : TypeId} (h : NewB x B W mk cs T) (hk : k < B) (o : Nat) (vs : List Value) : NewB x B (setAll W k o vs) mk cs T := h.elseA (fun e => by have := h.low; omega) o vs
theorem NewB.setA {x : Value} {B : Nat} {W : World} {mk : Nat → Value} {cs : Array Value} {T : TypeId} (h : NewB x B W mk cs T) (o : Nat) (vs : List Value) : NewB x B (setAll W (blkOf x) o vs) mk (putCells cs o vs) T := ⟨h.eq, h.low, h.blk.setA o vs⟩

theorem Blk.atI {w w1 : World} {b : Nat} {cs : Array Value} {T : TypeId} [e : NearI w w1] (h : Blk w b cs T) : Blk w1 b cs T := by
  rcases e.near with rfl | rfl
  · exact h
  · exact h.below (Below.refl _ _).drew
section
variable {P : Program} {ops : Array Oper} {Q : Exit → Act → World → Prop} {a0 : Act} {slots : List Nat} {J : (Nat → Prop) → (Nat → Value) → World → Prop}
theorem wpList_par (hp : plainOps ops slots = true) (hin : ∀ s ∈ slots, s < a0.tmps.size)
    (hstep : ∀ L a w, OnlyAt slots a0 a → J L (slotOf a) w → ∀ i o, ops[i]? = some o → ¬ L i → (∀ j, j < i → L j) →
      ∀ K' : Act → World → Prop, (∀ v w', J (fun k => L k ∨ k = i) (updS (slotOf a) o.dst v) w' → K' (a.put o.dst v) w') → Wants ops (slotOf a) o (Oper.wp P o a w K' Q) (J (fun k => L k ∨ k = i) (updS (slotOf a) o.dst undef) w))
    (hend : ∀ L a w, OnlyAt slots a0 a → J L (slotOf a) w → (∀ i, i < ops.size → L i) → Q .normal a w) :
    ∀ (l : List Oper) (k : Nat) (a : Act) (w : World), ops.toList.drop k = l → OnlyAt slots a0 a → J (fun i => i < k) (slotOf a) w → wpList P ops Q l a w
  | [], k, a, w, hl, ho, hJ => by
    have hk : ops.size ≤ k := by
      have := congrArg List.length hl
      simp at this
      omega
    exact hend _ a w ho hJ (fun i hi => by omega)
  | o :: rest, k, a, w, hl, ho, hJ => by
    have hk : ops[k]? = some o := by
      have : (ops.toList.drop k)[0]? = some o := by rw [hl]; rfl
      simpa using this
    have hlt : k < ops.size := (Array.getElem?_eq_some_iff.1 hk).1
    have hrest : ops.toList.drop (k + 1) = rest := by
      have := congrArg (List.drop 1) hl
      rw [List.drop_drop] at this
      exact this
    have hpo := (Array.all_eq_true_iff_forall_mem.1 hp) o (Array.mem_of_getElem? hk)
    have hds : ∀ s, o.dst = some s → s ∈ slots := fun s e => by
      rw [e] at hpo
      simpa using hpo
    have hL : (fun i => i < k + 1) = (fun i => i < k ∨ i = k) := by
      funext i
      apply propext
      omega
    have step : ∀ v w', J (fun i => i < k ∨ i = k) (updS (slotOf a) o.dst v) w' → wpList P ops Q rest (a.put o.dst v) w' := fun v w' hJ' => by
      refine wpList_par hp hin hstep hend rest (k + 1) _ w' hrest (ho.put o.dst v hds) ?_
      rw [hL, slotOf_put a o.dst v (fun s e => by rw [ho.size]; exact hin s (hds s e))]
      exact hJ'
    have h := hstep (fun i => i < k) a w ho hJ k o hk (Nat.lt_irrefl k) (fun _ h => h) (wpList P ops Q rest) step
    unfold wpList
    unfold Wants at h
    unfold Region.wanted
    cases hg : o.guard with
    | none =>
      rw [hg] at h
      exact .inl h
    | some g =>
      obtain ⟨j, want⟩ := g
      rw [hg] at h
      obtain ⟨s, b, h1, h2, h3, h4⟩ := h
      have h5 : yielded ops a.tmps j = some b := by
        unfold yielded
        rw [h1]
        show (match (a.tmps[s]?) with | some (Value.bool b) => some b | _ => none) = some b
        rw [slot_some h2]
      show if (yielded ops a.tmps j == some want) = true then _ else _
      rw [h5]
      by_cases hb' : b = want
      · rw [if_pos (by rw [hb']; simp)]
        exact .inl (h3 hb')
      · rw [if_neg (by simpa using hb')]
        exact step undef w (h4 hb')

end

end Go.Proofs.YtopilnlniidejaaGreatDoor

/- A region's invariant as tables: what each operation yields, which blocks are made, which are written. No program in sight. -/
namespace Go.Proofs.YtopilnlniidejaaGreatDoor
set_option linter.all false
open Go.RowKit

/-- What an operation leaves in its slot: a value; a way into a block made here; nothing. -/
inductive Row where
  | v (d : Nat) (x : Value)
  | n (d : Nat)
  | z
def Row.dst : Row → Option Nat
  | .v d _ => some d
  | .n d => some d
  | .z => none
/-- A block made by operation k into slot s; st: the operation that writes it, and its cells then. -/
structure NB where
  k : Nat
  s : Nat
  m : Nat → Value
  cs : Array Value
  T : TypeId
  st : Option (Nat × Array Value)
/-- An elder block. -/
structure EB where
  e : Nat
  cs : Array Value
  T : TypeId
  st : Option (Nat × Array Value)
/-- A way into the block of slot s, made by operation b. -/
structure AL where
  k : Nat
  d : Nat
  s : Nat
  b : Nat
  m : Nat → Value

def Ph (L : Nat → Prop) (st : Option (Nat × Array Value)) (P : Array Value → Prop) (cs : Array Value) : Prop := match st with
  | none => P cs
  | some p => (¬ L p.1 → P cs) ∧ (L p.1 → P p.2)
theorem Ph.mono {L L' : Nat → Prop} {st : Option (Nat × Array Value)} {P Q : Array Value → Prop} {cs : Array Value} (h : Ph L st P cs) (hL : ∀ p, st = some p → (L' p.1 ↔ L p.1)) (f : ∀ c, P c → Q c) : Ph L' st Q cs := by
  cases st with
  | none => exact f _ h
  | some p =>
    have e := hL p rfl
    exact ⟨fun x => f _ (h.1 (fun y => x (e.2 y))), fun x => f _ (h.2 (e.1 x))⟩
theorem Ph.any {L : Nat → Prop} {st : Option (Nat × Array Value)} {P : Array Value → Prop} {cs : Array Value} {R : Prop} (h : Ph L st P cs) (f : ∀ c, P c → R) : R := by
  cases st with
  | none => exact f _ h
  | some p => exact (Classical.em (L p.1)).elim (fun x => f _ (h.2 x)) (fun x => f _ (h.1 x))

structure RJ (w : World) (B : Nat) (tb : List Row) (ns : List NB) (eb : List EB) (al : List AL) (od : List (Nat × Nat)) (dl : List (Nat × Nat)) (pl : List (Nat × Nat × Value)) (L : Nat → Prop) (σ : Nat → Value) (U : World) : Prop where
  vals : ∀ (k d : Nat) (x : Value), tb[k]? = some (.v d x) → L k → σ d = x
  news : ∀ (i : Nat) (x : NB), ns[i]? = some x → L x.k → Ph L x.st (fun cs => NewB (σ x.s) B U x.m cs x.T) x.cs
  elds : ∀ (i : Nat) (x : EB), eb[i]? = some x → Ph L x.st (fun cs => Blk U x.e cs x.T) x.cs
  als : ∀ (i : Nat) (x : AL), al[i]? = some x → L x.k → σ x.d = x.m (blkOf (σ x.s)) ∧ L x.b
  ord : ∀ (i : Nat) (p : Nat × Nat), od[i]? = some p → L p.1 → L p.2
  dis : ∀ (i : Nat) (p : Nat × Nat) (x y : NB), dl[i]? = some p → ns[p.1]? = some x → ns[p.2]? = some y → L x.k → L y.k → blkOf (σ x.s) ≠ blkOf (σ y.s)
  pre : ∀ (i : Nat) (p : Nat × Nat × Value), pl[i]? = some p → ¬ L p.2.1 → σ p.1 = p.2.2
  sz : B ≤ U.heap.size
  low : w.heap.size ≤ B
  bb : Below w.heap.size w U

def EldAll (U : World) : List EB → Prop
  | [] => True
  | x :: r => Blk U x.e x.cs x.T ∧ EldAll U r
theorem EldAll.at_ {U : World} : ∀ {l : List EB}, EldAll U l → ∀ (i : Nat) (x : EB), l[i]? = some x → Blk U x.e x.cs x.T
  | [], _, i, x, h => by simp at h
  | y :: r, ⟨a, b⟩, 0, x, h => by simp at h; subst h; exact a
  | y :: r, ⟨a, b⟩, i + 1, x, h => EldAll.at_ b i x (by simpa using h)
theorem EldAll.below {U U' : World} : ∀ {l : List EB}, EldAll U l → Below U.heap.size U U' → EldAll U' l
  | [], _, _ => trivial
  | _ :: _, ⟨a, b⟩, q => ⟨a.below q, EldAll.below b q⟩
def NeAll (e i : Nat) : Nat → List EB → Prop
  | _, [] => True
  | k, x :: r => (k = i ∨ x.e ≠ e) ∧ NeAll e i (k + 1) r
theorem NeAll.at_ {e i : Nat} : ∀ {k : Nat} {l : List EB}, NeAll e i k l → ∀ (j : Nat) (x : EB), l[j]? = some x → k + j = i ∨ x.e ≠ e
  | k, [], _, j, x, h => by simp at h
  | k, y :: r, ⟨a, b⟩, 0, x, h => by simp at h; subst h; exact a
  | k, y :: r, ⟨a, b⟩, j + 1, x, h => by
    have := NeAll.at_ b j x (by simpa using h)
    rcases this with h | h
    · exact .inl (by omega)
    · exact .inr h

def PreAll (σ : Nat → Value) : List (Nat × Nat × Value) → Prop
  | [] => True
  | x :: r => σ x.1 = x.2.2 ∧ PreAll σ r
theorem PreAll.at_ {σ : Nat → Value} : ∀ {l : List (Nat × Nat × Value)}, PreAll σ l → ∀ (i : Nat) (x : Nat × Nat × Value), l[i]? = some x → σ x.1 = x.2.2
  | [], _, i, x, h => by simp at h
  | y :: r, ⟨a, b⟩, 0, x, h => by simp at h; subst h; exact a
  | y :: r, ⟨a, b⟩, i + 1, x, h => PreAll.at_ b i x (by simpa using h)
/-- Operation k alone writes the slots of pl that it writes. -/
def okP (pl : List (Nat × Nat × Value)) (k d : Nat) : Bool := pl.all fun p => p.2.1 == k || p.1 != d
theorem pre_step {pl : List (Nat × Nat × Value)} {L : Nat → Prop} {σ : Nat → Value} {k d : Nat} {v : Value} (h : ∀ (i : Nat) (p : Nat × Nat × Value), pl[i]? = some p → ¬ L p.2.1 → σ p.1 = p.2.2) (hk : okP pl k d = true) :
    ∀ (i : Nat) (p : Nat × Nat × Value), pl[i]? = some p → ¬ (L p.2.1 ∨ p.2.1 = k) → updS σ (some d) v p.1 = p.2.2 := fun i p hp hn => by
  have := List.all_eq_true.1 hk p (List.mem_of_getElem? hp)
  simp only [Bool.or_eq_true, beq_iff_eq, bne_iff_ne] at this
  have hd : p.1 ≠ d := this.resolve_left (fun e => hn (.inr e))
  unfold updS
  simp [hd]
  exact h i p hp (fun x => hn (.inl x))
def LtAll (B : Nat) : List EB → Prop
  | [] => True
  | x :: r => x.e < B ∧ LtAll B r
theorem LtAll.at_ {B : Nat} : ∀ {l : List EB}, LtAll B l → ∀ (i : Nat) (x : EB), l[i]? = some x → x.e < B
  | [], _, i, x, h => by simp at h
  | y :: r, ⟨a, b⟩, 0, x, h => by simp at h; subst h; exact a
  | y :: r, ⟨a, b⟩, i + 1, x, h => LtAll.at_ b i x (by simpa using h)
def OdAll (k : Nat) (P : Nat → Prop) : List (Nat × Nat) → Prop
  | [] => True
  | x :: r => (x.1 ≠ k ∨ P x.2) ∧ OdAll k P r
theorem OdAll.at_ {k : Nat} {P : Nat → Prop} : ∀ {l : List (Nat × Nat)}, OdAll k P l → ∀ (i : Nat) (x : Nat × Nat), l[i]? = some x → x.1 = k → P x.2
  | [], _, i, x, h => by simp at h
  | y :: r, ⟨a, b⟩, 0, x, h => fun e => by simp at h; subst h; exact a.resolve_left (fun f => f e)
  | y :: r, ⟨a, b⟩, i + 1, x, h => OdAll.at_ b i x (by simpa using h)

section
variable {w : World} {B : Nat} {tb : List Row} {ns : List NB} {eb : List EB} {al : List AL} {od dl : List (Nat × Nat)} {pl : List (Nat × Nat × Value)} {L : Nat → Prop} {σ : Nat → Value} {U U' : World}

theorem RJ.start (hB : B = U.heap.size) (hbb : Below w.heap.size w U) (he : EldAll U eb) {σ : Nat → Value} (hp : PreAll σ pl := by trivial) : RJ w B tb ns eb al od dl pl (fun _ => False) σ U where
  vals := fun _ _ _ _ h => h.elim
  news := fun _ _ _ h => h.elim
  elds := fun i x h => by
    have := he.at_ i x h
    unfold Ph
    split
    · exact this
    · exact ⟨fun _ => this, fun h => h.elim⟩
  als := fun _ _ _ h => h.elim
  ord := fun _ _ _ h => h.elim
  dis := fun _ _ _ _ _ _ _ h => h.elim
  pre := fun i p h _ => hp.at_ i p h
  sz := by rw [hB]; exact Nat.le_refl _
  low := by rw [hB]; exact hbb.size
  bb := hbb

theorem RJ.read {a : Act} (J : RJ w B tb ns eb al od dl pl L (slotOf a) U) (k : Nat) {d : Nat} {x : Value} (h : tb[k]? = some (.v d x)) (hL : L k) : a.tmps[d]?.getD undef = x := J.vals k d x h hL
theorem RJ.readN {a : Act} (J : RJ w B tb ns eb al od dl pl L (slotOf a) U) (i : Nat) {x : NB} (h : ns[i]? = some x) (hL : L x.k) : a.tmps[x.s]?.getD undef = x.m (blkOf (slotOf a x.s)) := (J.news i x h hL).any fun _ h => h.eq
theorem RJ.readP {a : Act} (J : RJ w B tb ns eb al od dl pl L (slotOf a) U) (i : Nat) {p : Nat × Nat × Value} (h : pl[i]? = some p) (hn : ¬ L p.2.1) : a.tmps[p.1]?.getD undef = p.2.2 := J.pre i p h hn
theorem RJ.eld (J : RJ w B tb ns eb al od dl pl L σ U) (i : Nat) {e : Nat} {cs : Array Value} {T : TypeId} (h : eb[i]? = some ⟨e, cs, T, none⟩) : Blk U e cs T := J.elds i _ h
theorem RJ.eldB (J : RJ w B tb ns eb al od dl pl L σ U) (i : Nat) {e s : Nat} {cs cs' : Array Value} {T : TypeId} (h : eb[i]? = some ⟨e, cs, T, some (s, cs')⟩) (hn : ¬ L s) : Blk U e cs T := (J.elds i _ h).1 hn
theorem RJ.eldW (J : RJ w B tb ns eb al od dl pl L σ U) (i : Nat) {e s : Nat} {cs cs' : Array Value} {T : TypeId} (h : eb[i]? = some ⟨e, cs, T, some (s, cs')⟩) (hn : L s) : Blk U e cs' T := (J.elds i _ h).2 hn
theorem RJ.nw (J : RJ w B tb ns eb al od dl pl L σ U) (i : Nat) {k s : Nat} {mk : Nat → Value} {cs : Array Value} {T : TypeId} (h : ns[i]? = some ⟨k, s, mk, cs, T, none⟩) (hL : L k) : NewB (σ s) B U mk cs T := J.news i _ h hL
theorem RJ.nwB (J : RJ w B tb ns eb al od dl pl L σ U) (i : Nat) {k s t : Nat} {mk : Nat → Value} {cs cs' : Array Value} {T : TypeId} (h : ns[i]? = some ⟨k, s, mk, cs, T, some (t, cs')⟩) (hL : L k) (hn : ¬ L t) : NewB (σ s) B U mk cs T := (J.news i _ h hL).1 hn
theorem RJ.nwW (J : RJ w B tb ns eb al od dl pl L σ U) (i : Nat) {k s t : Nat} {mk : Nat → Value} {cs cs' : Array Value} {T : TypeId} (h : ns[i]? = some ⟨k, s, mk, cs, T, some (t, cs')⟩) (hL : L k) (hn : L t) : NewB (σ s) B U mk cs' T := (J.news i _ h hL).2 hn

/-- Operation k writes slot d alone, and no other does; it stores nothing. -/
def chk (pl : List (Nat × Nat × Value)) (tb : List Row) (ns : List NB) (eb : List EB) (al : List AL) (od : List (Nat × Nat)) (k d : Nat) : Bool :=
  ((List.range tb.length).all fun j => j == k || (tb[j]?.bind Row.dst) != some d) && (ns.all fun x => (x.k == k || x.s != d) && ((x.st.map Prod.fst) != some k)) && (eb.all fun x => (x.st.map Prod.fst) != some k) && (al.all fun x => (x.k == k || x.d != d) && (x.b == k || x.s != d)) && (od.all fun p => p.1 != k) && okP pl k d
structure Chk (pl : List (Nat × Nat × Value)) (tb : List Row) (ns : List NB) (eb : List EB) (al : List AL) (od : List (Nat × Nat)) (k d : Nat) : Prop where
  tb : ∀ (j e : Nat) (x : Value), tb[j]? = some (.v e x) → j ≠ k → e ≠ d
  ns : ∀ (i : Nat) (x : NB), ns[i]? = some x → (x.k = k ∨ x.s ≠ d) ∧ ∀ p, x.st = some p → p.1 ≠ k
  eb : ∀ (i : Nat) (x : EB), eb[i]? = some x → ∀ p, x.st = some p → p.1 ≠ k
  al : ∀ (i : Nat) (x : AL), al[i]? = some x → (x.k = k ∨ x.d ≠ d) ∧ (x.b = k ∨ x.s ≠ d)
  od : ∀ (i : Nat) (p : Nat × Nat), od[i]? = some p → p.1 ≠ k
  pl : okP pl k d = true
theorem Chk.of {k d : Nat} (h : chk pl tb ns eb al od k d = true) : Chk pl tb ns eb al od k d := by
  unfold chk at h
  simp only [Bool.and_eq_true, List.all_eq_true] at h
  obtain ⟨⟨⟨⟨⟨h1, h2⟩, h3⟩, h4⟩, h5⟩, h6⟩ := h
  refine ⟨fun j e x hj hne => ?_, fun i x hx => ?_, fun i x hx p hp => ?_, fun i x hx => ?_, fun i p hp => ?_, h6⟩
  · have hlt : j < tb.length := (List.getElem?_eq_some_iff.1 hj).1
    have := h1 j (List.mem_range.2 hlt)
    rw [hj] at this
    simp [Row.dst, hne] at this
    exact this
  · have := h2 x (List.mem_of_getElem? hx)
    simp only [Bool.or_eq_true, beq_iff_eq, bne_iff_ne] at this
    refine ⟨this.1, fun p hp e => this.2 ?_⟩
    rw [hp, ← e]; rfl
  · have := h3 x (List.mem_of_getElem? hx)
    simp only [bne_iff_ne] at this
    intro e
    apply this
    rw [hp, ← e]; rfl
  · have := h4 x (List.mem_of_getElem? hx)
    simp only [Bool.and_eq_true, Bool.or_eq_true, beq_iff_eq, bne_iff_ne] at this
    exact this
  · have := h5 p (List.mem_of_getElem? hp)
    simpa using this
theorem upd_other {σ : Nat → Value} {d s : Nat} {v : Value} (h : s ≠ d) : updS σ (some d) v s = σ s := by
  unfold updS
  simp [h]
theorem upd_same {σ : Nat → Value} {d : Nat} {v : Value} : updS σ (some d) v d = v := by
  unfold updS
  simp
theorem NewB.cong {x y : Value} {B : Nat} {W : World} {mk : Nat → Value} {cs : Array Value} {T : TypeId} (h : NewB x B W mk cs T) (e : y = x) : NewB y B W mk cs T := e ▸ h

/-- An operation that yields a value (and may make memory that nothing here speaks of). -/
theorem RJ.step (J : RJ w B tb ns eb al od dl pl L σ U) (k : Nat) {d : Nat} {v : Value} (h1 : tb[k]? = some (.v d v)) (h2 : chk pl tb ns eb al od k d = true) (hn : (ns.all fun x => x.k != k) = true) (ha : (al.all fun x => x.k != k && x.b != k) = true)
    (q : Below U.heap.size U U') : RJ w B tb ns eb al od dl pl (fun j => L j ∨ j = k) (updS σ (some d) v) U' := by
  have c := Chk.of h2
  simp only [List.all_eq_true] at hn ha
  have hn' : ∀ (i : Nat) (x : NB), ns[i]? = some x → x.k ≠ k := fun i x hx => by simpa using hn x (List.mem_of_getElem? hx)
  have ha' : ∀ (i : Nat) (x : AL), al[i]? = some x → x.k ≠ k ∧ x.b ≠ k := fun i x hx => by simpa using ha x (List.mem_of_getElem? hx)
  have hs : ∀ (i : Nat) (x : NB), ns[i]? = some x → updS σ (some d) v x.s = σ x.s := fun i x hx => upd_other (((c.ns i x hx).1).resolve_left (hn' i x hx))
  refine ⟨fun j e x hj hL => ?_, fun i x hx hL => ?_, fun i x hx => ?_, fun i x hx hL => ?_, fun i p hp hL => ?_, fun i p x y hp hx hy hL hL' => ?_, pre_step J.pre c.pl, Nat.le_trans J.sz q.size, J.low, J.bb.trans (q.mono J.bb.size)⟩
  · by_cases e1 : j = k
    · subst e1
      rw [h1] at hj
      cases hj
      exact upd_same
    · rw [upd_other (c.tb j e x hj e1)]
      exact J.vals j e x hj (hL.resolve_right e1)
  · have := J.news i x hx (hL.resolve_right (hn' i x hx))
    refine this.mono (fun p hp => ⟨fun h => h.resolve_right ((c.ns i x hx).2 p hp), .inl⟩) (fun cs h => (h.below q).cong (hs i x hx))
  · exact (J.elds i x hx).mono (fun p hp => ⟨fun h => h.resolve_right (c.eb i x hx p hp), .inl⟩) (fun cs h => h.below q)
  · obtain ⟨a1, a2⟩ := J.als i x hx (hL.resolve_right (ha' i x hx).1)
    rw [upd_other (((c.al i x hx).1).resolve_left (ha' i x hx).1), upd_other (((c.al i x hx).2).resolve_left (ha' i x hx).2)]
    exact ⟨a1, .inl a2⟩
  · exact .inl (J.ord i p hp (hL.resolve_right (c.od i p hp)))
  · rw [hs _ x hx, hs _ y hy]
    exact J.dis i p x y hp hx hy (hL.resolve_right (hn' _ x hx)) (hL'.resolve_right (hn' _ y hy))

/-- The same, of one that must wait for others. -/
theorem RJ.stepO (J : RJ w B tb ns eb al od dl pl L σ U) (k : Nat) {d : Nat} {v : Value} (h1 : tb[k]? = some (.v d v)) (h2 : chk pl tb ns eb al [] k d = true) (hod' : OdAll k L od) (hn : (ns.all fun x => x.k != k) = true) (ha : (al.all fun x => x.k != k && x.b != k) = true)
    (q : Below U.heap.size U U') : RJ w B tb ns eb al od dl pl (fun j => L j ∨ j = k) (updS σ (some d) v) U' := by
  have c := Chk.of h2
  simp only [List.all_eq_true] at hn ha
  have hn' : ∀ (i : Nat) (x : NB), ns[i]? = some x → x.k ≠ k := fun i x hx => by simpa using hn x (List.mem_of_getElem? hx)
  have ha' : ∀ (i : Nat) (x : AL), al[i]? = some x → x.k ≠ k ∧ x.b ≠ k := fun i x hx => by simpa using ha x (List.mem_of_getElem? hx)
  have hs : ∀ (i : Nat) (x : NB), ns[i]? = some x → updS σ (some d) v x.s = σ x.s := fun i x hx => upd_other (((c.ns i x hx).1).resolve_left (hn' i x hx))
  refine ⟨fun j e x hj hL => ?_, fun i x hx hL => ?_, fun i x hx => ?_, fun i x hx hL => ?_, fun i p hp hL => ?_, fun i p x y hp hx hy hL hL' => ?_, pre_step J.pre c.pl, Nat.le_trans J.sz q.size, J.low, J.bb.trans (q.mono J.bb.size)⟩
  · by_cases e1 : j = k
    · subst e1
      rw [h1] at hj
      cases hj
      exact upd_same
    · rw [upd_other (c.tb j e x hj e1)]
      exact J.vals j e x hj (hL.resolve_right e1)
  · have := J.news i x hx (hL.resolve_right (hn' i x hx))
    refine this.mono (fun p hp => ⟨fun h => h.resolve_right ((c.ns i x hx).2 p hp), .inl⟩) (fun cs h => (h.below q).cong (hs i x hx))
  · exact (J.elds i x hx).mono (fun p hp => ⟨fun h => h.resolve_right (c.eb i x hx p hp), .inl⟩) (fun cs h => h.below q)
  · obtain ⟨a1, a2⟩ := J.als i x hx (hL.resolve_right (ha' i x hx).1)
    rw [upd_other (((c.al i x hx).1).resolve_left (ha' i x hx).1), upd_other (((c.al i x hx).2).resolve_left (ha' i x hx).2)]
    exact ⟨a1, .inl a2⟩
  · by_cases e1 : p.1 = k
    · exact .inl (hod'.at_ i p hp e1)
    · exact .inl (J.ord i p hp (hL.resolve_right e1))
  · rw [hs _ x hx, hs _ y hy]
    exact J.dis i p x y hp hx hy (hL.resolve_right (hn' _ x hx)) (hL'.resolve_right (hn' _ y hy))

/-- An operation that makes a block. -/
theorem RJ.made (J : RJ w B tb ns eb al od dl pl L σ U) (k i : Nat) {d g : Nat} {mk : Nat → Value} {cs : Array Value} {T : TypeId} {st : Option (Nat × Array Value)} {v : Value} (hx : ns[i]? = some ⟨k, d, mk, cs, T, st⟩) (h1 : tb[k]? = some (.n d)) (h2 : chk pl tb ns eb al od k d = true)
    (h3 : ((List.range ns.length).all fun j => j == i || (ns[j]?.map NB.k) != some k) = true) (h4 : (al.all fun x => x.k != k) = true) (h5 : (st.all fun p => od.contains (p.1, k)) = true) (hal : (al.all fun x => x.b != k || x.s == d) = true)
    (hd : (dl.all fun p => p.1 != p.2) = true) (hv : v = mk g) (hb : blkOf (mk g) = g) (hg : U.heap.size ≤ g) (hB : Blk U' g cs T) (q : Below U.heap.size U U') (hnot : ¬ L k) : RJ w B tb ns eb al od dl pl (fun j => L j ∨ j = k) (updS σ (some d) v) U' := by
  have c := Chk.of h2
  simp only [List.all_eq_true] at h3 h4
  have hne : ∀ (j : Nat) (x : NB), ns[j]? = some x → j ≠ i → x.k ≠ k := fun j x hj hji => by
    have := h3 j (List.mem_range.2 (List.getElem?_eq_some_iff.1 hj).1)
    rw [hj] at this
    simpa [hji] using this
  have hal' : ∀ (i : Nat) (x : AL), al[i]? = some x → x.k ≠ k := fun i x hx => by simpa using h4 x (List.mem_of_getElem? hx)
  have hs : ∀ (j : Nat) (x : NB), ns[j]? = some x → j ≠ i → updS σ (some d) v x.s = σ x.s := fun j x hj hji => upd_other (((c.ns j x hj).1).resolve_left (hne j x hj hji))
  have hold : ∀ (j : Nat) (x : NB), ns[j]? = some x → L x.k → blkOf (σ x.s) < U.heap.size := fun j x hj hL => (J.news j x hj hL).any fun _ h => h.blk.lt
  have hvg : blkOf v = g := by rw [hv, hb]
  refine ⟨fun j e x hj hL => ?_, fun j x hj hL => ?_, fun j x hj => ?_, fun j x hj hL => ?_, fun j p hp hL => ?_, fun j p x y hp hxx hyy hL hL' => ?_, pre_step J.pre c.pl, Nat.le_trans J.sz q.size, J.low, J.bb.trans (q.mono J.bb.size)⟩
  · have e1 : j ≠ k := fun e => by rw [e, h1] at hj; cases hj
    rw [upd_other (c.tb j e x hj e1)]
    exact J.vals j e x hj (hL.resolve_right e1)
  · by_cases e : j = i
    · subst e
      rw [hx] at hj
      cases hj
      have new : NewB (updS σ (some d) v d) B U' mk cs T := by
        rw [upd_same]
        exact NewB.of hv hb (Nat.le_trans J.sz hg) hB
      cases st with
      | none => exact new
      | some p =>
        refine ⟨fun _ => new, fun h => ?_⟩
        exfalso
        have hp1 : p.1 ≠ k := (c.ns j _ hx).2 p rfl
        have hm : (p.1, k) ∈ od := by simpa using h5
        obtain ⟨u, hu1, hu2⟩ := List.mem_iff_getElem.1 hm
        exact hnot (J.ord u (p.1, k) (by rw [List.getElem?_eq_getElem hu1, hu2]) (h.resolve_right hp1))
    · have hk := hne j x hj e
      exact (J.news j x hj (hL.resolve_right hk)).mono (fun p hp => ⟨fun h => h.resolve_right ((c.ns j x hj).2 p hp), .inl⟩) (fun cs h => (h.below q).cong (hs j x hj e))
  · exact (J.elds j x hj).mono (fun p hp => ⟨fun h => h.resolve_right (c.eb j x hj p hp), .inl⟩) (fun cs h => h.below q)
  · have hk := hal' j x hj
    obtain ⟨a1, a2⟩ := J.als j x hj (hL.resolve_right hk)
    have hb' : x.b ≠ k := fun e => hnot (e ▸ a2)
    rw [upd_other (((c.al j x hj).1).resolve_left hk), upd_other (((c.al j x hj).2).resolve_left hb')]
    exact ⟨a1, .inl a2⟩
  · exact .inl (J.ord j p hp (hL.resolve_right (c.od j p hp)))
  · by_cases e1 : p.1 = i
    · by_cases e2 : p.2 = i
      · exfalso
        have := List.all_eq_true.1 hd p (List.mem_of_getElem? hp)
        rw [e1, e2] at this
        simp at this
      · rw [e1, hx] at hxx
        cases hxx
        show blkOf (updS σ (some d) v d) ≠ _
        rw [upd_same, hs _ y hyy e2, hvg]
        have := hold _ y hyy (hL'.resolve_right (hne _ y hyy e2))
        omega
    · by_cases e2 : p.2 = i
      · rw [e2, hx] at hyy
        cases hyy
        show _ ≠ blkOf (updS σ (some d) v d)
        rw [upd_same, hs _ x hxx e1, hvg]
        have := hold _ x hxx (hL.resolve_right (hne _ x hxx e1))
        omega
      · rw [hs _ x hxx e1, hs _ y hyy e2]
        exact J.dis j p x y hp hxx hyy (hL.resolve_right (hne _ x hxx e1)) (hL'.resolve_right (hne _ y hyy e2))

/-- The same in few words: a value; a value of a call; a block made by the operation itself; one made by a call. -/
def okV (pl : List (Nat × Nat × Value)) (tb : List Row) (ns : List NB) (eb : List EB) (al : List AL) (od : List (Nat × Nat)) (k d : Nat) : Bool := chk pl tb ns eb al od k d && ((ns.all fun x => x.k != k) && (al.all fun x => x.k != k && x.b != k))
theorem RJ.sq (J : RJ w B tb ns eb al od dl pl L σ U) (k : Nat) {d : Nat} {v : Value} (h1 : tb[k]? = some (.v d v)) (h2 : okV pl tb ns eb al od k d = true) (q : Below U.heap.size U U') : RJ w B tb ns eb al od dl pl (fun j => L j ∨ j = k) (updS σ (some d) v) U' := by
  unfold okV at h2
  simp only [Bool.and_eq_true] at h2
  exact J.step k h1 h2.1 h2.2.1 (by simpa using h2.2.2) q
theorem RJ.sto (J : RJ w B tb ns eb al od dl pl L σ U) (k : Nat) {d : Nat} {v : Value} (h1 : tb[k]? = some (.v d v)) (h2 : okV pl tb ns eb al [] k d = true) (hod : OdAll k L od) (q : Below U.heap.size U U') : RJ w B tb ns eb al od dl pl (fun j => L j ∨ j = k) (updS σ (some d) v) U' := by
  unfold okV at h2
  simp only [Bool.and_eq_true] at h2
  exact J.stepO k h1 h2.1 hod h2.2.1 (by simpa using h2.2.2) q
theorem RJ.st (J : RJ w B tb ns eb al od dl pl L σ U) (k : Nat) {d : Nat} {v : Value} (h1 : tb[k]? = some (.v d v)) (h2 : okV pl tb ns eb al od k d = true) : RJ w B tb ns eb al od dl pl (fun j => L j ∨ j = k) (updS σ (some d) v) U := J.sq k h1 h2 (Below.refl _ _)
def okN (pl : List (Nat × Nat × Value)) (tb : List Row) (ns : List NB) (eb : List EB) (al : List AL) (od dl : List (Nat × Nat)) (k i d : Nat) (st : Option (Nat × Array Value)) : Bool :=
  chk pl tb ns eb al od k d && (((List.range ns.length).all fun j => j == i || (ns[j]?.map NB.k) != some k) && ((al.all fun x => x.k != k) && ((st.all fun p => od.contains (p.1, k)) && ((al.all fun x => x.b != k || x.s == d) && (dl.all fun p => p.1 != p.2)))))
theorem RJ.mq (J : RJ w B tb ns eb al od dl pl L σ U) (k i : Nat) {d g : Nat} {mk : Nat → Value} {cs : Array Value} {T : TypeId} {st : Option (Nat × Array Value)} {v : Value} (hx : ns[i]? = some ⟨k, d, mk, cs, T, st⟩) (h1 : tb[k]? = some (.n d)) (h2 : okN pl tb ns eb al od dl k i d st = true)
    (hv : v = mk g) (hb : blkOf (mk g) = g) (hg : U.heap.size ≤ g) (hB : Blk U' g cs T) (q : Below U.heap.size U U') (hnot : ¬ L k) : RJ w B tb ns eb al od dl pl (fun j => L j ∨ j = k) (updS σ (some d) v) U' := by
  unfold okN at h2
  simp only [Bool.and_eq_true] at h2
  exact J.made k i hx h1 h2.1 h2.2.1 h2.2.2.1 h2.2.2.2.1 h2.2.2.2.2.1 h2.2.2.2.2.2 hv hb hg hB q hnot
theorem RJ.mf (J : RJ w B tb ns eb al od dl pl L σ U) (k i : Nat) {d : Nat} {mk : Nat → Value} {cs : Array Value} {T : TypeId} {st : Option (Nat × Array Value)} {v : Value} (hx : ns[i]? = some ⟨k, d, mk, cs, T, st⟩) (h1 : tb[k]? = some (.n d)) (h2 : okN pl tb ns eb al od dl k i d st = true)
    (hv : v = mk U.heap.size) (hb : blkOf (mk U.heap.size) = U.heap.size) (hnot : ¬ L k) : RJ w B tb ns eb al od dl pl (fun j => L j ∨ j = k) (updS σ (some d) v) (U.alloc (.cells cs T)) :=
  J.mq k i hx h1 h2 hv hb (Nat.le_refl _) (Blk.fresh U cs T) (below_new U _) hnot

/-- What an operation that stores leaves of L. -/
def chkS (ns : List NB) (al : List AL) (tb : List Row) (k : Nat) : Bool := (ns.all fun x => x.k != k) && (al.all fun x => x.k != k) && ((tb[k]?.bind Row.dst) == none)
structure ChkS (ns : List NB) (al : List AL) (tb : List Row) (k : Nat) : Prop where
  ns : ∀ (i : Nat) (x : NB), ns[i]? = some x → x.k ≠ k
  al : ∀ (i : Nat) (x : AL), al[i]? = some x → x.k ≠ k
  tb : ∀ (d : Nat) (x : Value), tb[k]? ≠ some (.v d x)
theorem ChkS.of {k : Nat} (h : chkS ns al tb k = true) : ChkS ns al tb k := by
  unfold chkS at h
  simp only [Bool.and_eq_true, List.all_eq_true] at h
  refine ⟨fun i x hx => by simpa using h.1.1 x (List.mem_of_getElem? hx), fun i x hx => by simpa using h.1.2 x (List.mem_of_getElem? hx), fun d x hx => ?_⟩
  have := h.2
  rw [hx] at this
  simp [Row.dst] at this

/-- An operation that writes an elder block. -/
theorem RJ.stored (J : RJ w B tb ns eb al od dl pl L σ U) (k i : Nat) {e : Nat} {cs cs' : Array Value} {T : TypeId} {st : Option (Nat × Array Value)} {v : Value} (hx : eb[i]? = some ⟨e, cs, T, st⟩) (h1 : chkS ns al tb k = true) (hst : st = some (k, cs') ∨ (st = none ∧ cs' = cs))
    (h2 : ((List.range eb.length).all fun j => j == i || (eb[j]?.bind fun x => x.st.map Prod.fst) != some k) = true) (h3 : (ns.all fun x => (x.st.map Prod.fst) != some k) = true)
    (o : Nat) (vs : List Value) (hcs : putCells cs o vs = cs') (hlow : w.heap.size ≤ e) (hlt : e < B) (hne : NeAll e i 0 eb) (hnot : ¬ L k) (hod' : OdAll k L od) :
    RJ w B tb ns eb al od dl pl (fun j => L j ∨ j = k) (updS σ none v) (setAll U e o vs) := by
  have c := ChkS.of h1
  have hod := hod'.at_
  simp only [List.all_eq_true] at h2 h3
  have hσ : updS σ none v = σ := rfl
  rw [hσ]
  have hst3 : ∀ (j : Nat) (x : NB), ns[j]? = some x → ∀ p, x.st = some p → p.1 ≠ k := fun j x hj p hp e => by
    have := h3 x (List.mem_of_getElem? hj)
    rw [hp] at this
    simp [e] at this
  have hst2 : ∀ (j : Nat) (x : EB), eb[j]? = some x → j ≠ i → ∀ p, x.st = some p → p.1 ≠ k := fun j x hj hji p hp e => by
    have := h2 j (List.mem_range.2 (List.getElem?_eq_some_iff.1 hj).1)
    rw [hj] at this
    simp [hji, hp, e] at this
  refine ⟨fun j d x hj hL => ?_, fun j x hj hL => ?_, fun j x hj => ?_, fun j x hj hL => ?_, fun j p hp hL => ?_, fun j p x y hp hxx hyy hL hL' => ?_, fun j p hp hn' => J.pre j p hp (fun x => hn' (.inl x)), by rw [size_setA]; exact J.sz, J.low, J.bb.trans (below_setA U w.heap.size e hlow o vs)⟩
  · exact J.vals j d x hj (hL.resolve_right (fun e => c.tb d x (e ▸ hj)))
  · exact (J.news j x hj (hL.resolve_right (c.ns j x hj))).mono (fun p hp => ⟨fun h => h.resolve_right (hst3 j x hj p hp), .inl⟩) (fun cs h => h.old hlt o vs)
  · by_cases hji : j = i
    · subst hji
      rw [hx] at hj
      cases hj
      rcases hst with rfl | ⟨rfl, rfl⟩
      · have old := (J.elds j _ hx).1 hnot
        exact ⟨fun h => absurd (.inr rfl) h, fun _ => hcs ▸ old.setA o vs⟩
      · have old : Blk U e cs' T := J.elds j _ hx
        show Blk (setAll U e o vs) e cs' T
        have := old.setA o vs
        rw [hcs] at this
        exact this
    · have hxe : x.e ≠ e := (hne.at_ j x hj).resolve_left (fun h => hji (by omega))
      exact (J.elds j x hj).mono (fun p hp => ⟨fun h => h.resolve_right (hst2 j x hj hji p hp), .inl⟩) (fun cs h => h.elseA hxe o vs)
  · obtain ⟨a1, a2⟩ := J.als j x hj (hL.resolve_right (c.al j x hj))
    exact ⟨a1, .inl a2⟩
  · by_cases e1 : p.1 = k
    · exact .inl (hod j p hp e1)
    · exact .inl (J.ord j p hp (hL.resolve_right e1))
  · exact J.dis j p x y hp hxx hyy (hL.resolve_right (c.ns _ x hxx)) (hL'.resolve_right (c.ns _ y hyy))

/-- The pairs that keep block i of the new ones apart from the others. -/
def apart (ns : List NB) (dl : List (Nat × Nat)) (i : Nat) : Bool := (List.range ns.length).all fun j => j == i || dl.contains (i, j) || dl.contains (j, i)

/-- An operation that writes a block made here. -/
theorem RJ.storedN (J : RJ w B tb ns eb al od dl pl L σ U) (k i : Nat) {k0 s : Nat} {mk : Nat → Value} {cs cs' : Array Value} {T : TypeId} {v : Value} (hx : ns[i]? = some ⟨k0, s, mk, cs, T, some (k, cs')⟩) (h1 : chkS ns al tb k = true)
    (h2 : ((List.range ns.length).all fun j => j == i || (ns[j]?.bind fun x => x.st.map Prod.fst) != some k) = true) (h3 : (eb.all fun x => (x.st.map Prod.fst) != some k) = true) (h4 : apart ns dl i = true)
    (o : Nat) (vs : List Value) (hcs : putCells cs o vs = cs') (helds' : LtAll B eb) (hk0 : L k0) (hnot : ¬ L k) (hod' : OdAll k L od) :
    RJ w B tb ns eb al od dl pl (fun j => L j ∨ j = k) (updS σ none v) (setAll U (blkOf (σ s)) o vs) := by
  have c := ChkS.of h1
  have hod := hod'.at_
  have helds := helds'.at_
  simp only [List.all_eq_true] at h2 h3
  have hσ : updS σ none v = σ := rfl
  rw [hσ]
  have me : NewB (σ s) B U mk cs T := (J.news i _ hx hk0).1 hnot
  have hst3 : ∀ (j : Nat) (x : EB), eb[j]? = some x → ∀ p, x.st = some p → p.1 ≠ k := fun j x hj p hp e => by
    have := h3 x (List.mem_of_getElem? hj)
    rw [hp] at this
    simp [e] at this
  have hst2 : ∀ (j : Nat) (x : NB), ns[j]? = some x → j ≠ i → ∀ p, x.st = some p → p.1 ≠ k := fun j x hj hji p hp e => by
    have := h2 j (List.mem_range.2 (List.getElem?_eq_some_iff.1 hj).1)
    rw [hj] at this
    simp [hji, hp, e] at this
  refine ⟨fun j d x hj hL => ?_, fun j x hj hL => ?_, fun j x hj => ?_, fun j x hj hL => ?_, fun j p hp hL => ?_, fun j p x y hp hxx hyy hL hL' => ?_, fun j p hp hn' => J.pre j p hp (fun x => hn' (.inl x)), by rw [size_setA]; exact J.sz, J.low, J.bb.trans (below_setA U w.heap.size _ (Nat.le_trans J.low me.low) o vs)⟩
  · exact J.vals j d x hj (hL.resolve_right (fun e => c.tb d x (e ▸ hj)))
  · have hL' := hL.resolve_right (c.ns j x hj)
    by_cases hji : j = i
    · subst hji
      rw [hx] at hj
      cases hj
      exact ⟨fun h => absurd (.inr rfl) h, fun _ => hcs ▸ me.setA o vs⟩
    · have hne : blkOf (σ x.s) ≠ blkOf (σ s) := by
        have := List.all_eq_true.1 h4 j (List.mem_range.2 (List.getElem?_eq_some_iff.1 hj).1)
        simp [hji] at this
        rcases this with h | h
        · obtain ⟨u, hu1, hu2⟩ := List.mem_iff_getElem.1 h
          exact Ne.symm (J.dis u (i, j) _ x (by rw [List.getElem?_eq_getElem hu1, hu2]) hx hj hk0 hL')
        · obtain ⟨u, hu1, hu2⟩ := List.mem_iff_getElem.1 h
          exact J.dis u (j, i) x _ (by rw [List.getElem?_eq_getElem hu1, hu2]) hj hx hL' hk0
      exact (J.news j x hj hL').mono (fun p hp => ⟨fun h => h.resolve_right (hst2 j x hj hji p hp), .inl⟩) (fun cs h => h.elseA hne o vs)
  · exact (J.elds j x hj).mono (fun p hp => ⟨fun h => h.resolve_right (hst3 j x hj p hp), .inl⟩) (fun cs h => h.elseA (fun e => by have := helds j x hj; have := me.low; omega) o vs)
  · obtain ⟨a1, a2⟩ := J.als j x hj (hL.resolve_right (c.al j x hj))
    exact ⟨a1, .inl a2⟩
  · by_cases e1 : p.1 = k
    · exact .inl (hod j p hp e1)
    · exact .inl (J.ord j p hp (hL.resolve_right e1))
  · exact J.dis j p x y hp hxx hyy (hL.resolve_right (c.ns _ x hxx)) (hL'.resolve_right (c.ns _ y hyy))

/-- A way into a block made here. -/
theorem RJ.way (J : RJ w B tb ns eb al od dl pl L σ U) (k i : Nat) {d s b : Nat} {m : Nat → Value} {v : Value} (hx : al[i]? = some ⟨k, d, s, b, m⟩) (h1 : tb[k]? = some (.n d)) (h2 : chk pl tb ns eb al od k d = true) (h3 : (ns.all fun x => x.k != k && x.s != d) = true)
    (h4 : ((List.range al.length).all fun j => j == i || (al[j]?.map AL.k) != some k) = true) (h5 : (al.all fun x => x.b != k && x.s != d) = true) (hv : v = m (blkOf (σ s))) (hb : L b) (hnot : ¬ L k) :
    RJ w B tb ns eb al od dl pl (fun j => L j ∨ j = k) (updS σ (some d) v) U := by
  have c := Chk.of h2
  simp only [List.all_eq_true] at h3 h4 h5
  have hns : ∀ (j : Nat) (x : NB), ns[j]? = some x → x.k ≠ k ∧ x.s ≠ d := fun j x hj => by simpa using h3 x (List.mem_of_getElem? hj)
  have hal : ∀ (j : Nat) (x : AL), al[j]? = some x → x.b ≠ k ∧ x.s ≠ d := fun j x hj => by simpa using h5 x (List.mem_of_getElem? hj)
  have hk : ∀ (j : Nat) (x : AL), al[j]? = some x → j ≠ i → x.k ≠ k := fun j x hj hji => by
    have := h4 j (List.mem_range.2 (List.getElem?_eq_some_iff.1 hj).1)
    rw [hj] at this
    simpa [hji] using this
  refine ⟨fun j e x hj hL => ?_, fun j x hj hL => ?_, fun j x hj => ?_, fun j x hj hL => ?_, fun j p hp hL => ?_, fun j p x y hp hxx hyy hL hL' => ?_, pre_step J.pre c.pl, J.sz, J.low, J.bb⟩
  · have e1 : j ≠ k := fun e => by rw [e, h1] at hj; cases hj
    rw [upd_other (c.tb j e x hj e1)]
    exact J.vals j e x hj (hL.resolve_right e1)
  · refine (J.news j x hj (hL.resolve_right (hns j x hj).1)).mono (fun p hp => ⟨fun h => h.resolve_right ((c.ns j x hj).2 p hp), .inl⟩) (fun cs h => h.cong (upd_other (hns j x hj).2))
  · exact (J.elds j x hj).mono (fun p hp => ⟨fun h => h.resolve_right (c.eb j x hj p hp), .inl⟩) (fun cs h => h)
  · by_cases e : j = i
    · subst e
      rw [hx] at hj
      cases hj
      show updS σ (some d) v d = m (blkOf (updS σ (some d) v s)) ∧ _
      rw [upd_same, upd_other (hal j _ hx).2]
      exact ⟨hv, .inl hb⟩
    · have hk' := hk j x hj e
      obtain ⟨a1, a2⟩ := J.als j x hj (hL.resolve_right hk')
      rw [upd_other (((c.al j x hj).1).resolve_left hk'), upd_other (hal j x hj).2]
      exact ⟨a1, .inl a2⟩
  · exact .inl (J.ord j p hp (hL.resolve_right (c.od j p hp)))
  · rw [upd_other (hns _ x hxx).2, upd_other (hns _ y hyy).2]
    exact J.dis j p x y hp hxx hyy (hL.resolve_right (hns _ x hxx).1) (hL'.resolve_right (hns _ y hyy).1)

/-- The slots behind the region. -/
def finR (σ : Nat → Value) : List Row → List Value
  | [] => []
  | .v _ x :: r => x :: finR σ r
  | .n d :: r => σ d :: finR σ r
  | .z :: r => finR σ r
def slotsOf : List Row → List Nat
  | [] => []
  | .v d _ :: r => d :: slotsOf r
  | .n d :: r => d :: slotsOf r
  | .z :: r => slotsOf r
theorem fin_eq {σ : Nat → Value} : ∀ (tb : List Row), (∀ (k d : Nat) (x : Value), tb[k]? = some (.v d x) → σ d = x) → (slotsOf tb).map σ = finR σ tb
  | [], _ => rfl
  | .v d x :: r, h => by
    show σ d :: (slotsOf r).map σ = x :: finR σ r
    rw [h 0 d x rfl, fin_eq r (fun k d x hk => h (k + 1) d x (by simpa using hk))]
  | .n d :: r, h => by
    show σ d :: (slotsOf r).map σ = σ d :: finR σ r
    rw [fin_eq r (fun k d x hk => h (k + 1) d x (by simpa using hk))]
  | .z :: r, h => by
    show (slotsOf r).map σ = finR σ r
    exact fin_eq r (fun k d x hk => h (k + 1) d x (by simpa using hk))
theorem RJ.fin (J : RJ w B tb ns eb al od dl pl L σ U) {n : Nat} (hn : tb.length = n) (hL : ∀ i, i < n → L i) : (slotsOf tb).map σ = finR σ tb :=
  fin_eq tb fun k d x hk => J.vals k d x hk (hL k (by rw [← hn]; exact (List.getElem?_eq_some_iff.1 hk).1))
theorem RJ.drew (J : RJ w B tb ns eb al od dl pl L σ U) : RJ w B tb ns eb al od dl pl L σ U.drew := by
  have q : Below U.heap.size U U.drew := (Below.refl _ _).drew
  exact ⟨J.vals, fun i x hx hL => (J.news i x hx hL).mono (fun _ _ => Iff.rfl) (fun cs h => h.below q), fun i x hx => (J.elds i x hx).mono (fun _ _ => Iff.rfl) (fun cs h => h.below q), J.als, J.ord, J.dis, J.pre, Nat.le_trans J.sz q.size, J.low, J.bb.drew⟩
end

section
variable {P : Program} {ops : Array Oper} {Q : Exit → Act → World → Prop}
theorem wp_region_par2 {id : Nat} {a : Act} {w : World} (hm : P.follows .mixedOrders = true) (slots : List Nat) (J : (Nat → Prop) → (Nat → Value) → World → Prop) (hb : backward ops = true) (hp : plainOps ops slots = true)
    (hin : (slots.all fun s => decide (s < a.tmps.size)) = true) (h0 : J (fun _ => False) (slotOf a) w.drew)
    (hstep : AllOps (fun i o => ∀ L a' w', OnlyAt slots a a' → J L (slotOf a') w' → ¬ L i → Waited L o.after.toList →
      ∀ K' : Act → World → Prop, Hid (∀ v w'', J (fun k => L k ∨ k = i) (updS (slotOf a') o.dst v) w'' → K' (a'.put o.dst v) w'') → Wants ops (slotOf a') o (Oper.wp P o a' w' K' Q) (J (fun k => L k ∨ k = i) (updS (slotOf a') o.dst undef) w')) 0 ops.toList)
    (hend : ∀ L σ w', J L σ w' → (∀ i, i < ops.size → L i) → Q .normal (putAll a slots (slots.map σ)) w') : (Code.region id ops true).wp P Q a w := by
  refine wp_region_any hm ?_
  have hin' : ∀ s ∈ slots, s < a.tmps.size := fun s hs => by simpa using List.all_eq_true.1 hin s hs
  exact wpAny_par (P := P) (Q := Q) (a0 := a) (slots := slots) (J := J) hb hp hin' (fun L a' w' hoa hJ i o ho hn hd K' hK => by
    have := AllOps.at_ ops.toList 0 i o hstep (by simpa using ho)
    rw [Nat.zero_add] at this
    exact this L a' w' hoa hJ hn (Waited.of _ (by simpa using hd)) K' hK)
    (fun L a' w' hoa hJ hL => by rw [hoa.eq hin']; exact hend L _ w' hJ hL) ops.size (Array.replicate ops.size false) a w.drew ⟨rfl, rfl, fun _ _ => rfl⟩ (by simp) (by simp) (by
      have e : upL (Array.replicate ops.size false) = fun _ => False := by
        funext k
        unfold upL
        apply propext
        by_cases h : k < ops.size <;> simp [h]
      rw [e]
      exact h0)
theorem wp_region_seq2 {id : Nat} {a : Act} {w : World} (slots : List Nat) (J : (Nat → Prop) → (Nat → Value) → World → Prop) (hp : plainOps ops slots = true)
    (hin : (slots.all fun s => decide (s < a.tmps.size)) = true) (h0 : J (fun _ => False) (slotOf a) w)
    (hstep : AllOps (fun i o => ∀ L a' w', OnlyAt slots a a' → J L (slotOf a') w' → ¬ L i → (∀ j, Nat.blt j i = true → L j) →
      ∀ K' : Act → World → Prop, Hid (∀ v w'', J (fun k => L k ∨ k = i) (updS (slotOf a') o.dst v) w'' → K' (a'.put o.dst v) w'') → Wants ops (slotOf a') o (Oper.wp P o a' w' K' Q) (J (fun k => L k ∨ k = i) (updS (slotOf a') o.dst undef) w')) 0 ops.toList)
    (hend : ∀ L σ w', J L σ w' → (∀ i, i < ops.size → L i) → Q .normal (putAll a slots (slots.map σ)) w') : (Code.region id ops false).wp P Q a w := by
  refine wp_region_list ?_
  have hin' : ∀ s ∈ slots, s < a.tmps.size := fun s hs => by simpa using List.all_eq_true.1 hin s hs
  refine wpList_par (P := P) (Q := Q) (a0 := a) (slots := slots) (J := J) hp hin' (fun L a' w' hoa hJ i o ho hn hd K' hK => by
    have := AllOps.at_ ops.toList 0 i o hstep (by simpa using ho)
    rw [Nat.zero_add] at this
    exact this L a' w' hoa hJ hn (fun j hj => hd j (Nat.le_of_ble_eq_true hj)) K' hK)
    (fun L a' w' hoa hJ hL => by rw [hoa.eq hin']; exact hend L _ w' hJ hL) ops.toList 0 a w rfl ⟨rfl, rfl, fun _ _ => rfl⟩ ?_
  have e : (fun i => i < 0) = fun _ : Nat => False := by
    funext k
    exact propext ⟨fun h => absurd h (Nat.not_lt_zero k), False.elim⟩
  rw [e]
  exact h0
end

end Go.Proofs.YtopilnlniidejaaGreatDoor
