/- Plain words for memory: a slice of numbers that reads as a list. No program in sight. -/
import Derived.WalkKit
import Derived.WalkSpells
import Derived.WalkLawsBesides
import Derived.Lib.Hide
import Derived.Laws.OwnMore
import Derived.Deep.AppendLies
import Derived.Deep.Draws
import Derived.Laws.MakeOwn
import Derived.Maps.AppendAt
namespace Go.Proofs.YtmkeigfckfkifaaDoor
open Go.RowKit

/-- The slice '.slice A l.length c' of kind k reads as the list l. -/
def Sl (w : World) (k : IntKind) (A : Option Addr) (c : Nat) (l : List Int) : Prop :=
  l.length ≤ c ∧ c ≤ maxLen ∧ (0 < l.length → ∃ b o, A = some ⟨b, o, none⟩ ∧ b < w.heap.size ∧ ∀ j, j < l.length → w.cell? ⟨b, o + j, none⟩ = some (.int k (l[j]?.getD 0)))

/-- The length in a slot, for a loop's measure. -/
def lenOf : Value → Nat | .slice _ n _ => n | _ => 0

section
variable {w w' : World} {k : IntKind} {A : Option Addr} {c : Nat} {l : List Int}

theorem Sl.cap (h : Sl w k A c l) : l.length ≤ c := h.1

theorem Sl.capMax (h : Sl w k A c l) : c ≤ maxLen := h.2.1

theorem Sl.at_ (h : Sl w k A c l) (hl : 0 < l.length) : ∃ b o, A = some ⟨b, o, none⟩ ∧ b < w.heap.size ∧ ∀ j, j < l.length → w.cell? ⟨b, o + j, none⟩ = some (.int k (l[j]?.getD 0)) := h.2.2 hl

theorem Sl.nil_ : Sl w k none 0 [] := ⟨Nat.le_refl _, Nat.zero_le _, fun h => absurd h (by simp)⟩

theorem Sl.below (h : Sl w k A c l) (hb : Below w.heap.size w w') : Sl w' k A c l :=
  ⟨h.1, h.2.1, fun hl => by
    obtain ⟨b, o, e, hlt, hc⟩ := h.2.2 hl
    exact ⟨b, o, e, Nat.lt_of_lt_of_le hlt hb.size, fun j hj => (hb.cell (p := ⟨b, o + j, none⟩) hlt).trans (hc j hj)⟩⟩

theorem Sl.take (h : Sl w k A c l) (n : Nat) : Sl w k A c (l.take n) := by
  refine ⟨Nat.le_trans (by simp; omega) h.1, h.2.1, fun hl => ?_⟩
  have hl' : 0 < l.length := by simp at hl; omega
  obtain ⟨b, o, e, hlt, hc⟩ := h.2.2 hl'
  refine ⟨b, o, e, hlt, fun j hj => ?_⟩
  have hj' : j < n ∧ j < l.length := by simp at hj; omega
  rw [hc j hj'.2, List.getElem?_take, if_pos hj'.1]

theorem Sl.drew (h : Sl w k A c l) : Sl w.drew k A c l := h
theorem Sl.drewN (h : Sl w k A c l) (n : Nat) : Sl (w.drewN n) k A c l := h
end

/-- Nothing but draws has happened. -/
def Drew (w w' : World) : Prop := ∃ n, w' = w.drewN n
theorem Drew.refl (w : World) : Drew w w := ⟨0, rfl⟩
theorem Drew.of (w : World) (n : Nat) : Drew w (w.drewN n) := ⟨n, rfl⟩
theorem Drew.more {w w' : World} (h : Drew w w') (n : Nat) : Drew w (w'.drewN n) := by
  obtain ⟨m, rfl⟩ := h
  exact ⟨m + n, by rw [World.drewN_drewN]⟩
theorem Drew.trans {w w' w'' : World} (h : Drew w w') (k : Drew w' w'') : Drew w w'' := by
  obtain ⟨m, rfl⟩ := k
  exact h.more m
theorem Drew.below {w w' : World} (h : Drew w w') (B : Nat) : Below B w w' := by
  obtain ⟨m, rfl⟩ := h
  exact ⟨rfl, rfl, rfl, Nat.le_refl _, fun _ _ => rfl⟩

/-- Zeros at the end left out. -/
def trimL : List Int → List Int
  | [] => []
  | x :: l => if trimL l = [] ∧ x = 0 then [] else x :: trimL l

theorem trimL_take (l : List Int) : trimL l = l.take (trimL l).length := by
  induction l with
  | nil => rfl
  | cons x l ih =>
    simp only [trimL]
    split
    · simp
    · simp only [List.length_cons, List.take_succ_cons]
      rw [← ih]

theorem trimL_len (l : List Int) : (trimL l).length ≤ l.length := by
  rw [trimL_take l]; simp; omega

theorem trimL_snoc_zero (l : List Int) : trimL (l ++ [0]) = trimL l := by
  induction l with
  | nil => simp [trimL]
  | cons x l ih => simp only [List.cons_append, trimL, ih]

theorem trimL_snoc_ne (l : List Int) (x : Int) (hx : x ≠ 0) : trimL (l ++ [x]) = l ++ [x] := by
  induction l with
  | nil => simp [trimL, hx]
  | cons y l ih => simp only [List.cons_append, trimL, ih]; simp

theorem trimL_of_last (l : List Int) (hl : 0 < l.length) (hx : l[l.length - 1]?.getD 0 ≠ 0) : trimL l = l := by
  obtain ⟨m, x, rfl⟩ : ∃ m x, l = m ++ [x] := ⟨l.dropLast, l.getLast (by intro h; simp [h] at hl), (List.dropLast_concat_getLast _).symm⟩
  exact trimL_snoc_ne m x (by simpa using hx)

theorem trimL_of_zero (l : List Int) (n : Nat) (hn : n < l.length) (hx : l[n]?.getD 0 = 0) : trimL (l.take (n + 1)) = trimL (l.take n) := by
  have h : l.take (n + 1) = l.take n ++ [0] := by
    rw [List.take_succ_eq_append_getElem hn]
    congr 2
    rw [List.getElem?_eq_getElem hn] at hx
    simpa using hx
  rw [h, trimL_snoc_zero]

theorem Sl.trim {w : World} {k : IntKind} {A : Option Addr} {c : Nat} {l : List Int} (h : Sl w k A c l) : Sl w k A c (trimL l) := by
  rw [trimL_take l]; exact h.take _

/-- What is known of a slice type t whose elements (of type e) are integers of kind k. -/
structure IntElem (P : Program) (t e : TypeId) (k : IntKind) (bytes : Nat) : Prop where
  ht : P.underlying t = some (.slice e)
  info : (P.info? e).map (fun i => (i.zero, i.size, i.bytes)) = some (some (.int k 0), 1, bytes)
  small : bytes ≤ 8

/-- A slice of the call's own, from block 'base' on, of n numbers that read as l. -/
def Own (w : World) (base : Nat) (e : TypeId) (k : IntKind) (A : Option Addr) (n c : Nat) (l : List Int) : Prop :=
  l.length = n ∧ w.ownsRow base e 1 (.slice A n c) n (l.map (Value.int k))

/-- A row of n zeros (behind a name). -/
def zrow (k : IntKind) (n : Nat) : Array Value := madeCells (Value.int k 0).cells (n * 1)

section
variable {P : Program} {w w' : World} {base : Nat} {t e : TypeId} {k : IntKind} {A : Option Addr} {n c bytes : Nat} {l : List Int}

theorem Own.len (h : Own w base e k A n c l) : l.length = n := h.1

theorem Own.form (h : Own w base e k A n c l) : (A = none ∧ n = 0 ∧ c = 0) ∨ ∃ g cur, A = some ⟨g, 0, none⟩ ∧ base ≤ g ∧ w.heap[g]? = some (.cells cur e (0, 0)) ∧ n ≤ c ∧ c ≤ maxLen ∧ cur.size = c * 1 ∧ cur.toList.take (n * 1) = l.map (Value.int k) := by
  rcases h.2.2 with ⟨h1, h2⟩ | ⟨g, cap, cur, hv, hg, hh, hn, hc, hs, ht⟩
  · injection h1 with h1 h3 h4
    exact .inl ⟨h1, h3, h4⟩
  · injection hv with h1 _ h4
    subst h4
    exact .inr ⟨g, cur, h1, hg, hh, hn, hc, hs, ht⟩

theorem Own.sl (h : Own w base e k A n c l) : Sl w k A c l := by
  have hl := h.len
  rcases h.form with ⟨rfl, rfl, rfl⟩ | ⟨g, cur, rfl, hg, hh, hn, hc, hs, ht⟩
  · exact ⟨by omega, Nat.zero_le _, fun hp => by omega⟩
  · refine ⟨by omega, hc, fun hp => ⟨g, 0, rfl, ?_, fun j hj => ?_⟩⟩
    · rcases Nat.lt_or_ge g w.heap.size with h1 | h1
      · exact h1
      · rw [Array.getElem?_eq_none h1] at hh; cases hh
    · have h2 := h.2.cells (g := g) rfl j (.int k (l[j]?.getD 0)) (by rw [List.getElem?_map, List.getElem?_eq_getElem hj]; rfl)
      have h3 : (⟨g, 0, none⟩ : Addr).add j = ⟨g, 0 + j, none⟩ := by
        unfold Addr.add
        split <;> simp_all
      rw [h3] at h2
      exact h2

theorem Own.alloc (h : Own w base e k A n c l) (o : Obj) : Own (w.alloc o) base e k A n c l := ⟨h.1, h.2.alloc o⟩

theorem Own.grown {row : Option Nat} (h : Own w base e k A n c l) (hg : w.grownBy w' row) (hne : row = none ∨ ∀ g, row = some g → g < base) : Own w' base e k A n c l := by
  refine ⟨h.1, h.2.kept hg ?_⟩
  rcases h.form with ⟨rfl, rfl, rfl⟩ | ⟨g, cur, rfl, hb, _⟩
  · exact .inl rfl
  · refine .inr (fun he => ?_)
    rcases hne with h1 | h1
    · rw [h1] at he; cases he
    · have := h1 g he.symm
      omega

theorem Own.below {B : Nat} (h : Own w base e k A n c l) (hb : Below B w w') (hB : w.heap.size ≤ B) : Own w' base e k A n c l := by
  refine ⟨h.1, ?_⟩
  obtain ⟨h1, h2⟩ := h.2
  refine ⟨h1, ?_⟩
  rcases h2 with h2 | ⟨g, cap, cur, hv, hg, hh, r⟩
  · exact .inl h2
  · refine .inr ⟨g, cap, cur, hv, hg, ?_, r⟩
    have hlt : g < w.heap.size := by
      rcases Nat.lt_or_ge g w.heap.size with h1 | h1
      · exact h1
      · rw [Array.getElem?_eq_none h1] at hh; cases hh
    rw [hb.block g (by omega)]
    exact hh

theorem Own.drew (h : Own w base e k A n c l) : Own w.drew base e k A n c l := h
theorem Own.drewN (h : Own w base e k A n c l) (m : Nat) : Own (w.drewN m) base e k A n c l := h

theorem Own.made (w : World) (hb : base ≤ w.heap.size) (hm : c ≤ maxLen) : Own (w.alloc (.cells (zrow k c) e)) base e k (some ⟨w.heap.size, 0, none⟩) 0 c [] :=
  ⟨rfl, World.ownsRow_made w _ c hb hm (size_madeCells _ _)⟩

theorem Own.nil_ (w : World) (base : Nat) (e : TypeId) (k : IntKind) : Own w base e k none 0 0 [] := ⟨rfl, World.ownsRow_nil w base e 1⟩

/-- 'make([]T, 0, c)', for the walk to take. -/
theorem run_mk0 (E : IntElem P t e k bytes) (c : Nat) (hc : c ≤ 1000000) (ci : Int) (hci : ci = c) : ∀ W : World, (Instr.makeSlice t (.int .i64 0) (.int .i64 ci)).run P W = .ok (.slice (some ⟨W.heap.size, 0, none⟩) 0 c) (W.alloc (.cells (zrow k c) e)) := by
  intro W
  obtain ⟨i, hi, hz, hsz, hby⟩ := info_parts E.info
  have hs := E.small
  subst hci
  have h1 : i.bytes * c ≤ 8 * c := Nat.mul_le_mul_right c (by omega)
  have h2 : (i.bytes : Int) * (c : Int) ≤ 281474976710656 := by
    have h : ((i.bytes * c : Nat) : Int) ≤ 281474976710656 := by omega
    rwa [Int.natCast_mul] at h
  have hr := run_make (P := P) W t e i (.int k 0) E.ht hi hz .i64 .i64 0 c (Int.le_refl _) (by omega) h2 (by omega)
  simp only [Int.toNat_zero, Int.toNat_natCast, hsz] at hr
  exact hr

/-- 'make([]T, n)', for the walk to take. -/
theorem run_mkn (E : IntElem P t e k bytes) (c : Nat) (hc : c ≤ 1000000) (ci : Int) (hci : ci = c) : ∀ W : World, (Instr.makeSlice t (.int .i64 ci) (.int .i64 ci)).run P W = .ok (.slice (some ⟨W.heap.size, 0, none⟩) c c) (W.alloc (.cells (zrow k c) e)) := by
  intro W
  obtain ⟨i, hi, hz, hsz, hby⟩ := info_parts E.info
  have hs := E.small
  subst hci
  have h1 : i.bytes * c ≤ 8 * c := Nat.mul_le_mul_right c (by omega)
  have h2 : (i.bytes : Int) * (c : Int) ≤ 281474976710656 := by
    have h : ((i.bytes * c : Nat) : Int) ≤ 281474976710656 := by omega
    rwa [Int.natCast_mul] at h
  have hr := run_make (P := P) W t e i (.int k 0) E.ht hi hz .i64 .i64 c c (by omega) (by omega) h2 (by omega)
  simp only [Int.toNat_natCast, hsz] at hr
  exact hr

theorem zrow_eq (k : IntKind) (n : Nat) : zrow k n = Array.replicate n (Value.int k 0) := by
  apply Array.ext
  · simp [zrow, size_madeCells]
  · intro i h1 h2
    simp [zrow, madeCells, Value.cells, Nat.mod_one]

/-- 'append(out, x)': one number more. -/
theorem wpList_push {ops : Array Oper} {rest : List Oper} {o : Oper} {a : Act} {Q : Exit → Act → World → Prop} (E : IntElem P t e k bytes) (hgd : o.guard = none) (s x : Operand)
    (ho : o.op = .call { callee := .builtin .append, args := #[s, x], argTypes := #[t, t] })
    (base : Nat) (A : Option Addr) (n c : Nat) (l : List Int) (W : World) (hs : a.eval s = .slice A n c) (hown : Own W base e k A n c l) (y : Int)
    (hx : a.eval x = .slice (some ⟨W.heap.size, 0, none⟩) 1 1) (h63 : n ≤ 1000000) (hbase : base ≤ W.heap.size)
    (h : ∀ A' c' w', Own w' base e k A' (n + 1) c' (l ++ [y]) → W.grownBy w' (Value.slice A n c).ownBlock → wpList P ops Q rest (a.put o.dst (.slice A' (n + 1) c')) w') :
    wpList P ops Q (o :: rest) a (W.alloc (.cells #[.int k y] e)) := by
  obtain ⟨i, hi, hz, hsz, hby⟩ := info_parts E.info
  have hsm := E.small
  have h8 : (n + 1) * bytes ≤ (n + 1) * 8 := Nat.mul_le_mul_left _ hsm
  refine wpList_append_own _ hgd s x t ho base e i (.int k 0) 1 bytes E.ht hi hz hsz hby rfl (by decide) (.slice A n c) n _ hs (hown.2.alloc _) ⟨W.heap.size, 0, none⟩ 1 1 [.int k y] hx rfl (cell_one_new _ _ _) (by simp [Value.oneCell'])
    (by simp only [maxLen]; omega) (by omega) (by simp; omega) ?_
  intro v' w' h1 h2 _
  have h3 : w'.ownsRow base e 1 v' (n + 1) ((l ++ [y]).map (Value.int k)) := by simpa using h1
  have h4 : ∃ A' c', v' = .slice A' (n + 1) c' := by
    rcases h3.2 with ⟨_, hn⟩ | ⟨g, cap, cur, hv, _⟩
    · simp at hn
    · exact ⟨_, _, hv⟩
  obtain ⟨A', c', rfl⟩ := h4
  refine h A' c' w' ⟨by simp [hown.1], h3⟩ ?_
  refine ⟨h2.os, h2.tape, h2.output, Nat.le_trans (by simp) h2.size, fun g hg hne => ?_⟩
  exact (h2.block g (by simp; omega) hne).trans (Below.heap_alloc W _ g hg)

/-- What has grown by a slice of the call's own is as it was below 'base'. -/
theorem Own.grownBelow {B : Nat} {a : World} (h : Own w base e k A n c l) (hg : w.grownBy w' (Value.slice A n c).ownBlock) (hb : Below B a w) (hB : B ≤ base) (hB2 : B ≤ w.heap.size) : Below B a w' :=
  hb.grown hg hB2 (fun g hgg => by
    rcases h.form with ⟨rfl, rfl, rfl⟩ | ⟨g', cur, rfl, hbg, _⟩
    · cases hgg
    · have : g' = g := by simpa [Value.ownBlock] using hgg
      omega)
end

/-- Block g is just the numbers l, of the call's own. -/
def Tab (w : World) (g : Nat) (e : TypeId) (k : IntKind) (l : List Int) : Prop := w.heap[g]? = some (.cells (l.map (Value.int k)).toArray e (0, 0))

section
variable {w w' : World} {g : Nat} {e : TypeId} {k : IntKind} {l : List Int}

theorem Tab.lt (h : Tab w g e k l) : g < w.heap.size := by
  rcases Nat.lt_or_ge g w.heap.size with h1 | h1
  · exact h1
  · unfold Tab at h; rw [Array.getElem?_eq_none h1] at h; cases h

theorem Tab.cell (h : Tab w g e k l) (i : Nat) (hi : i < l.length) : w.cell? ⟨g, i, none⟩ = some (.int k (l[i]?.getD 0)) := by
  rw [cell_of_row w g i _ e (0, 0) h]
  simp [List.getElem?_eq_getElem hi]

theorem Tab.frozen (h : Tab w g e k l) (i : Nat) : w.frozen? ⟨g, i, none⟩ = false := by
  unfold Tab at h
  simp [World.frozen?, h]

theorem Tab.set (h : Tab w g e k l) (i : Nat) (v : Int) : Tab (w.setCell ⟨g, i, none⟩ (.int k v)) g e k (l.set i v) := by
  unfold Tab at h ⊢
  simp [World.setCell, Array.getElem?_modify, h, List.map_set]

theorem Tab.alloc (h : Tab w g e k l) (o : Obj) : Tab (w.alloc o) g e k l := (Below.heap_alloc w o g h.lt).trans h
theorem Tab.drewN (h : Tab w g e k l) (n : Nat) : Tab (w.drewN n) g e k l := h
theorem Tab.far (h : Tab w g e k l) {p : Addr} (hp : g ≠ p.block) (u : Value) : Tab (w.setCell p u) g e k l := (Below.heap_setCell w p u g hp).trans h
theorem Tab.below {B : Nat} (h : Tab w g e k l) (hb : Below B w w') (hg : g < B) : Tab w' g e k l := (hb.block g hg).trans h

theorem Tab.made (w : World) (e : TypeId) (k : IntKind) (n : Nat) : Tab (w.alloc (.cells (zrow k n) e)) w.heap.size e k (List.replicate n 0) := by
  unfold Tab
  rw [heap_alloc_new, zrow_eq]
  simp

theorem Tab.sl (h : Tab w g e k l) (hm : l.length ≤ 1000000) : Sl w k (some ⟨g, 0, none⟩) l.length l :=
  ⟨Nat.le_refl _, by simp only [maxLen]; omega, fun _ => ⟨g, 0, rfl, h.lt, fun j hj => by rw [Nat.zero_add]; exact h.cell j hj⟩⟩

theorem Tab.slN {n : Nat} (h : Tab w g e k l) (hn : l.length = n) (hm : n ≤ 1000000) : Sl w k (some ⟨g, 0, none⟩) n l := by
  subst hn; exact h.sl hm
end

end Go.Proofs.YtmkeigfckfkifaaDoor
