/- 'append([]T{y}, r...)': a number laid ahead of a slice of numbers. -/
import Derived.Test.YtmkeigfckfkifaaDoorTrim
import Derived.Laws.AppendOwnNone
import Derived.Laws.AppendOwn
namespace Go.Proofs.YtmkeigfckfkifaaDoor
open Go.RowKit

section
variable {P : Program} {t e : TypeId} {k : IntKind} {bytes : Nat}

theorem Own.one (W : World) (e : TypeId) (k : IntKind) (y : Int) : Own (W.alloc (.cells #[.int k y] e)) W.heap.size e k (some ⟨W.heap.size, 0, none⟩) 1 1 [y] :=
  ⟨rfl, rfl, .inr ⟨W.heap.size, 1, #[.int k y], rfl, Nat.le_refl _, heap_alloc_new W _, Nat.le_refl _, by simp only [maxLen]; omega, rfl, rfl⟩⟩

theorem wpList_cons {ops : Array Oper} {rest : List Oper} {o : Oper} {a : Act} {Q : Exit → Act → World → Prop} (E : IntElem P t e k bytes) (hgd : o.guard = none) (s x : Operand)
    (ho : o.op = .call { callee := .builtin .append, args := #[s, x], argTypes := #[t, t] })
    (W : World) (y : Int) (R : List Int) (Ar : Option Addr) (cr : Nat) (hs : a.eval s = .slice (some ⟨W.heap.size, 0, none⟩) 1 1) (hx : a.eval x = .slice Ar R.length cr) (hr : Sl W k Ar cr R) (h0 : Ar = none → cr = 0) (hlen : R.length ≤ 1000000)
    (h : ∀ A' c' w', Own w' W.heap.size e k A' (R.length + 1) c' (y :: R) → Below W.heap.size W w' → wpList P ops Q rest (a.put o.dst (.slice A' (R.length + 1) c')) w') :
    wpList P ops Q (o :: rest) a (W.alloc (.cells #[.int k y] e)) := by
  obtain ⟨i, hi, hz, hsz, hby⟩ := info_parts E.info
  have hsm := E.small
  have h8 : (1 + R.length) * bytes ≤ (1 + R.length) * 8 := Nat.mul_le_mul_left _ hsm
  have hone := Own.one W e k y
  have hbel : Below W.heap.size W (W.alloc (.cells #[.int k y] e)) := (Below.refl _ _).alloc (Nat.le_refl _) _
  have hr' := hr.below hbel
  cases Ar with
  | none =>
    have hc := h0 rfl
    subst hc
    have hR : R = [] := by
      have := hr.cap
      exact List.length_eq_zero_iff.1 (by omega)
    subst hR
    refine wpList_append_own_none hgd s x t ho W.heap.size e i 1 E.ht hi _ 1 _ hs hone.2 hx ?_
    exact h _ _ _ hone hbel
  | some ad =>
    refine wpList_append_own _ hgd s x t ho W.heap.size e i (.int k 0) 1 bytes E.ht hi hz hsz hby rfl (by decide) _ 1 _ hs hone.2 ad R.length cr (R.map (Value.int k)) hx (by simp) ?_ (by simp [Value.oneCell'])
      (by simp only [maxLen]; omega) (by omega) (by simp) ?_
    · intro j u hu
      have hj : j < R.length := by
        have := (List.getElem?_eq_some_iff.1 hu).1
        simpa using this
      obtain ⟨b, o', e', hb, hc⟩ := hr'.at_ (by omega)
      injection e' with e'
      subst e'
      have h1 := hc j hj
      simp only [List.getElem?_map, List.getElem?_eq_getElem hj, Option.map_some, Option.some.injEq] at hu
      rw [← hu]
      rw [List.getElem?_eq_getElem hj] at h1
      rcases Nat.eq_zero_or_pos j with h2 | h2
      · subst h2
        simpa [Addr.add] using h1
      · simpa [Addr.add, Nat.ne_of_gt h2] using h1
    · intro v' w' h1 h2 _
      have h3 : w'.ownsRow W.heap.size e 1 v' (R.length + 1) ((y :: R).map (Value.int k)) := by
        rw [Nat.add_comm]; simpa using h1
      have h4 : ∃ A' c', v' = .slice A' (R.length + 1) c' := by
        rcases h3.2 with ⟨_, hn⟩ | ⟨g, cap, cur, hv, _⟩
        · simp at hn
        · exact ⟨_, _, hv⟩
      obtain ⟨A', c', rfl⟩ := h4
      exact h A' c' w' ⟨by simp, h3⟩ (hone.grownBelow h2 hbel (Nat.le_refl _) (by simp))
end

theorem cons64 {ops : Array Oper} {rest : List Oper} {o : Oper} {a : Act} {Q : Exit → Act → World → Prop} (hgd : o.guard = none) (s x : Operand)
    (ho : o.op = .call { callee := .builtin .append, args := #[s, x], argTypes := #[54, 54] })
    (W : World) (y : Int) (R : List Int) (Ar : Option Addr) (cr : Nat) (hs : a.eval s = .slice (some ⟨W.heap.size, 0, none⟩) 1 1) (hx : a.eval x = .slice Ar R.length cr) (hr : Sl W .u64 Ar cr R) (h0 : Ar = none → cr = 0) (hlen : R.length ≤ 1000000)
    (h : ∀ A' c' w', Own w' W.heap.size 72 .u64 A' (R.length + 1) c' (y :: R) → Below W.heap.size W w' → wpList Tryd.prog ops Q rest (a.put o.dst (.slice A' (R.length + 1) c')) w') :
    wpList Tryd.prog ops Q (o :: rest) a (W.alloc (.cells #[.int .u64 y] 72)) :=
  wpList_cons Elem64 hgd s x ho W y R Ar cr hs hx hr h0 hlen h

end Go.Proofs.YtmkeigfckfkifaaDoor
