/- The walks of the reference on pieces of four digits. -/
import Derived.Test.YtajkeoapfkkjbaaGreatDoorProg
import Derived.Test.YtajkeoapfkkjbaaGreatDoorGPlain
import Derived.Test.YtajkeoapfkkjbaaGreatDoorGMag
import Derived.Test.YtajkeoapfkkjbaaGreatDoorGText
import Derived.BigRegion
import Derived.Deep.QuietTactic
import Derived.BigQuiet
import Derived.Lib.TrimByte
/- The walk of klipperef01.cut: pieces of four digits. -/
namespace Go.Proofs.YtajkeoapfkkjbaaGreatDoor
set_option linter.all false
open Go.RowKit

/-- A nil slice of the call's own has no room. -/
theorem Own.none_cap {w : World} {base n c : Nat} {e : TypeId} {k : IntKind} {A : Option Addr} {l : List Int} (h : Own w base e k A n c l) : A = none → c = 0 := by
  intro hA
  rcases h.form with ⟨_, _, hc⟩ | ⟨g, cur, rfl, _⟩
  · exact hc
  · cases hA

end Go.Proofs.YtajkeoapfkkjbaaGreatDoor

/- 'append(s, r...)' onto a slice of the call's own, and a store into one. -/
namespace Go.Proofs.YtajkeoapfkkjbaaGreatDoor
open Go.RowKit

section
variable {P : Program} {t e : TypeId} {k : IntKind} {bytes base n c : Nat} {w : World} {A : Option Addr} {l : List Int}

theorem Own.block_ge (h : Own w base e k A n c l) (p : Addr) (hp : A = some p) : base ≤ p.block := by
  rcases h.form with ⟨rfl, _, _⟩ | ⟨g, cur, rfl, hg, _⟩
  · cases hp
  · injection hp with hp
    subst hp
    exact hg

theorem Own.base_le {base' : Nat} (h : Own w base e k A n c l) (hb : base' ≤ base) : Own w base' e k A n c l := by
  obtain ⟨h1, h2, h3⟩ := h
  refine ⟨h1, h2, ?_⟩
  rcases h3 with h3 | ⟨g, cap, cur, hv, hg, r⟩
  · exact .inl h3
  · exact .inr ⟨g, cap, cur, hv, Nat.le_trans hb hg, r⟩

theorem Own.at_ (h : Own w base e k A n c l) (hn : 0 < n) : ∃ g, A = some ⟨g, 0, none⟩ ∧ base ≤ g ∧ g < w.heap.size ∧ (∀ i : Nat, i < n → w.cell? ⟨g, i, none⟩ = some (.int k (l[i]?.getD 0))) ∧ (∀ i : Nat, w.frozen? ⟨g, i, none⟩ = false) ∧
    (∀ (i : Nat) (v : Int), i < n → Own (w.setCell ⟨g, i, none⟩ (.int k v)) base e k (some ⟨g, 0, none⟩) n c (l.set i v)) := by
  have hl := h.len
  rcases h.form with ⟨rfl, rfl, rfl⟩ | ⟨g, cur, rfl, hg, hh, hnc, hc, hs, ht⟩
  · omega
  · obtain ⟨b, o, e1, hlt, hcell⟩ := h.sl.at_ (by omega)
    injection e1 with e1
    injection e1 with e1 e2
    subst e1 e2
    refine ⟨g, rfl, hg, hlt, fun i hi => ?_, fun i => by simp [World.frozen?, hh], fun i v hi => ?_⟩
    · have := hcell i (by omega)
      rw [Nat.zero_add] at this
      exact this
    · refine ⟨by simp [hl], by simp [hl], .inr ⟨g, c, cur.setIfInBounds i (.int k v), rfl, hg, by simp [World.setCell, Array.getElem?_modify, hh], hnc, hc, by simp [hs], ?_⟩⟩
      rw [Array.toList_setIfInBounds, List.take_set, ht, List.map_set]

theorem wpList_onto {ops : Array Oper} {rest : List Oper} {o : Oper} {a : Act} {Q : Exit → Act → World → Prop} (E : IntElem P t e k bytes) (hgd : o.guard = none) (s x : Operand)
    (ho : o.op = .call { callee := .builtin .append, args := #[s, x], argTypes := #[t, t] })
    (base n c : Nat) (A : Option Addr) (l : List Int) (W : World) (R : List Int) (Ar : Option Addr) (cr : Nat) (hs : a.eval s = .slice A n c) (hown : Own W base e k A n c l) (hx : a.eval x = .slice Ar R.length cr) (hr : Sl W k Ar cr R) (h0 : Ar = none → cr = 0) (hn : n ≤ 1000000) (hlen : R.length ≤ 1000000) (hbase : base ≤ W.heap.size)
    (h : ∀ A' c' w', Own w' base e k A' (n + R.length) c' (l ++ R) → W.grownBy w' (Value.slice A n c).ownBlock → wpList P ops Q rest (a.put o.dst (.slice A' (n + R.length) c')) w') :
    wpList P ops Q (o :: rest) a W := by
  obtain ⟨i, hi, hz, hsz, hby⟩ := info_parts E.info
  have hsm := E.small
  have h8 : (n + R.length) * bytes ≤ (n + R.length) * 8 := Nat.mul_le_mul_left _ hsm
  cases Ar with
  | none =>
    have hc := h0 rfl
    subst hc
    have hR : R = [] := by
      have := hr.cap
      exact List.length_eq_zero_iff.1 (by omega)
    subst hR
    refine wpList_append_own_none hgd s x t ho base e i 1 E.ht hi _ n _ hs hown.2 hx ?_
    exact h _ _ _ (by rw [List.append_nil]; exact hown) ⟨rfl, rfl, rfl, Nat.le_refl _, fun _ _ _ => rfl⟩
  | some ad =>
    refine wpList_append_own _ hgd s x t ho base e i (.int k 0) 1 bytes E.ht hi hz hsz hby rfl (by decide) _ n _ hs hown.2 ad R.length cr (R.map (Value.int k)) hx (by simp) ?_ (by simp [Value.oneCell'])
      (by simp only [maxLen]; omega) (by omega) hbase ?_
    · intro j u hu
      have hj : j < R.length := by
        have := (List.getElem?_eq_some_iff.1 hu).1
        simpa using this
      obtain ⟨b, o', e', hb, hc⟩ := hr.at_ (by omega)
      injection e' with e'
      subst e'
      have h1 := hc j hj
      simp only [List.getElem?_map, List.getElem?_eq_getElem hj, Option.map_some, Option.some.injEq] at hu
      rw [← hu]
      rw [List.getElem?_eq_getElem hj] at h1
      rcases Nat.eq_zero_or_pos j with h2 | h2
      · subst h2
        simpa [Addr.add] using h1
      · simpa [Addr.add, Nat.ne_of_gt h2] using h1
    · intro v' w' h1 h2 _
      have h3 : w'.ownsRow base e 1 v' (n + R.length) ((l ++ R).map (Value.int k)) := by simpa using h1
      have h4 : ∃ A' c', v' = .slice A' (n + R.length) c' := by
        rcases h3.2 with ⟨hv, hn0⟩ | ⟨g, cap, cur, hv, _⟩
        · exact ⟨none, 0, by rw [hv, hn0]⟩
        · exact ⟨_, _, hv⟩
      obtain ⟨A', c', rfl⟩ := h4
      exact h A' c' w' ⟨by simp [hown.len], h3⟩ h2
end

end Go.Proofs.YtajkeoapfkkjbaaGreatDoor

/- The walk of klipperef01.joined: the sum of pieces and a multiple of others. -/
namespace Go.Proofs.YtajkeoapfkkjbaaGreatDoor
open Go.RowKit

/-- '[]int{}': a slice of the call's own. -/
theorem Own.zero (w : World) (e : TypeId) (k : IntKind) : Own (w.alloc (.cells #[] e)) w.heap.size e k (some ⟨w.heap.size, 0, none⟩) 0 0 [] :=
  ⟨rfl, rfl, .inr ⟨w.heap.size, 0, #[], rfl, Nat.le_refl _, heap_alloc_new w _, Nat.le_refl _, Nat.zero_le _, rfl, rfl⟩⟩

theorem getD_snoc0 (m : List Int) (i : Nat) : (m ++ [0])[i]?.getD 0 = m[i]?.getD 0 := by
  by_cases h : i < m.length
  · rw [List.getElem?_append_left h]
  · rw [List.getElem?_append_right (by omega), List.getElem?_eq_none (l := m) (by omega)]
    by_cases h2 : i - m.length = 0
    · rw [h2]; rfl
    · rw [List.getElem?_eq_none (by simp; omega)]

end Go.Proofs.YtajkeoapfkkjbaaGreatDoor

/- The walk of klipperef01.less: magnitudes in pieces of four digits are compared. -/
namespace Go.Proofs.YtajkeoapfkkjbaaGreatDoor
open Go.RowKit

theorem less_len {a b : Nat} (h : (lim4 a).length < (lim4 b).length) : a < b := lim_len_lt 10000 (by omega) a b h

theorem less_top (a b i : Nat) (hl : (lim4 a).length = (lim4 b).length) (hi : i < (lim4 a).length) (hs : (lim4 a).drop (i + 1) = (lim4 b).drop (i + 1))
    (hlt : (lim4 a)[i]?.getD 0 < (lim4 b)[i]?.getD 0) : a < b := by
  have h := val_lt_of_top _ (by omega) (lim4 a) (lim4 b) (lim4_digs a) (lim4_digs b) hl i hi hs hlt
  rw [lim4_val, lim4_val] at h
  omega

theorem lim4_inj {a b : Nat} (h : lim4 a = lim4 b) : a = b := lim_inj 10000 (by omega) a b h

theorem ret_lt {a b : Bool} (h : a = b) : Ending.returned (.bool a) = .returned (.bool b) := by rw [h]

end Go.Proofs.YtajkeoapfkkjbaaGreatDoor

/- The walk of klipperef01.parts: division piece by piece, each piece of the quotient by halving. -/
namespace Go.Proofs.YtajkeoapfkkjbaaGreatDoor
open Go.RowKit

/-- The pieces from kk on are divided: r is left, and out holds the quotient's pieces. -/
def PartR (x y n kk r : Nat) (out : List Int) : Prop := r = x / 10000 ^ kk % y ∧ Digs 10000 out ∧ out.length = n ∧ valB 10000 (out.drop kk) = ((x / 10000 ^ kk / y : Nat) : Int)

theorem part_start (x y : Nat) : PartR x y (lim4 x).length (lim4 x).length 0 (List.replicate (lim4 x).length 0) := by
  unfold PartR
  rw [div_past4, Nat.zero_mod, Nat.zero_div]
  refine ⟨rfl, Digs.zeros (by omega) _, by simp, ?_⟩
  rw [List.drop_of_length_le (by simp)]
  rfl

theorem part_step {x y i r c : Nat} {out : List Int} (h : PartR x y (lim4 x).length (i + 1) r out) (hi : i < (lim4 x).length) (hy : 0 < y) (hc : (lim4 x)[i]?.getD 0 = (c : Int)) :
    PartR x y (lim4 x).length i ((c + 10000 * r) % y) (out.set i (((c + 10000 * r) / y : Nat) : Int)) := by
  obtain ⟨hr, hd, hl, hv⟩ := h
  have hp := piece_val4 x i hi
  have hc4 := at4 x i
  rw [hc] at hp hc4
  generalize x / 10000 ^ (i + 1) = u at *
  have hu := Nat.div_add_mod u y
  have hrl : r < y := by rw [hr]; exact Nat.mod_lt _ hy
  have hp3 : x / 10000 ^ i = c + 10000 * u := by omega
  obtain ⟨n1, n2⟩ := parts_next y (u / y) r c hy
  rw [← hr] at hu
  rw [hu, ← hp3] at n1 n2
  have hlt := parts_lt y r c hrl (by omega)
  refine ⟨n2.symm, hd.set i (Int.natCast_nonneg _) (Int.ofNat_lt.2 hlt), by simpa using hl, ?_⟩
  rw [drop_getD _ i (by simp; omega), List.getElem?_set_self (by omega), Option.getD_some, List.drop_set_of_lt (by omega)]
  simp only [valB]
  rw [hv, n1]
  simp only [Int.natCast_add, Int.natCast_mul]
  rw [Int.add_comm]; rfl

theorem part_end {x y n r : Nat} {out : List Int} (h : PartR x y n 0 r out) : r = x % y ∧ Digs 10000 out ∧ out.length = n ∧ valB 10000 out = ((x / y : Nat) : Int) := by
  unfold PartR at h
  rw [Nat.pow_zero, Nat.div_one, List.drop_zero] at h
  exact h

/-- A slice that lies elsewhere is not hit. -/
theorem Sl.put_away {w : World} {k : IntKind} {A : Option Addr} {c : Nat} {p : Addr} {l : List Int} (h : Sl w k A c l) (hp : ∀ q : Addr, A = some q → q.block ≠ p.block) (u : Value) : Sl (w.setCell p u) k A c l :=
  ⟨h.1, h.2.1, fun hl => by
    obtain ⟨b, o, e, hlt, hc⟩ := h.2.2 hl
    have hbg : b ≠ p.block := hp _ e
    exact ⟨b, o, e, by simpa [World.setCell] using hlt, fun j hj => (World.cell?_setCell_other _ _ _ _ (fun e => hbg (congrArg Addr.block e).symm)).trans (hc j hj)⟩⟩

end Go.Proofs.YtajkeoapfkkjbaaGreatDoor

/- The walk of klipperef01.times: the product of two magnitudes in pieces of four digits. -/
namespace Go.Proofs.YtajkeoapfkkjbaaGreatDoor
open Go.RowKit

/-- Products so far, i places of the first number behind us, and k of the second one in place i. -/
def ProdR (X Y : List Int) (i k : Nat) (out : List Int) : Prop :=
  out.length = X.length + Y.length ∧ (∀ j : Nat, 0 ≤ out[j]?.getD 0 ∧ out[j]?.getD 0 ≤ if j < i + k then (i + 1) * 100000000 else i * 100000000) ∧
  valB 10000 out = valB 10000 (X.take i) * valB 10000 Y + 10000 ^ i * (X[i]?.getD 0 * valB 10000 (Y.take k))

theorem prod_start (X Y : List Int) : ProdR X Y 0 0 (List.replicate (X.length + Y.length) 0) := by
  refine ⟨by simp, fun j => ?_, by rw [valB_zeros]; simp [valB]⟩
  have h : (List.replicate (X.length + Y.length) (0 : Int))[j]?.getD 0 = 0 := by
    cases e : (List.replicate (X.length + Y.length) (0 : Int))[j]? with
    | none => rfl
    | some x => exact List.eq_of_mem_replicate (List.mem_of_getElem? e)
  rw [h]
  simp

theorem prod_bound {X Y out : List Int} {i k : Nat} (h : ProdR X Y i k out) (hi : i ≤ 60000) (j : Nat) : 0 ≤ out[j]?.getD 0 ∧ out[j]?.getD 0 ≤ 10000000000000 := by
  have h1 := h.2.1 j
  split at h1 <;> omega

theorem mul_piece4 {x y : Int} (hx0 : 0 ≤ x) (hx : x < 10000) (hy0 : 0 ≤ y) (hy : y < 10000) : 0 ≤ x * y ∧ x * y ≤ 100000000 := by
  have h1 : x * y ≤ 10000 * y := Int.mul_le_mul_of_nonneg_right (by omega) hy0
  exact ⟨Int.mul_nonneg hx0 hy0, by omega⟩

theorem prod_step {X Y out : List Int} {i k : Nat} (hi : i < X.length) (hk : k < Y.length) (dX : Digs 10000 X) (dY : Digs 10000 Y) (h : ProdR X Y i k out) :
    ProdR X Y i (k + 1) (out.set (i + k) (out[i + k]?.getD 0 + X[i]?.getD 0 * Y[k]?.getD 0)) := by
  obtain ⟨hl, hb, hv⟩ := h
  have hx := dX.at_ (by omega) i
  have hy := dY.at_ (by omega) k
  have hm := mul_piece4 hx.1 hx.2 hy.1 hy.2
  refine ⟨by simpa using hl, fun j => ?_, ?_⟩
  · clear hv
    have hbj := hb j
    have hbk := hb (i + k)
    have hn : ¬ i + k < i + k := by omega
    rw [if_neg hn] at hbk
    clear hb
    by_cases h1 : j = i + k
    · subst h1
      have hp : i + k < i + (k + 1) := by omega
      rw [List.getElem?_set_self (by omega), Option.getD_some, if_pos hp]
      generalize out[i + k]?.getD 0 = o at *
      generalize X[i]?.getD 0 * Y[k]?.getD 0 = q at *
      omega
    · rw [List.getElem?_set_ne (by omega)]
      generalize out[j]?.getD 0 = o at *
      by_cases h2 : j < i + k
      · have hp : j < i + (k + 1) := by omega
        rw [if_pos h2] at hbj
        rw [if_pos hp]
        exact hbj
      · have hp : ¬ j < i + (k + 1) := by omega
        rw [if_neg h2] at hbj
        rw [if_neg hp]
        exact hbj
  · rw [valB_set _ _ _ _ (by omega), valB_take_succ _ Y k hk, hv]
    generalize X[i]?.getD 0 = x at *
    generalize Y[k]?.getD 0 = y at *
    generalize out[i + k]?.getD 0 = o at *
    have h3 : (10000 : Int) ^ (i + k) = 10000 ^ i * 10000 ^ k := by grind
    rw [h3]
    generalize (10000 : Int) ^ i = p at *
    generalize (10000 : Int) ^ k = s at *
    grind

theorem prod_row {X Y out : List Int} {i : Nat} (hi : i < X.length) (h : ProdR X Y i Y.length out) : ProdR X Y (i + 1) 0 out := by
  obtain ⟨hl, hb, hv⟩ := h
  refine ⟨hl, fun j => ?_, ?_⟩
  · clear hv
    have hbj := hb j
    clear hb
    generalize out[j]?.getD 0 = o at *
    have hle : o ≤ (i + 1) * 100000000 := by
      by_cases h2 : j < i + Y.length
      · rw [if_pos h2] at hbj; exact hbj.2
      · rw [if_neg h2] at hbj; omega
    refine ⟨hbj.1, ?_⟩
    by_cases h2 : j < i + 1 + 0
    · rw [if_pos h2]; omega
    · rw [if_neg h2]; omega
  · rw [hv, valB_take_succ _ X i hi, List.take_length]
    simp [valB]
    grind

theorem prod_end {x y : Nat} {out : List Int} (h : ProdR (lim4 x) (lim4 y) (lim4 x).length 0 out) : valB 10000 out = ((x * y : Nat) : Int) := by
  obtain ⟨hl, hb, hv⟩ := h
  rw [hv, List.take_length, lim4_val, lim4_val]
  simp [valB]

end Go.Proofs.YtajkeoapfkkjbaaGreatDoor

/- The walk of klipperef01.take: digits become pieces of four. -/
namespace Go.Proofs.YtajkeoapfkkjbaaGreatDoor
open Go.RowKit

theorem int_i64 {a b : Int} (h : a = b) : Value.int .i64 a = .int .i64 b := by rw [h]

/-- m pieces are read, from the last digits on. -/
def TakeInv (D : List UInt8) (m : Nat) (p : List Int) : Prop := Digs 10000 p ∧ p.length = m ∧ valB 10000 p = (dval (D.drop (D.length - 4 * m)) : Int)

theorem take_start (D : List UInt8) : TakeInv D 0 [] := ⟨Digs.nil, rfl, by simp [valB, dval_nil]⟩

theorem piece_lt {D : List UInt8} (hd : AllDig D) (st n : Nat) (hn : n ≤ 4) : dval ((D.drop st).take n) < 10000 := by
  have h1 := dval_lt ((hd.drop st).take n)
  have h2 : 10 ^ ((D.drop st).take n).length ≤ 10 ^ 4 := Nat.pow_le_pow_right (by omega) (by rw [List.length_take]; omega)
  omega

theorem piece_snoc {D : List UInt8} (st k : Nat) (hs : st ≤ k) (hk : k < D.length) : dval ((D.drop st).take (k + 1 - st)) = 10 * dval ((D.drop st).take (k - st)) + (D[k].toNat - 48) := by
  have e : k + 1 - st = (k - st) + 1 := by omega
  have hl : k - st < (D.drop st).length := by rw [List.length_drop]; omega
  rw [e, List.take_succ_eq_append_getElem hl, dval_snoc, List.getElem_drop]
  have e2 : D[st + (k - st)]'(by omega) = D[k] := by congr 1; omega
  rw [e2]; omega

theorem take_step {D : List UInt8} {m st E : Nat} {p : List Int} (h : TakeInv D m p) (hd : AllDig D) (hE : D.length - 4 * m = E) (hp : 0 < E) (hst : D.length - 4 * (m + 1) = st) :
    TakeInv D (m + 1) (p ++ [(dval ((D.drop st).take (E - st)) : Int)]) := by
  obtain ⟨h1, h2, h3⟩ := h
  have hlt := piece_lt hd st (E - st) (by omega)
  refine ⟨h1.snoc (by omega) (by omega), by simp [h2], ?_⟩
  rw [valB_snoc, h3, h2, hst, hE]
  have e : D.drop st = (D.drop st).take (E - st) ++ D.drop E := by
    conv => lhs; rw [← List.take_append_drop (E - st) (D.drop st)]
    rw [List.drop_drop, show st + (E - st) = E by omega]
  conv => rhs; rw [e]
  rw [dval_append, show (D.drop E).length = 4 * m by rw [List.length_drop]; omega, Nat.pow_mul]
  generalize dval ((D.drop st).take (E - st)) = u
  generalize dval (D.drop E) = v
  have e2 : ((10000 ^ m : Nat) : Int) = (10000 : Int) ^ m := by simp
  rw [show (10 : Nat) ^ 4 = 10000 from rfl, ← e2]
  generalize (10000 : Nat) ^ m = q
  simp only [Int.natCast_add, Int.natCast_mul]
  rw [Int.add_comm, Int.mul_comm]

theorem take_end {D : List UInt8} {m : Nat} {p : List Int} (h : TakeInv D m p) (hE : D.length - 4 * m = 0) : Digs 10000 p ∧ valB 10000 p = (dval D : Int) := by
  obtain ⟨h1, h2, h3⟩ := h
  rw [hE, List.drop_zero] at h3
  exact ⟨h1, h3⟩

end Go.Proofs.YtajkeoapfkkjbaaGreatDoor

/- The walks of klipperef01.Split and Neg at an integer, of give and made: pieces become an integer. -/
namespace Go.Proofs.YtajkeoapfkkjbaaGreatDoor
open Go.RowKit

theorem ba_ext {a b : ByteArray} (h : a.data.toList = b.data.toList) : a = b := by
  obtain ⟨⟨l⟩⟩ := a
  obtain ⟨⟨m⟩⟩ := b
  simp at h
  rw [h]

theorem ba_append (a b : ByteArray) : (a ++ b).data.toList = a.data.toList ++ b.data.toList := by simp [ByteArray.data_append]

theorem canon_neg_eq (z : Int) (h : z < 0) : canon z = ⟨(45 :: mdig z).toArray⟩ := by
  rcases itoa_cases z with ⟨h1, e⟩ | ⟨h1, e⟩
  · omega
  · unfold canon; rw [e]
theorem canon_nn_eq (z : Int) (h : 0 ≤ z) : canon z = mag z := by
  rcases itoa_cases z with ⟨h1, e⟩ | ⟨h1, e⟩
  · unfold canon mag; rw [e]
  · omega

theorem get0 {s : ByteArray} {c : UInt8} {l : List UInt8} (h : s.data.toList = c :: l) (h0 : 0 < s.size) : s[0] = c := by
  have h1 : s[0] = s.data.toList[0]'(by rw [h]; simp) := rfl
  rw [h1]
  simp [h]

end Go.Proofs.YtajkeoapfkkjbaaGreatDoor

/- The walks of klipperef01.Neg and Parse at whatever text. -/
namespace Go.Proofs.YtajkeoapfkkjbaaGreatDoor
open Go.RowKit

theorem tail_bad (neg : Bool) (T : List UInt8) (h : allDigB T = false) : parseTail neg T = ([], 15) := by
  unfold parseTail
  by_cases hT : T = []
  · rw [if_pos hT]
  · rw [if_neg hT, if_pos h]

theorem tail_zero (neg : Bool) (T : List UInt8) (h : AllDig T) (hT : T ≠ []) (hz : Lib.trimLeftB T 48 = []) : parseTail neg T = ([48], 0) := by
  unfold parseTail
  rw [if_neg hT, if_neg (by rw [(allDigB_iff T).2 h]; simp), if_pos hz]

theorem tail_long (neg : Bool) (T S : List UInt8) (h : AllDig T) (hT : T ≠ []) (hz : Lib.trimLeftB T 48 = S) (hS : S ≠ []) (hl : 200 < S.length) : parseTail neg T = ([], 4) := by
  unfold parseTail
  rw [if_neg hT, if_neg (by rw [(allDigB_iff T).2 h]; simp), hz, if_neg hS, if_pos hl]

theorem tail_good (neg : Bool) (T S : List UInt8) (h : AllDig T) (hT : T ≠ []) (hz : Lib.trimLeftB T 48 = S) (hS : S ≠ []) (hl : S.length ≤ 200) : parseTail neg T = (if neg then 45 :: S else S, 0) := by
  unfold parseTail
  rw [if_neg hT, if_neg (by rw [(allDigB_iff T).2 h]; simp), hz, if_neg hS, if_neg (by omega)]

end Go.Proofs.YtajkeoapfkkjbaaGreatDoor

/- The walk of klipperef01.made: a sign and pieces become an integer; Neg at an integer that is not negative. -/
namespace Go.Proofs.YtajkeoapfkkjbaaGreatDoor
open Go.RowKit

theorem canon_nat (n : Nat) : canon (n : Int) = ⟨(Lib.decDigits n).toArray⟩ := by unfold canon; rw [itoa_of_nat]
theorem canon_negnat (n : Nat) (h : 0 < n) : canon (-(n : Int)) = ⟨(45 :: Lib.decDigits n).toArray⟩ := by unfold canon; rw [itoa_of_neg n h]

theorem dec_len_lim4 (n : Nat) : (Lib.decDigits n).length ≤ 4 * (lim4 n).length + 1 := by
  have h := lim_lt_pow 10000 (by omega) n
  rw [show (10000 : Nat) = 10 ^ 4 from rfl, ← Nat.pow_mul] at h
  have h2 : (10 : Nat) ^ (4 * (lim (10 ^ 4) n).length) ≤ 10 ^ (4 * (lim4 n).length + 1) := Nat.pow_le_pow_right (by omega) (by have : (lim4 n).length = (lim (10 ^ 4) n).length := rfl; omega)
  exact decDigits_len_le _ n (by omega) (by omega)

end Go.Proofs.YtajkeoapfkkjbaaGreatDoor
