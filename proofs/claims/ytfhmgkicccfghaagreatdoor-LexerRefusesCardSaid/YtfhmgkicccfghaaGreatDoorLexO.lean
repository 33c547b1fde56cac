/- A function that rational.Parse computes, and that takes right numbers to themselves; texts with few digits. -/
import Derived.Test.YtfhmgkicccfghaaGreatDoorRfM
import Derived.Test.YtfhmgkicccfghaaGreatDoorGLexP
namespace Go.Proofs.YtfhmgkicccfghaaGreatDoor
set_option linter.all false
open Go.RowKit

structure IsParse (parse : List UInt8 → List UInt8 × Int) : Prop where
 ans : ∀ l, l.length ≤ 1000 → PQ ⟨l.toArray⟩ ⟨(parse l).1.toArray⟩ (parse l).2
 right : ∀ q : Rat, (canonR q).size ≤ 200 → parse (canonR q).data.toList = ((canonR q).data.toList, 0)
 long : ∀ l, 1000 < l.length → (parse l).2 ≠ 0
theorem parse_exists : ∃ parse : List UInt8 → List UInt8 × Int, IsParse parse := by
 have h1 : ∀ l : List UInt8, ∃ x : List UInt8 × Int, (l.length ≤ 1000 → PQ ⟨l.toArray⟩ ⟨x.1.toArray⟩ x.2) ∧ ((∃ q : Rat, (canonR q).size ≤ 200 ∧ (canonR q).data.toList = l) → x = (l, 0)) ∧ (1000 < l.length → x.2 ≠ 0) := by
  intro l
  by_cases h : ∃ q : Rat, (canonR q).size ≤ 200 ∧ (canonR q).data.toList = l
  ·obtain ⟨q, h1, h2⟩ := h
   have hb : (⟨l.toArray⟩ : ByteArray) = canonR q := by rw [← h2]
   refine ⟨(l, 0), fun _ => ?_, fun _ => rfl, fun h3 => ?_⟩
   ·show PQ ⟨l.toArray⟩ ⟨l.toArray⟩ 0
    rw [hb]; exact pq_right q h1
   ·exfalso; rw [← h2, ← Lib.size_eq] at h3; omega
  ·by_cases h3 : l.length ≤ 1000
   ·obtain ⟨R, E, hq⟩ := pq_total ⟨l.toArray⟩
    exact ⟨(R.data.toList, E), fun _ => hq, fun h4 => absurd h4 h, fun h4 => by omega⟩
   ·exact ⟨([], 1), fun h4 => absurd h4 h3, fun h4 => absurd h4 h, fun _ => by decide⟩
 refine ⟨fun l => Classical.choose (h1 l), fun l => (Classical.choose_spec (h1 l)).1, fun q hq => (Classical.choose_spec (h1 _)).2.1 ⟨q, hq, rfl⟩, fun l => (Classical.choose_spec (h1 l)).2.2⟩

theorem mk_sz (n : Int) (d N : Nat) (h0 : d ≠ 0) (hn : n.natAbs < 10 ^ N) (hd : d < 10 ^ N) : Sz (mkRat n d) N := by
 unfold Sz
 rw [Rat.mkRat_def, dif_neg h0, Rat.normalize_eq]
 constructor
 ·show (n / ((n.natAbs.gcd d : Nat) : Int)).natAbs < 10 ^ N
  have : (n / ((n.natAbs.gcd d : Nat) : Int)).natAbs ≤ n.natAbs := Int.natAbs_ediv_le_natAbs _ _
  omega
 ·exact Nat.lt_of_le_of_lt (Nat.div_le_self _ _) hd
theorem isDig_of {c : UInt8} (h : 48 ≤ c.toNat ∧ c.toNat ≤ 57) : isDig c = true := by
 unfold isDig
 rw [decide_eq_true h.1, decide_eq_true h.2]
 rfl
theorem allDig_count {l : List UInt8} (h : AllDig l) : l.countP isDig = l.length := List.countP_eq_length.2 fun c hc => isDig_of (h c hc)
theorem isNum_dig {c : UInt8} (h : 48 ≤ c.toNat ∧ c.toNat ≤ 57) : isNum c = true := by
 unfold isNum
 rw [isDig_of h]
 rfl
theorem canonR_num (q : Rat) : ∃ c w, (canonR q).data.toList = c :: w ∧ isNumStart c w = true ∧ ∀ x ∈ w, isNum x = true := by
 have hl : (canonR q).data.toList = Lib.itoa q.num ++ (if q.den = 1 then [] else 47 :: Lib.decDigits q.den) := by
  show ratL q.num q.den = _
  unfold ratL
  split <;> simp
 have ht : ∀ x ∈ (if q.den = 1 then [] else 47 :: Lib.decDigits q.den), isNum x = true := by
  intro x hx
  split at hx
  ·cases hx
  ·rcases List.mem_cons.1 hx with rfl | hx
   ·decide
   ·exact isNum_dig (decDigits_all _ x hx)
 generalize (if q.den = 1 then [] else 47 :: Lib.decDigits q.den) = r at *
 have hm : 0 < (mdig q.num).length := List.length_pos_iff.2 (decDigits_ne _)
 have ha := mdig_all q.num
 rcases itoa_cases q.num with ⟨h0, h1⟩ | ⟨h0, h1⟩
 ·rw [h1] at hl
  cases hmd : mdig q.num with
  | nil => rw [hmd] at hm; exact absurd hm (by simp)
  | cons x m =>
   rw [hmd] at hl ha
   refine ⟨x, m ++ r, hl, ?_, fun y hy => ?_⟩
   ·unfold isNumStart
    rw [isDig_of (ha x List.mem_cons_self)]
    rfl
   ·rcases List.mem_append.1 hy with hy | hy
    ·exact isNum_dig (ha y (List.mem_cons_of_mem _ hy))
    ·exact ht y hy
 ·rw [h1] at hl
  cases hmd : mdig q.num with
  | nil => rw [hmd] at hm; exact absurd hm (by simp)
  | cons x m =>
   rw [hmd] at hl ha
   refine ⟨45, (x :: m) ++ r, hl, ?_, fun y hy => ?_⟩
   ·unfold isNumStart
    have := isDig_of (ha x List.mem_cons_self)
    simp [this]
   ·rcases List.mem_append.1 hy with hy | hy
    ·exact isNum_dig (ha y hy)
    ·exact ht y hy
theorem sgN_abs (neg : Bool) (n : Nat) : (sgN neg n).natAbs = n := by
 unfold sgN
 split <;> omega
theorem pres_zero {R : ByteArray} {bad long zero : Bool} {V : ByteArray} (h : (R, (0 : Int)) = pres bad long zero V) : bad = false ∧ long = false ∧ zero = false ∧ R = V := by
 unfold pres at h
 cases bad with
 | true => rw [if_pos rfl] at h; injection h with _ h; cases h
 | false =>
  rw [if_neg (by decide)] at h
  cases long with
  | true => rw [if_pos rfl] at h; injection h with _ h; cases h
  | false =>
   rw [if_neg (by decide)] at h
   cases zero with
   | true => rw [if_pos rfl] at h; injection h with _ h; cases h
   | false =>
    rw [if_neg (by decide)] at h
    injection h with h _
    exact ⟨rfl, rfl, rfl, h⟩
theorem Body.digits {s t : ByteArray} {neg : Bool} (h : Body s t neg) : t.data.toList.countP isDig ≤ s.data.toList.countP isDig := by
 cases neg with
 | true =>
  rw [h.minus rfl]
  exact (List.sublist_cons_self _ _).countP_le
 | false =>
  rcases h.plain rfl with h | ⟨h, _⟩
  ·rw [h]
   exact (List.sublist_cons_self _ _).countP_le
  ·rw [h]; exact Nat.le_refl _
theorem pow_98 {a n : Nat} (h : a < 10 ^ n) (hn : n ≤ 97) : a < 10 ^ 98 := Nat.lt_of_lt_of_le h (Nat.pow_le_pow_right (by omega) (by omega))
theorem pq_zero {s R : ByteArray} (h : PQ s R 0) (hd : s.data.toList.countP isDig ≤ 97) : ∃ q : Rat, R = canonR q ∧ (canonR q).size ≤ 200 := by
 have fin : ∀ q : Rat, R = canonR q → Sz q 98 → ∃ q : Rat, R = canonR q ∧ (canonR q).size ≤ 200 := fun q h1 h2 => ⟨q, h1, by have := h2.text (by omega); omega⟩
 rcases h with ⟨_, _, h⟩ | ⟨t, neg, hb, h⟩
 ·cases h
 ·have hc := Nat.le_trans hb.digits hd
  rcases h with ⟨_, h⟩ | ⟨a, b, ht, _, h⟩ | ⟨a, b, ht, _, h⟩
  ·obtain ⟨h1, h2, _, h4⟩ := pres_zero h
   have hD := (digB_true (by simpa using h1)).1
   rw [allDig_count hD] at hc
   refine fin _ h4 (mk_sz _ _ _ (by omega) ?_ ?_)
   ·rw [sgN_abs]; exact pow_98 (dval_lt hD) hc
   ·exact Nat.one_lt_pow (by omega) (by omega)
  ·obtain ⟨h1, h2, h3, h4⟩ := pres_zero h
   rw [Bool.not_eq_false', Bool.and_eq_true] at h1
   have hA := (digB_true h1.1).1
   have hB := (digB_true h1.2).1
   rw [ht, List.countP_append, allDig_count hA, List.countP_cons, allDig_count hB] at hc
   refine fin _ h4 (mk_sz _ _ _ (by simpa using h3) ?_ ?_)
   ·rw [sgN_abs]; exact pow_98 (dval_lt hA) (by omega)
   ·exact pow_98 (dval_lt hB) (by omega)
  ·obtain ⟨h1, h2, h3, h4⟩ := pres_zero h
   rw [Bool.not_eq_false', Bool.and_eq_true] at h1
   have hA := (digB_true h1.1).1
   have hB := (digB_true h1.2).1
   rw [ht, List.countP_append, allDig_count hA, List.countP_cons, allDig_count hB] at hc
   have hl : (a ++ b).length ≤ 97 := by rw [List.length_append]; omega
   refine fin _ h4 (mk_sz _ _ _ (Nat.pos_iff_ne_zero.1 (Nat.pow_pos (by omega))) ?_ ?_)
   ·rw [sgN_abs]; exact pow_98 (dval_lt (hA.append hB)) hl
   ·exact Nat.pow_lt_pow_right (by omega) (by omega)
theorem IsParse.on {parse : List UInt8 → List UInt8 × Int} (hp : IsParse parse) (s : List UInt8) (hs : s.countP isDig ≤ 97) : ParseOn parse s := by
 intro l hl he
 have h1 : l.length ≤ 1000 := by
  by_cases h : l.length ≤ 1000
  ·exact h
  ·exact absurd he (hp.long l (by omega))
 have h2 := hp.ans l h1
 rw [he] at h2
 obtain ⟨q, hq, hz⟩ := pq_zero h2 (Nat.le_trans hl.countP_le hs)
 have h3 : (parse l).1 = (canonR q).data.toList := by rw [← hq]
 rw [h3]
 exact ⟨hp.right q hz, canonR_num q⟩

end Go.Proofs.YtfhmgkicccfghaaGreatDoor
