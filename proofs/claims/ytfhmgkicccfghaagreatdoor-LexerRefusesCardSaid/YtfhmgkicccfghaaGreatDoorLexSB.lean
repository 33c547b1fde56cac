/- How long the printed tokens of a text are. -/
import Derived.Test.YtfhmgkicccfghaaGreatDoorLexO
namespace Go.Proofs.YtfhmgkicccfghaaGreatDoor
set_option linter.all false
open Go.RowKit

theorem pq_len {s R : ByteArray} (h : PQ s R 0) : 1 ≤ s.data.toList.countP isDig ∧ R.size ≤ 2 * s.data.toList.countP isDig + 3 := by
 have fin : ∀ (q : Rat) (N : Nat), R = canonR q → Sz q N → 1 ≤ N → N ≤ s.data.toList.countP isDig → 1 ≤ s.data.toList.countP isDig ∧ R.size ≤ 2 * s.data.toList.countP isDig + 3 := fun q N h1 h2 h3 h4 => ⟨by omega, by have := h2.text (by omega); rw [h1]; omega⟩
 rcases h with ⟨_, _, h⟩ | ⟨t, neg, hb, h⟩
 ·cases h
 ·have hc := hb.digits
  rcases h with ⟨_, h⟩ | ⟨a, b, ht, _, h⟩ | ⟨a, b, ht, _, h⟩
  ·obtain ⟨h1, h2, _, h4⟩ := pres_zero h
   have hD := digB_true (by simpa using h1)
   have hn := hD.2
   rw [allDig_count hD.1] at hc
   refine fin _ t.data.toList.length h4 (mk_sz _ _ _ (by omega) ?_ ?_) hn hc
   ·rw [sgN_abs]; exact dval_lt hD.1
   ·exact Nat.one_lt_pow (by omega) (by omega)
  ·obtain ⟨h1, h2, h3, h4⟩ := pres_zero h
   rw [Bool.not_eq_false', Bool.and_eq_true] at h1
   have hA := digB_true h1.1
   have hB := digB_true h1.2
   have hn := hA.2
   rw [ht, List.countP_append, allDig_count hA.1, List.countP_cons, allDig_count hB.1] at hc
   refine fin _ (a.length + b.length) h4 (mk_sz _ _ _ (by simpa using h3) ?_ ?_) (by omega) (by omega)
   ·rw [sgN_abs]; exact Nat.lt_of_lt_of_le (dval_lt hA.1) (Nat.pow_le_pow_right (by omega) (by omega))
   ·exact Nat.lt_of_lt_of_le (dval_lt hB.1) (Nat.pow_le_pow_right (by omega) (by omega))
  ·obtain ⟨h1, h2, h3, h4⟩ := pres_zero h
   rw [Bool.not_eq_false', Bool.and_eq_true] at h1
   have hA := digB_true h1.1
   have hB := digB_true h1.2
   have hn := hA.2
   rw [ht, List.countP_append, allDig_count hA.1, List.countP_cons, allDig_count hB.1] at hc
   have hl : (a ++ b).length = a.length + b.length := List.length_append
   refine fin _ (a.length + b.length) h4 (mk_sz _ _ _ (Nat.pos_iff_ne_zero.1 (Nat.pow_pos (by omega))) ?_ ?_) (by omega) (by omega)
   ·rw [sgN_abs, ← hl]; exact dval_lt (hA.1.append hB.1)
   ·exact Nat.pow_lt_pow_right (by omega) (by omega)

theorem first_plen {parse : List UInt8 → List UInt8 × Int} (hp : IsParse parse) (c : UInt8) (r : List UInt8) (hl : r.length < 1000) (line col : Nat) (he : (firstS parse c r).err = 0) :
  (bodyT ((firstS parse c r).tok line col)).length + 1 ≤ 6 * ((c :: r).take (firstS parse c r).len).countP isDig + 2 * (firstS parse c r).len ∧ (firstS parse c r).len ≤ r.length + 1 ∧ 1 ≤ (firstS parse c r).len := by
 have tl : ∀ p : UInt8 → Bool, (r.takeWhile p).length ≤ r.length := fun p => (List.takeWhile_sublist p).length_le
 unfold firstS at he ⊢
 by_cases h1 : isLet c = true
 ·rw [if_pos h1] at he ⊢
  by_cases h2 : 32 < (r.takeWhile isWord).length + 1
  ·rw [if_pos h2] at he; cases he
  ·rw [if_neg h2]
   have := tl isWord
   refine ⟨?_, by show (r.takeWhile isWord).length + 1 ≤ _; omega, by show 1 ≤ (r.takeWhile isWord).length + 1; omega⟩
   show (c :: r.takeWhile isWord).length + 1 ≤ 6 * _ + 2 * ((r.takeWhile isWord).length + 1)
   rw [List.length_cons]
   omega
 rw [if_neg h1] at he ⊢
 by_cases h2 : isNumStart c r = true
 ·rw [if_pos h2] at he ⊢
  by_cases h3 : (parse (c :: r.takeWhile isNum)).2 = 0
  ·rw [if_pos h3]
   have h4 := tl isNum
   have hq := hp.ans (c :: r.takeWhile isNum) (by rw [List.length_cons]; omega)
   rw [h3] at hq
   obtain ⟨h5, h6⟩ := pq_len hq
   have h7 : (c :: r).take ((r.takeWhile isNum).length + 1) = c :: r.takeWhile isNum := by
    rw [List.take_succ_cons]
    exact congrArg _ (List.prefix_iff_eq_take.1 (List.takeWhile_prefix isNum)).symm
   refine ⟨?_, by show (r.takeWhile isNum).length + 1 ≤ _; omega, by show 1 ≤ (r.takeWhile isNum).length + 1; omega⟩
   show (parse (c :: r.takeWhile isNum)).1.length + 1 ≤ 6 * ((c :: r).take ((r.takeWhile isNum).length + 1)).countP isDig + 2 * ((r.takeWhile isNum).length + 1)
   rw [h7]
   have h8 : (⟨(parse (c :: r.takeWhile isNum)).1.toArray⟩ : ByteArray).size = (parse (c :: r.takeWhile isNum)).1.length := by rw [Lib.size_eq]
   have h9 : (⟨(c :: r.takeWhile isNum).toArray⟩ : ByteArray).data.toList = c :: r.takeWhile isNum := rfl
   rw [h8, h9] at h6
   rw [h9] at h5
   omega
  ·rw [if_neg h3] at he; exact absurd he (by show ¬ (2 : Int) = 0; decide)
 rw [if_neg h2] at he ⊢
 by_cases h3 : c = 34
 ·rw [if_pos h3] at he ⊢
  by_cases h4 : 34 ∈ r
  ·rw [if_pos h4]
   have h5 := tl (· != 34)
   have h6 : (r.takeWhile (· != 34)).length < r.length := by
    rcases Nat.lt_or_ge (r.takeWhile (· != 34)).length r.length with h | h
    ·exact h
    ·have h7 : r.takeWhile (· != 34) = r := (List.takeWhile_sublist _).eq_of_length_le h
     rw [← h7] at h4
     exact absurd (mem_tw _ h4) (by decide)
   refine ⟨?_, by show (r.takeWhile (· != 34)).length + 2 ≤ _; omega, by show 1 ≤ (r.takeWhile (· != 34)).length + 2; omega⟩
   show (34 :: (r.takeWhile (· != 34) ++ [34])).length + 1 ≤ 6 * _ + 2 * ((r.takeWhile (· != 34)).length + 2)
   rw [List.length_cons, List.length_append, List.length_singleton]
   omega
  ·rw [if_neg h4] at he; cases he
 rw [if_neg h3] at he ⊢
 by_cases h4 : (c :: r).take 2 ∈ marks2
 ·rw [if_pos h4]
  have h5 : ((c :: r).take 2).length = 2 := by
   generalize (c :: r).take 2 = x at h4
   unfold marks2 at h4
   simp only [List.mem_cons, List.not_mem_nil, or_false] at h4
   rcases h4 with rfl | rfl | rfl | rfl <;> rfl
  have h6 : 2 ≤ r.length + 1 := by
   have h7 := List.length_take_le' 2 (c :: r)
   rw [h5, List.length_cons] at h7
   exact h7
  refine ⟨?_, h6, by show 1 ≤ 2; omega⟩
  show ((c :: r).take 2).length + 1 ≤ 6 * _ + 2 * 2
  omega
 rw [if_neg h4] at he ⊢
 by_cases h5 : c ∈ marks1
 ·rw [if_pos h5]
  refine ⟨?_, by show 1 ≤ _; omega, Nat.le_refl _⟩
  show [c].length + 1 ≤ 6 * _ + 2 * 1
  rw [List.length_singleton]
  omega
 ·rw [if_neg h5] at he; cases he

theorem printF_cons (o : Bool) (t : Tok) (ts : List Tok) : (printF o (t :: ts)).length ≤ 1 + (bodyT t).length + (printF (decide (t.kind ≠ 5)) ts).length := by
 conv => lhs; unfold printF
 rw [List.length_append, List.length_append]
 split
 ·rw [List.length_singleton]; omega
 ·rw [List.length_nil]; omega

theorem scan_plen {parse : List UInt8 → List UInt8 × Int} (hp : IsParse parse) : ∀ (n : Nat) (s : List UInt8) (line col : Nat) (o : Bool) (acc : List Tok), s.length ≤ n → s.length ≤ 1000 → (scanF parse s line col o acc).err = 0 →
  ∃ l, (scanF parse s line col o acc).toks = acc ++ l ∧ (printF o l).length ≤ 6 * s.countP isDig + 2 * s.length + 1
 | n, [], line, col, o, acc, _, _, he => by
  rw [scanF_nil] at he ⊢
  cases o with
  | false => exact ⟨[], by rw [if_neg (by decide), List.append_nil], Nat.zero_le _⟩
  | true =>
   rw [if_pos rfl] at he ⊢
   by_cases h : acc.length = 5000
   ·rw [if_pos h] at he; cases he
   ·rw [if_neg h]
    refine ⟨[endT line col], rfl, ?_⟩
    show (printF true [endT line col]).length ≤ 1
    have h2 := printF_cons true (endT line col) []
    have h3 : (printF true [endT line col]) = [10] := rfl
    rw [h3]
    exact Nat.le_refl _
 | 0, c :: r, _, _, _, _, hn, _, _ => by simp at hn
 | n + 1, c :: r, line, col, o, acc, hn, hk, he => by
  rw [List.length_cons] at hn hk
  by_cases h1 : c = 10
  ·subst h1
   rw [scanF_nl] at he ⊢
   have hc : r.countP isDig ≤ (10 :: r).countP isDig := (List.sublist_cons_self _ _).countP_le
   rw [List.length_cons]
   cases o with
   | false =>
    rw [if_neg (by decide)] at he ⊢
    obtain ⟨l, e1, e2⟩ := scan_plen hp n r (line + 1) 1 false acc (by omega) (by omega) he
    exact ⟨l, e1, by omega⟩
   | true =>
    rw [if_pos rfl] at he ⊢
    by_cases h : acc.length = 5000
    ·rw [if_pos h] at he; cases he
    ·rw [if_neg h] at he ⊢
     obtain ⟨l, e1, e2⟩ := scan_plen hp n r (line + 1) 1 false _ (by omega) (by omega) he
     refine ⟨endT line col :: l, by rw [e1, List.append_assoc]; rfl, ?_⟩
     have h2 := printF_cons true (endT line col) l
     have h3 : (printF (decide ((endT line col).kind ≠ 5)) l).length = (printF false l).length := rfl
     have h4 : (bodyT (endT line col)).length = 1 := rfl
     omega
  ·by_cases h2 : isBlank c = true
   ·rw [scanF_blank _ _ _ _ _ _ _ h1 h2] at he ⊢
    have hc : r.countP isDig ≤ (c :: r).countP isDig := (List.sublist_cons_self _ _).countP_le
    obtain ⟨l, e1, e2⟩ := scan_plen hp n r line (col + 1) o acc (by omega) (by omega) he
    exact ⟨l, e1, by rw [List.length_cons]; omega⟩
   ·have h2' : isBlank c = false := by rw [Bool.not_eq_true] at h2; exact h2
    by_cases h3 : c = 35
    ·subst h3
     rw [scanF_comment] at he ⊢
     have hs : (r.dropWhile notNl).Sublist (35 :: r) := (List.dropWhile_sublist notNl).trans (List.sublist_cons_self _ _)
     have hc := hs.countP_le (p := isDig)
     have h4 := (List.dropWhile_sublist notNl (l := r)).length_le
     obtain ⟨l, e1, e2⟩ := scan_plen hp n _ line _ o acc (by omega) (by omega) he
     exact ⟨l, e1, by rw [List.length_cons]; omega⟩
    ·by_cases h4 : (firstS parse c (r.takeWhile notNl)).err = 0
     ·by_cases h5 : acc.length = 5000
      ·rw [scanF_lim _ _ _ _ _ _ _ h1 h2' h3 h4 h5] at he; cases he
      ·rw [scanF_tok _ _ _ _ _ _ _ h1 h2' h3 h4 h5] at he ⊢
       have htl := (List.takeWhile_sublist notNl (l := r)).length_le
       obtain ⟨f1, f2, f3⟩ := first_plen hp c (r.takeWhile notNl) (by omega) line col h4
       have hk5 := first_kind parse c (r.takeWhile notNl)
       generalize firstS parse c (r.takeWhile notNl) = F at *
       obtain ⟨l, e1, e2⟩ := scan_plen hp n (r.drop (F.len - 1)) line _ true _ (by rw [List.length_drop]; omega) (by rw [List.length_drop]; omega) he
       refine ⟨F.tok line col :: l, by rw [e1, List.append_assoc]; rfl, ?_⟩
       have g1 := printF_cons o (F.tok line col) l
       have g2 : decide ((F.tok line col).kind ≠ 5) = true := decide_eq_true hk5
       rw [g2] at g1
       have g3 : (c :: r).countP isDig = ((c :: r).take F.len).countP isDig + ((c :: r).drop F.len).countP isDig := by rw [← List.countP_append, List.take_append_drop]
       have g4 : (c :: r).drop F.len = r.drop (F.len - 1) := by
        obtain ⟨m, hm⟩ : ∃ m, F.len = m + 1 := ⟨F.len - 1, by omega⟩
        rw [hm]; rfl
       have g5 : ((c :: r.takeWhile notNl).take F.len).countP isDig = ((c :: r).take F.len).countP isDig := by
        have h6 : (c :: r.takeWhile notNl).take F.len = (c :: r).take F.len := by
         obtain ⟨x, hx⟩ := List.takeWhile_prefix notNl (l := r)
         conv => rhs; rw [← hx]
         rw [show c :: (r.takeWhile notNl ++ x) = (c :: r.takeWhile notNl) ++ x from rfl, List.take_append_of_le_length (by rw [List.length_cons]; omega)]
        rw [h6]
       have g6 : (r.drop (F.len - 1)).length = r.length - (F.len - 1) := List.length_drop
       rw [g5] at f1
       rw [g4] at g3
       rw [List.length_cons]
       omega
     ·rw [scanF_err _ _ _ _ _ _ _ h1 h2' h3 h4] at he; exact absurd he h4

end Go.Proofs.YtfhmgkicccfghaaGreatDoor
