/- Plain mathematics of the lexer: tokens of a text, printing, lines, blanks. No program in sight. -/
import Derived.Lib.Hide
import Derived.Lib.SplitLaws
/- Plain mathematics of the lexer: what a text's tokens are, and their places. No program in sight. -/
namespace Go.Proofs.YtfhmgkicccfghaaGreatDoor
set_option linter.all false
def isLet (c : UInt8) : Bool := (decide (97 ≤ c.toNat) && decide (c.toNat ≤ 122)) || (decide (65 ≤ c.toNat) && decide (c.toNat ≤ 90))
def isDig (c : UInt8) : Bool := decide (48 ≤ c.toNat) && decide (c.toNat ≤ 57)
def isWord (c : UInt8) : Bool := isLet c || isDig c || c == 95
def isNum (c : UInt8) : Bool := isDig c || c == 46 || c == 47
def isBlank (c : UInt8) : Bool := c == 32 || c == 9 || c == 13
def notNl (c : UInt8) : Bool := c != 10
def marks1 : List UInt8 := [40, 41, 91, 93, 123, 125, 58, 44, 59, 61, 60, 62, 43, 42, 47, 46, 64, 124, 38, 45]
def marks2 : List (List UInt8) := [[45, 62], [60, 61], [62, 61], [33, 61]]
structure Tok where
 kind : Int
 text : List UInt8
 value : List UInt8
 line : Nat
 col : Nat
structure Fst where
 kind : Int
 text : List UInt8
 value : List UInt8
 len : Nat
 err : Int
def Fst.bad (e : Int) : Fst := ⟨0, [], [], 0, e⟩
def Fst.tok (t : Fst) (line col : Nat) : Tok := ⟨t.kind, t.text, t.value, line, col⟩
def isNumStart (c : UInt8) (r : List UInt8) : Bool := isDig c || (c == 45 && (r.head?.map isDig).getD false)
def firstS (parse : List UInt8 → List UInt8 × Int) (c : UInt8) (r : List UInt8) : Fst :=
 if isLet c = true then (if 32 < (r.takeWhile isWord).length + 1 then Fst.bad 8 else ⟨1, c :: r.takeWhile isWord, [], (r.takeWhile isWord).length + 1, 0⟩)
 else if isNumStart c r = true then
  (if (parse (c :: r.takeWhile isNum)).2 = 0 then ⟨2, (parse (c :: r.takeWhile isNum)).1, (parse (c :: r.takeWhile isNum)).1, (r.takeWhile isNum).length + 1, 0⟩ else Fst.bad 2)
 else if c = 34 then (if 34 ∈ r then ⟨3, r.takeWhile (· != 34), [], (r.takeWhile (· != 34)).length + 2, 0⟩ else Fst.bad 15)
 else if (c :: r).take 2 ∈ marks2 then ⟨4, (c :: r).take 2, [], 2, 0⟩
 else if c ∈ marks1 then ⟨4, [c], [], 1, 0⟩
 else Fst.bad 15
structure Res where
 toks : List Tok
 line : Nat
 col : Nat
 err : Int
def endT (line col : Nat) : Tok := ⟨5, [10], [], line, col⟩
def scanF (parse : List UInt8 → List UInt8 × Int) (s : List UInt8) (line col : Nat) (found : Bool) (acc : List Tok) : Res :=
 match s with
 | [] => if found = true then (if acc.length = 5000 then ⟨[], line, col, 4⟩ else ⟨acc ++ [endT line col], 0, 0, 0⟩) else ⟨acc, 0, 0, 0⟩
 | c :: r =>
  if c = 10 then (if found = true then (if acc.length = 5000 then ⟨[], line, col, 4⟩ else scanF parse r (line + 1) 1 false (acc ++ [endT line col])) else scanF parse r (line + 1) 1 false acc)
  else if isBlank c = true then scanF parse r line (col + 1) found acc
  else if c = 35 then scanF parse (r.dropWhile notNl) line (col + 1 + (r.takeWhile notNl).length) found acc
  else if (firstS parse c (r.takeWhile notNl)).err = 0 then
   (if acc.length = 5000 then ⟨[], line, col, 4⟩ else scanF parse (r.drop ((firstS parse c (r.takeWhile notNl)).len - 1)) line (col + (firstS parse c (r.takeWhile notNl)).len) true (acc ++ [(firstS parse c (r.takeWhile notNl)).tok line col]))
  else ⟨[], line, col, (firstS parse c (r.takeWhile notNl)).err⟩
termination_by s.length
decreasing_by
 all_goals simp_wf
 all_goals first | omega | (have := (List.dropWhile_sublist notNl (l := r)).length_le; omega)

section
variable (parse : List UInt8 → List UInt8 × Int) (c : UInt8) (r : List UInt8) (line col : Nat) (found : Bool) (acc : List Tok)
theorem scanF_nil : scanF parse [] line col found acc = if found = true then (if acc.length = 5000 then ⟨[], line, col, 4⟩ else ⟨acc ++ [endT line col], 0, 0, 0⟩) else ⟨acc, 0, 0, 0⟩ := by
 rw [scanF]
theorem scanF_nl : scanF parse (10 :: r) line col found acc = if found = true then (if acc.length = 5000 then ⟨[], line, col, 4⟩ else scanF parse r (line + 1) 1 false (acc ++ [endT line col])) else scanF parse r (line + 1) 1 false acc := by
 rw [scanF, if_pos rfl]
theorem scanF_blank (h : c ≠ 10) (hb : isBlank c = true) : scanF parse (c :: r) line col found acc = scanF parse r line (col + 1) found acc := by
 rw [scanF, if_neg h, if_pos hb]
theorem scanF_comment : scanF parse (35 :: r) line col found acc = scanF parse (r.dropWhile notNl) line (col + 1 + (r.takeWhile notNl).length) found acc := by
 rw [scanF, if_neg (by decide), if_neg (by decide), if_pos rfl]
theorem scanF_err (h : c ≠ 10) (hb : isBlank c = false) (hc : c ≠ 35) (he : (firstS parse c (r.takeWhile notNl)).err ≠ 0) :
  scanF parse (c :: r) line col found acc = ⟨[], line, col, (firstS parse c (r.takeWhile notNl)).err⟩ := by
 rw [scanF, if_neg h, if_neg (by rw [hb]; decide), if_neg hc, if_neg he]
theorem scanF_lim (h : c ≠ 10) (hb : isBlank c = false) (hc : c ≠ 35) (he : (firstS parse c (r.takeWhile notNl)).err = 0) (hl : acc.length = 5000) :
  scanF parse (c :: r) line col found acc = ⟨[], line, col, 4⟩ := by
 rw [scanF, if_neg h, if_neg (by rw [hb]; decide), if_neg hc, if_pos he, if_pos hl]
theorem scanF_tok (h : c ≠ 10) (hb : isBlank c = false) (hc : c ≠ 35) (he : (firstS parse c (r.takeWhile notNl)).err = 0) (hl : acc.length ≠ 5000) :
  scanF parse (c :: r) line col found acc = scanF parse (r.drop ((firstS parse c (r.takeWhile notNl)).len - 1)) line (col + (firstS parse c (r.takeWhile notNl)).len) true (acc ++ [(firstS parse c (r.takeWhile notNl)).tok line col]) := by
 rw [scanF, if_neg h, if_neg (by rw [hb]; decide), if_neg hc, if_pos he, if_neg hl]
end

end Go.Proofs.YtfhmgkicccfghaaGreatDoor

/- Plain mathematics of the lexer: what tokens are like, that printed tokens are read again, and that blanks and comments change places alone. -/
namespace Go.Proofs.YtfhmgkicccfghaaGreatDoor
set_option linter.all false
theorem takeWhile_stop {α : Type} (p : α → Bool) (r : List α) (d : α) (x : List α) (h : p d = false) : (r ++ d :: x).takeWhile p = r.takeWhile p := by
 induction r with
 | nil => rw [List.nil_append, List.takeWhile_cons, h]; rfl
 | cons a r ih =>
  rw [List.cons_append, List.takeWhile_cons, List.takeWhile_cons, ih]
theorem takeWhile_all {α : Type} (p : α → Bool) (r : List α) (h : ∀ x ∈ r, p x = true) : r.takeWhile p = r := by
 induction r with
 | nil => rfl
 | cons a r ih =>
  rw [List.takeWhile_cons, if_pos (h a (by simp)), ih (fun x hx => h x (by simp [hx]))]
theorem takeWhile_app {α : Type} (p : α → Bool) (r x : List α) (h : ∀ y ∈ r, p y = true) : (r ++ x).takeWhile p = r ++ x.takeWhile p := by
 induction r with
 | nil => rfl
 | cons a r ih =>
  rw [List.cons_append, List.takeWhile_cons, if_pos (h a (by simp)), ih (fun y hy => h y (by simp [hy]))]
  rfl
theorem dropWhile_app {α : Type} (p : α → Bool) (r x : List α) (h : ∀ y ∈ r, p y = true) : (r ++ x).dropWhile p = x.dropWhile p := by
 induction r with
 | nil => rfl
 | cons a r ih =>
  rw [List.cons_append, List.dropWhile_cons, if_pos (h a (by simp)), ih (fun y hy => h y (by simp [hy]))]
theorem mem_tw {α : Type} (p : α → Bool) {x : α} : ∀ {l : List α}, x ∈ l.takeWhile p → p x = true
 | [], h => by cases h
 | a :: l, h => by
  rw [List.takeWhile_cons] at h
  split at h
  ·rcases List.mem_cons.1 h with rfl | h
   ·assumption
   ·exact mem_tw p h
  ·cases h
theorem takeWhile_34 (r : List UInt8) (x : List UInt8) (h : 34 ∈ r) : (r ++ x).takeWhile (· != 34) = r.takeWhile (· != 34) := by
 induction r with
 | nil => cases h
 | cons a r ih =>
  rw [List.cons_append, List.takeWhile_cons, List.takeWhile_cons]
  by_cases ha : a = 34
  ·subst ha; rfl
  ·rw [ih (by rcases List.mem_cons.1 h with h | h; exact absurd h.symm ha; exact h)]

theorem first_more (parse : List UInt8 → List UInt8 × Int) (c : UInt8) (r x : List UInt8) (he : (firstS parse c r).err = 0) : firstS parse c (r ++ 32 :: x) = firstS parse c r := by
 have hn : isNumStart c (r ++ 32 :: x) = isNumStart c r := by
  cases r with
  | nil => unfold isNumStart; rfl
  | cons a r => rfl
 unfold firstS at he ⊢
 rw [hn, takeWhile_stop isWord r 32 x rfl, takeWhile_stop isNum r 32 x rfl]
 by_cases h1 : isLet c = true
 ·rw [if_pos h1, if_pos h1]
 rw [if_neg h1] at he
 rw [if_neg h1, if_neg h1]
 by_cases h2 : isNumStart c r = true
 ·rw [if_pos h2, if_pos h2]
 rw [if_neg h2] at he
 rw [if_neg h2, if_neg h2]
 by_cases h3 : c = 34
 ·rw [if_pos h3] at he
  rw [if_pos h3, if_pos h3]
  by_cases h4 : 34 ∈ r
  ·rw [if_pos h4, if_pos (List.mem_append_left _ h4), takeWhile_34 r _ h4]
  ·rw [if_neg h4] at he
   cases he
 rw [if_neg h3] at he
 rw [if_neg h3, if_neg h3]
 cases r with
 | nil =>
  have a1 : ¬ (c :: ([] ++ 32 :: x)).take 2 ∈ marks2 := by
   show ¬ [c, 32] ∈ marks2
   unfold marks2
   intro h
   simp only [List.mem_cons, List.not_mem_nil, List.cons.injEq, or_false] at h
   rcases h with h | h | h | h <;> exact absurd h.2.1 (by decide)
  have a2 : ¬ (c :: ([] : List UInt8)).take 2 ∈ marks2 := by
   show ¬ [c] ∈ marks2
   unfold marks2
   intro h
   simp at h
  rw [if_neg a1, if_neg a2]
 | cons a r => rfl

def GoodT (parse : List UInt8 → List UInt8 × Int) (t : Tok) : Prop :=
 (t.kind = 1 ∧ t.value = [] ∧ ∃ c w, t.text = c :: w ∧ isLet c = true ∧ (∀ x ∈ w, isWord x = true) ∧ ¬ 32 < w.length + 1) ∨
 (t.kind = 2 ∧ t.value = t.text ∧ parse t.text = (t.text, 0) ∧ ∃ c w, t.text = c :: w ∧ isNumStart c w = true ∧ (∀ x ∈ w, isNum x = true)) ∨
 (t.kind = 3 ∧ t.value = [] ∧ 34 ∉ t.text ∧ 10 ∉ t.text) ∨
 (t.kind = 4 ∧ t.value = [] ∧ (t.text ∈ marks2 ∨ ∃ c ∈ marks1, t.text = [c]))
theorem GoodT.kind {parse : List UInt8 → List UInt8 × Int} {t : Tok} (h : GoodT parse t) : t.kind ≠ 5 := by
 rcases h with h | h | h | h <;> rw [h.1] <;> decide
def ParseAt (parse : List UInt8 → List UInt8 × Int) (l : List UInt8) : Prop :=
 (parse l).2 = 0 → parse (parse l).1 = ((parse l).1, 0) ∧ ∃ c w, (parse l).1 = c :: w ∧ isNumStart c w = true ∧ ∀ x ∈ w, isNum x = true
def ParseOn (parse : List UInt8 → List UInt8 × Int) (s : List UInt8) : Prop := ∀ l, l.Sublist s → ParseAt parse l
theorem ParseOn.sub {parse : List UInt8 → List UInt8 × Int} {s t : List UInt8} (h : ParseOn parse s) (k : t.Sublist s) : ParseOn parse t := fun l hl => h l (hl.trans k)

theorem first_good (parse : List UInt8 → List UInt8 × Int) (c : UInt8) (r : List UInt8) (hp : ParseAt parse (c :: r.takeWhile isNum)) (hr : 10 ∉ r) (line col : Nat) (he : (firstS parse c r).err = 0) :
  GoodT parse ((firstS parse c r).tok line col) ∧ 1 ≤ (firstS parse c r).len := by
 unfold firstS at he ⊢
 by_cases h1 : isLet c = true
 ·rw [if_pos h1] at he ⊢
  by_cases h2 : 32 < (r.takeWhile isWord).length + 1
  ·rw [if_pos h2] at he; cases he
  ·rw [if_neg h2]
   refine ⟨.inl ⟨rfl, rfl, c, r.takeWhile isWord, rfl, h1, fun x hx => ?_, h2⟩, by show 1 ≤ (r.takeWhile isWord).length + 1; omega⟩
   exact mem_tw _ hx
 rw [if_neg h1] at he ⊢
 by_cases h2 : isNumStart c r = true
 ·rw [if_pos h2] at he ⊢
  by_cases h3 : (parse (c :: r.takeWhile isNum)).2 = 0
  ·rw [if_pos h3]
   obtain ⟨p1, p2⟩ := hp h3
   exact ⟨.inr (.inl ⟨rfl, rfl, p1, p2⟩), by show 1 ≤ (r.takeWhile isNum).length + 1; omega⟩
  ·rw [if_neg h3] at he; cases he
 rw [if_neg h2] at he ⊢
 by_cases h3 : c = 34
 ·rw [if_pos h3] at he ⊢
  by_cases h4 : 34 ∈ r
  ·rw [if_pos h4]
   refine ⟨.inr (.inr (.inl ⟨rfl, rfl, fun h => ?_, fun h => ?_⟩)), by show 1 ≤ (r.takeWhile (· != 34)).length + 2; omega⟩
   ·have := mem_tw _ h
    exact absurd this (by decide)
   ·exact hr ((List.takeWhile_sublist _).subset h)
  ·rw [if_neg h4] at he; cases he
 rw [if_neg h3] at he ⊢
 by_cases h4 : (c :: r).take 2 ∈ marks2
 ·rw [if_pos h4]
  exact ⟨.inr (.inr (.inr ⟨rfl, rfl, .inl h4⟩)), by show 1 ≤ 2; omega⟩
 rw [if_neg h4] at he ⊢
 by_cases h5 : c ∈ marks1
 ·rw [if_pos h5]
  exact ⟨.inr (.inr (.inr ⟨rfl, rfl, .inr ⟨c, h5, rfl⟩⟩)), Nat.le_refl _⟩
 ·rw [if_neg h5] at he; cases he

def bodyT (t : Tok) : List UInt8 := if t.kind = 3 then 34 :: (t.text ++ [34]) else if t.kind = 5 then [10] else t.text
def printF : Bool → List Tok → List UInt8
 | _, [] => []
 | o, t :: ts => (if o = true ∧ t.kind ≠ 5 then [32] else []) ++ (bodyT t ++ printF (decide (t.kind ≠ 5)) ts)

theorem word_plain {x : UInt8} (h : isWord x = true) : x ≠ 10 := by rintro rfl; exact absurd h (by decide)
theorem num_plain {x : UInt8} (h : isNum x = true) : x ≠ 10 := by rintro rfl; exact absurd h (by decide)
theorem let_plain {c : UInt8} (h : isLet c = true) : c ≠ 10 ∧ isBlank c = false ∧ c ≠ 35 := by
 refine ⟨?_, ?_, ?_⟩
 ·rintro rfl; exact absurd h (by decide)
 ·cases hb : isBlank c with
  | false => rfl
  | true =>
   unfold isBlank at hb
   simp only [Bool.or_eq_true, beq_iff_eq] at hb
   rcases hb with (rfl | rfl) | rfl <;> exact absurd h (by decide)
 ·rintro rfl; exact absurd h (by decide)
theorem numStart_plain {c : UInt8} {w : List UInt8} (h : isNumStart c w = true) : c ≠ 10 ∧ isBlank c = false ∧ c ≠ 35 ∧ isLet c = false := by
 unfold isNumStart at h
 simp only [Bool.or_eq_true, Bool.and_eq_true, beq_iff_eq] at h
 rcases h with h | ⟨rfl, -⟩
 ·refine ⟨?_, ?_, ?_, ?_⟩
  ·rintro rfl; exact absurd h (by decide)
  ·cases hb : isBlank c with
   | false => rfl
   | true =>
    unfold isBlank at hb
    simp only [Bool.or_eq_true, beq_iff_eq] at hb
    rcases hb with (rfl | rfl) | rfl <;> exact absurd h (by decide)
  ·rintro rfl; exact absurd h (by decide)
  ·unfold isDig at h
   unfold isLet
   simp only [Bool.and_eq_true, decide_eq_true_eq] at h
   simp only [Bool.or_eq_false_iff, Bool.and_eq_false_iff, decide_eq_false_iff_not]
   omega
 ·decide

theorem marks1_all (parse : List UInt8 → List UInt8 × Int) : ∀ c ∈ marks1, c ≠ 10 ∧ isBlank c = false ∧ c ≠ 35 ∧ firstS parse c [] = ⟨4, [c], [], 1, 0⟩ := by
 intro c hc
 unfold marks1 at hc
 simp only [List.mem_cons, List.not_mem_nil, or_false] at hc
 rcases hc with rfl | rfl | rfl | rfl | rfl | rfl | rfl | rfl | rfl | rfl | rfl | rfl | rfl | rfl | rfl | rfl | rfl | rfl | rfl | rfl <;>
  exact ⟨by decide, by decide, by decide, rfl⟩
theorem marks2_all (parse : List UInt8 → List UInt8 × Int) : ∀ m ∈ marks2, ∃ c d, m = [c, d] ∧ c ≠ 10 ∧ d ≠ 10 ∧ isBlank c = false ∧ c ≠ 35 ∧ firstS parse c [d] = ⟨4, [c, d], [], 2, 0⟩ := by
 intro m hm
 unfold marks2 at hm
 simp only [List.mem_cons, List.not_mem_nil, or_false] at hm
 rcases hm with rfl | rfl | rfl | rfl <;>
  exact ⟨_, _, rfl, by decide, by decide, by decide, by decide, rfl⟩

theorem first_print (parse : List UInt8 → List UInt8 × Int) (t : Tok) (h : GoodT parse t) :
  ∃ c w, bodyT t = c :: w ∧ c ≠ 10 ∧ isBlank c = false ∧ c ≠ 35 ∧ (∀ x ∈ w, notNl x = true) ∧ firstS parse c w = ⟨t.kind, t.text, t.value, w.length + 1, 0⟩ := by
 obtain ⟨k, tx, v, ln, cl⟩ := t
 rcases h with ⟨hk, hv, c, w, ht, hc, hw, hl⟩ | ⟨hk, hv, hpr, c, w, ht, hc, hw⟩ | ⟨hk, hv, h34, h10⟩ | ⟨hk, hv, hm⟩
 ·subst hk hv ht
  obtain ⟨p1, p2, p3⟩ := let_plain hc
  refine ⟨c, w, rfl, p1, p2, p3, fun x hx => ?_, ?_⟩
  ·unfold notNl; exact bne_iff_ne.2 (word_plain (hw x hx))
  ·unfold firstS
   rw [if_pos hc, takeWhile_all _ _ hw, if_neg hl]
 ·simp only at hk hv ht hpr
  subst hk hv ht
  obtain ⟨p1, p2, p3, p4⟩ := numStart_plain hc
  refine ⟨c, w, rfl, p1, p2, p3, fun x hx => ?_, ?_⟩
  ·unfold notNl; exact bne_iff_ne.2 (num_plain (hw x hx))
  ·unfold firstS
   rw [if_neg (by rw [p4]; decide), if_pos hc, takeWhile_all _ _ hw, hpr, if_pos rfl]
 ·simp only at hk hv h34 h10
  subst hk hv
  refine ⟨34, tx ++ [34], rfl, by decide, by decide, by decide, fun x hx => ?_, ?_⟩
  ·unfold notNl
   rcases List.mem_append.1 hx with hx | hx
   ·exact bne_iff_ne.2 (fun e => by rw [e] at hx; exact h10 hx)
   ·rw [List.mem_singleton.1 hx]; rfl
  ·have e : (tx ++ [34]).takeWhile (· != 34) = tx := by
    rw [takeWhile_stop _ _ _ _ (by decide), takeWhile_all _ _ (fun x hx => bne_iff_ne.2 (fun e => by rw [e] at hx; exact h34 hx))]
   unfold firstS
   rw [if_neg (by decide), if_neg (by show ¬ (isDig 34 || (((34 : UInt8) == 45) && _)) = true; rw [show isDig 34 = false from rfl, show ((34 : UInt8) == 45) = false from rfl, Bool.false_and, Bool.or_false]; decide), if_pos rfl, if_pos (by simp), e, List.length_append]
   rfl
 ·simp only at hk hv hm
  subst hk hv
  rcases hm with hm | ⟨c, hc, rfl⟩
  ·obtain ⟨c, d, rfl, p1, p2, p3, p4, p5⟩ := marks2_all parse tx hm
   exact ⟨c, [d], rfl, p1, p3, p4, fun x hx => by rw [List.mem_singleton.1 hx]; unfold notNl; exact bne_iff_ne.2 p2, p5⟩
  ·obtain ⟨p1, p2, p3, p4⟩ := marks1_all parse c hc
   exact ⟨c, [], rfl, p1, p2, p3, (fun x hx => by cases hx), p4⟩

inductive WFF (parse : List UInt8 → List UInt8 × Int) : Bool → List Tok → Prop
 | nil : WFF parse false []
 | tok {o : Bool} {t : Tok} {ts : List Tok} : GoodT parse t → WFF parse true ts → WFF parse o (t :: ts)
 | fin {t : Tok} {ts : List Tok} : t.kind = 5 → t.text = [10] → t.value = [] → WFF parse false ts → WFF parse true (t :: ts)
def SameT (a b : Tok) : Prop := a.kind = b.kind ∧ a.text = b.text ∧ a.value = b.value
inductive SameL : List Tok → List Tok → Prop
 | nil : SameL [] []
 | cons {a b : Tok} {l m : List Tok} : SameT a b → SameL l m → SameL (a :: l) (b :: m)
theorem SameL.length {l m : List Tok} (h : SameL l m) : l.length = m.length := by
 induction h with
 | nil => rfl
 | cons _ _ ih => rw [List.length_cons, List.length_cons, ih]
theorem SameL.get {l m : List Tok} (h : SameL l m) : ∀ (i : Nat) (h1 : i < l.length) (h2 : i < m.length), SameT l[i] m[i] := by
 induction h with
 | nil => intro i h1; exact absurd h1 (Nat.not_lt_zero _)
 | cons hd _ ih =>
  intro i h1 h2
  cases i with
  | zero => exact hd
  | succ i => exact ih i (by simpa using h1) (by simpa using h2)

theorem print_head (parse : List UInt8 → List UInt8 × Int) (ts : List Tok) (h : WFF parse true ts) : (∃ y, printF true ts = 32 :: y) ∨ ∃ y, printF true ts = 10 :: y := by
 cases h with
 | tok hg _ =>
  unfold printF
  rw [if_pos ⟨rfl, hg.kind⟩]
  exact .inl ⟨_, rfl⟩
 | fin hk _ _ _ =>
  unfold printF bodyT
  rw [if_neg (fun e => e.2 hk), if_neg (by rw [hk]; decide), if_pos hk]
  exact .inr ⟨_, rfl⟩

theorem scan_print (parse : List UInt8 → List UInt8 × Int) : ∀ (l : List Tok) (o : Bool) (line col : Nat) (acc : List Tok), WFF parse o l → acc.length + l.length ≤ 5000 →
  ∃ l', scanF parse (printF o l) line col o acc = ⟨acc ++ l', 0, 0, 0⟩ ∧ SameL l l'
 | [], o, line, col, acc, h, _ => by
  cases h
  exact ⟨[], by unfold printF; rw [scanF_nil, if_neg (by decide), List.append_nil], .nil⟩
 | t :: ts, o, line, col, acc, h, hl => by
  rw [List.length_cons] at hl
  cases h with
  | tok hg hw =>
   obtain ⟨c, w, e1, e2, e3, e4, e5, e6⟩ := first_print parse t hg
   have hk : decide (t.kind ≠ 5) = true := decide_eq_true hg.kind
   have main : ∀ col, ∃ l', scanF parse (c :: (w ++ printF true ts)) line col o acc = ⟨acc ++ l', 0, 0, 0⟩ ∧ SameL (t :: ts) l' := by
    intro col
    have tk : (w ++ printF true ts).takeWhile notNl = w ∨ ∃ y, (w ++ printF true ts).takeWhile notNl = w ++ 32 :: y := by
     rw [takeWhile_app _ _ _ e5]
     rcases print_head parse ts hw with ⟨y, e⟩ | ⟨y, e⟩
     ·rw [e]; exact .inr ⟨_, by rw [List.takeWhile_cons, if_pos (by decide)]⟩
     ·rw [e]; exact .inl (by rw [List.takeWhile_cons, if_neg (by decide), List.append_nil])
    have ef : firstS parse c ((w ++ printF true ts).takeWhile notNl) = ⟨t.kind, t.text, t.value, w.length + 1, 0⟩ := by
     rcases tk with e | ⟨y, e⟩
     ·rw [e, e6]
     ·rw [e, first_more parse c w y (by rw [e6]), e6]
    rw [scanF_tok parse c (w ++ printF true ts) line col o acc e2 e3 e4 (by rw [ef]) (by omega), ef]
    obtain ⟨l', h1, h2⟩ := scan_print parse ts true line (col + (w.length + 1)) (acc ++ [Fst.tok ⟨t.kind, t.text, t.value, w.length + 1, 0⟩ line col]) hw (by rw [List.length_append]; simp; omega)
    refine ⟨_ :: l', ?_, .cons (b := Fst.tok ⟨t.kind, t.text, t.value, w.length + 1, 0⟩ line col) ⟨rfl, rfl, rfl⟩ h2⟩
    show scanF parse ((w ++ printF true ts).drop (w.length + 1 - 1)) line (col + (w.length + 1)) true _ = _
    rw [Nat.add_sub_cancel, List.drop_left, h1, List.append_assoc]
    rfl
   unfold printF
   rw [hk, e1]
   cases o with
   | false =>
    rw [if_neg (fun e => by cases e.1)]
    exact main col
   | true =>
    rw [if_pos ⟨rfl, hg.kind⟩]
    show ∃ l', scanF parse (32 :: (c :: (w ++ printF true ts))) line col true acc = _ ∧ _
    rw [scanF_blank _ _ _ _ _ _ _ (by decide) (by decide)]
    exact main (col + 1)
  | fin hk ht hv hw =>
   have hd : decide (t.kind ≠ 5) = false := decide_eq_false (fun e => e hk)
   unfold printF bodyT
   rw [if_neg (fun e => e.2 hk), if_neg (by rw [hk]; decide), if_pos hk, hd]
   show ∃ l', scanF parse (10 :: printF false ts) line col true acc = _ ∧ _
   rw [scanF_nl, if_pos rfl, if_neg (by omega)]
   obtain ⟨l', h1, h2⟩ := scan_print parse ts false (line + 1) 1 (acc ++ [endT line col]) hw (by rw [List.length_append]; simp; omega)
   refine ⟨endT line col :: l', ?_, .cons ⟨hk, ht, hv⟩ h2⟩
   rw [h1, List.append_assoc]
   rfl

inductive Inc : Nat → Nat → List Tok → Prop
 | nil {line col : Nat} : Inc line col []
 | cons {line col : Nat} {t : Tok} {ts : List Tok} : (line < t.line ∨ (line = t.line ∧ col ≤ t.col)) → Inc t.line (t.col + 1) ts → Inc line col (t :: ts)
theorem Inc.up {line col line' col' : Nat} {l : List Tok} (h : Inc line col l) (hu : line' < line ∨ (line' = line ∧ col' ≤ col)) : Inc line' col' l := by
 cases h with
 | nil => exact .nil
 | cons h1 h2 => exact .cons (by omega) h2

theorem notNl_take (r : List UInt8) : 10 ∉ r.takeWhile notNl := fun h => absurd (mem_tw notNl h) (by decide)

theorem scan_wff (parse : List UInt8 → List UInt8 × Int) : ∀ (n : Nat) (s : List UInt8) (line col : Nat) (o : Bool) (acc : List Tok), ParseOn parse s → s.length ≤ n → (scanF parse s line col o acc).err = 0 →
  ∃ l, scanF parse s line col o acc = ⟨acc ++ l, 0, 0, 0⟩ ∧ WFF parse o l ∧ Inc line col l
 | n, [], line, col, o, acc, _, _, he => by
  rw [scanF_nil] at he ⊢
  cases o with
  | false => exact ⟨[], by rw [if_neg (by decide), List.append_nil], .nil, .nil⟩
  | true =>
   rw [if_pos rfl] at he ⊢
   by_cases h : acc.length = 5000
   ·rw [if_pos h] at he; cases he
   ·rw [if_neg h]
    exact ⟨[endT line col], rfl, .fin rfl rfl rfl .nil, .cons (.inr ⟨rfl, Nat.le_refl _⟩) .nil⟩
 | 0, c :: r, _, _, _, _, _, hn, _ => by simp at hn
 | n + 1, c :: r, line, col, o, acc, hp, hn, he => by
  rw [List.length_cons] at hn
  by_cases h1 : c = 10
  ·subst h1
   rw [scanF_nl] at he ⊢
   cases o with
   | false =>
    rw [if_neg (by decide)] at he ⊢
    obtain ⟨l, e1, e2, e3⟩ := scan_wff parse n r (line + 1) 1 false acc (hp.sub (List.sublist_cons_self _ _)) (by omega) he
    exact ⟨l, e1, e2, e3.up (by omega)⟩
   | true =>
    rw [if_pos rfl] at he ⊢
    by_cases h : acc.length = 5000
    ·rw [if_pos h] at he; cases he
    ·rw [if_neg h] at he ⊢
     obtain ⟨l, e1, e2, e3⟩ := scan_wff parse n r (line + 1) 1 false (acc ++ [endT line col]) (hp.sub (List.sublist_cons_self _ _)) (by omega) he
     exact ⟨endT line col :: l, by rw [e1, List.append_assoc]; rfl, .fin rfl rfl rfl e2, .cons (.inr ⟨rfl, Nat.le_refl _⟩) (e3.up (.inl (Nat.lt_succ_self _)))⟩
  ·by_cases h2 : isBlank c = true
   ·rw [scanF_blank _ _ _ _ _ _ _ h1 h2] at he ⊢
    obtain ⟨l, e1, e2, e3⟩ := scan_wff parse n r line (col + 1) o acc (hp.sub (List.sublist_cons_self _ _)) (by omega) he
    exact ⟨l, e1, e2, e3.up (by omega)⟩
   ·have h2' : isBlank c = false := by rw [Bool.not_eq_true] at h2; exact h2
    by_cases h3 : c = 35
    ·subst h3
     rw [scanF_comment] at he ⊢
     obtain ⟨l, e1, e2, e3⟩ := scan_wff parse n (r.dropWhile notNl) line _ o acc (hp.sub ((List.dropWhile_sublist _).trans (List.sublist_cons_self _ _))) (by have := (List.dropWhile_sublist notNl (l := r)).length_le; omega) he
     exact ⟨l, e1, e2, e3.up (by omega)⟩
    ·by_cases h4 : (firstS parse c (r.takeWhile notNl)).err = 0
     ·by_cases h5 : acc.length = 5000
      ·rw [scanF_lim _ _ _ _ _ _ _ h1 h2' h3 h4 h5] at he; cases he
      ·rw [scanF_tok _ _ _ _ _ _ _ h1 h2' h3 h4 h5] at he ⊢
       obtain ⟨g1, g2⟩ := first_good parse c (r.takeWhile notNl) (hp _ (((List.takeWhile_sublist _).trans (List.takeWhile_sublist _)).cons₂ c)) (notNl_take r) line col h4
       obtain ⟨l, e1, e2, e3⟩ := scan_wff parse n _ line _ true _ (hp.sub ((List.drop_sublist _ _).trans (List.sublist_cons_self _ _))) (by rw [List.length_drop]; omega) he
       exact ⟨_ :: l, by rw [e1, List.append_assoc]; rfl, .tok g1 e2, .cons (.inr ⟨rfl, Nat.le_refl _⟩) (e3.up (.inr ⟨rfl, by show col + 1 ≤ _; omega⟩))⟩
     ·rw [scanF_err _ _ _ _ _ _ _ h1 h2' h3 h4] at he
      exact absurd he h4

end Go.Proofs.YtfhmgkicccfghaaGreatDoor

/- Plain mathematics of the lexer: blanks before lines and comments behind them change places alone; many lines of one word. -/
namespace Go.Proofs.YtfhmgkicccfghaaGreatDoor
set_option linter.all false
def moreL : List UInt8 := [32, 35, 32, 109, 111, 114, 101, 10, 10, 9]
def tailL : List UInt8 := [32, 35, 32, 34]
def subst (s : List UInt8) : List UInt8 := s.flatMap fun c => if c = 10 then moreL else [c]
theorem subst_nil : subst [] = [] := rfl
theorem subst_nl (r : List UInt8) : subst (10 :: r) = moreL ++ subst r := rfl
theorem subst_cons (c : UInt8) (r : List UInt8) (h : c ≠ 10) : subst (c :: r) = c :: subst r := by
 unfold subst
 rw [List.flatMap_cons, if_neg h]
 rfl
theorem subst_append (a b : List UInt8) : subst (a ++ b) = subst a ++ subst b := by
 unfold subst
 rw [List.flatMap_append]
theorem subst_plain (a : List UInt8) (h : ∀ x ∈ a, notNl x = true) : subst a = a := by
 induction a with
 | nil => rfl
 | cons c a ih =>
  have hc : c ≠ 10 := by
   have := h c (by simp)
   unfold notNl at this
   exact bne_iff_ne.1 this
  rw [subst_cons _ _ hc, ih (fun x hx => h x (by simp [hx]))]
theorem line_parts (r : List UInt8) : ∃ r1 r2, r = r1 ++ r2 ∧ (∀ x ∈ r1, notNl x = true) ∧ r.takeWhile notNl = r1 ∧ r.dropWhile notNl = r2 ∧ (r2 = [] ∨ ∃ r3, r2 = 10 :: r3) := by
 refine ⟨r.takeWhile notNl, r.dropWhile notNl, (List.takeWhile_append_dropWhile).symm, fun x hx => mem_tw _ hx, rfl, rfl, ?_⟩
 cases h : r.dropWhile notNl with
 | nil => exact .inl rfl
 | cons a l =>
  right
  have : ∀ (m : List UInt8), m.dropWhile notNl = a :: l → notNl a = false := by
   intro m
   induction m with
   | nil => intro e; cases e
   | cons b m ih =>
    intro e
    rw [List.dropWhile_cons] at e
    split at e
    ·exact ih e
    ·rename_i hb
     cases e
     rw [Bool.not_eq_true] at hb
     exact hb
  have ha := this r h
  unfold notNl at ha
  refine ⟨l, ?_⟩
  have : a = 10 := by
   by_cases e : a = 10
   ·exact e
   ·rw [bne_iff_ne.2 e] at ha; cases ha
  rw [this]
theorem first_len (parse : List UInt8 → List UInt8 × Int) (c : UInt8) (r : List UInt8) (he : (firstS parse c r).err = 0) : 1 ≤ (firstS parse c r).len ∧ (firstS parse c r).len ≤ r.length + 1 := by
 have tw : ∀ p : UInt8 → Bool, (r.takeWhile p).length ≤ r.length := fun p => (List.takeWhile_sublist p).length_le
 unfold firstS at he ⊢
 by_cases h1 : isLet c = true
 ·rw [if_pos h1] at he ⊢
  by_cases h2 : 32 < (r.takeWhile isWord).length + 1
  ·rw [if_pos h2] at he; cases he
  ·rw [if_neg h2]
   have := tw isWord
   exact ⟨by show 1 ≤ (r.takeWhile isWord).length + 1; omega, by show (r.takeWhile isWord).length + 1 ≤ _; omega⟩
 rw [if_neg h1] at he ⊢
 by_cases h2 : isNumStart c r = true
 ·rw [if_pos h2] at he ⊢
  by_cases h3 : (parse (c :: r.takeWhile isNum)).2 = 0
  ·rw [if_pos h3]
   have := tw isNum
   exact ⟨by show 1 ≤ (r.takeWhile isNum).length + 1; omega, by show (r.takeWhile isNum).length + 1 ≤ _; omega⟩
  ·rw [if_neg h3] at he; cases he
 rw [if_neg h2] at he ⊢
 by_cases h3 : c = 34
 ·rw [if_pos h3] at he ⊢
  by_cases h4 : 34 ∈ r
  ·rw [if_pos h4]
   have : (r.takeWhile (· != 34)).length + 1 ≤ r.length := by
    clear he tw h1 h2 h3
    induction r with
    | nil => cases h4
    | cons a r ih =>
     rw [List.takeWhile_cons]
     by_cases ha : a = 34
     ·subst ha
      show 0 + 1 ≤ r.length + 1
      omega
     ·rw [if_pos (bne_iff_ne.2 ha), List.length_cons, List.length_cons]
      have := ih (by rcases List.mem_cons.1 h4 with h | h; exact absurd h.symm ha; exact h)
      omega
   exact ⟨by show 1 ≤ (r.takeWhile (· != 34)).length + 2; omega, by show (r.takeWhile (· != 34)).length + 2 ≤ _; omega⟩
  ·rw [if_neg h4] at he; cases he
 rw [if_neg h3] at he ⊢
 by_cases h4 : (c :: r).take 2 ∈ marks2
 ·rw [if_pos h4]
  cases r with
  | nil =>
   exfalso
   revert h4
   show ¬ [c] ∈ marks2
   unfold marks2
   intro h
   simp at h
  | cons a r => exact ⟨by show 1 ≤ 2; omega, by show 2 ≤ _; rw [List.length_cons]; omega⟩
 rw [if_neg h4] at he ⊢
 by_cases h5 : c ∈ marks1
 ·rw [if_pos h5]
  exact ⟨Nat.le_refl 1, by show 1 ≤ _; omega⟩
 ·rw [if_neg h5] at he; cases he

section
variable (parse : List UInt8 → List UInt8 × Int)
theorem scan_more_nl (r : List UInt8) (line col : Nat) (o : Bool) (acc : List Tok) : scanF parse (moreL ++ r) line col o acc = scanF parse (10 :: 10 :: 9 :: r) line (col + 7) o acc := by
 show scanF parse (32 :: 35 :: ([32, 109, 111, 114, 101] ++ 10 :: 10 :: 9 :: r)) line col o acc = _
 rw [scanF_blank _ _ _ _ _ _ _ (by decide) (by decide), scanF_comment, dropWhile_app _ _ _ (by decide), takeWhile_app _ _ _ (by decide), List.dropWhile_cons, if_neg (by decide), List.takeWhile_cons, if_neg (by decide)]
 rfl
theorem scan_tail (line col : Nat) (o : Bool) (acc : List Tok) : scanF parse tailL line col o acc = scanF parse [] line (col + 4) o acc := by
 show scanF parse (32 :: 35 :: [32, 34]) line col o acc = _
 rw [scanF_blank _ _ _ _ _ _ _ (by decide) (by decide), scanF_comment]
 rfl

theorem scan_subst : ∀ (n : Nat) (s : List UInt8) (line col : Nat) (o : Bool) (acc : List Tok), s.length ≤ n → (scanF parse s line col o acc).err = 0 →
  ∃ l, scanF parse s line col o acc = ⟨acc ++ l, 0, 0, 0⟩ ∧ ∀ (line' col' : Nat) (acc' : List Tok), acc'.length = acc.length → ∃ l', scanF parse (subst s ++ tailL) line' col' o acc' = ⟨acc' ++ l', 0, 0, 0⟩ ∧ SameL l l'
 | n, [], line, col, o, acc, _, he => by
  rw [scanF_nil] at he ⊢
  cases o with
  | false =>
   refine ⟨[], by rw [if_neg (by decide), List.append_nil], fun line' col' acc' _ => ⟨[], ?_, .nil⟩⟩
   show scanF parse tailL _ _ _ _ = _
   rw [scan_tail, scanF_nil, if_neg (by decide), List.append_nil]
  | true =>
   rw [if_pos rfl] at he ⊢
   by_cases h : acc.length = 5000
   ·rw [if_pos h] at he; cases he
   ·rw [if_neg h]
    refine ⟨[endT line col], rfl, fun line' col' acc' ha => ⟨[endT line' (col' + 4)], ?_, .cons ⟨rfl, rfl, rfl⟩ .nil⟩⟩
    show scanF parse tailL _ _ _ _ = _
    rw [scan_tail, scanF_nil, if_pos rfl, if_neg (by omega)]
 | 0, c :: r, _, _, _, _, hn, _ => by simp at hn
 | n + 1, c :: r, line, col, o, acc, hn, he => by
  rw [List.length_cons] at hn
  by_cases h1 : c = 10
  ·subst h1
   rw [scanF_nl] at he ⊢
   cases o with
   | false =>
    rw [if_neg (by decide)] at he ⊢
    obtain ⟨l, e1, e2⟩ := scan_subst n r (line + 1) 1 false acc (by omega) he
    refine ⟨l, e1, fun line' col' acc' ha => ?_⟩
    obtain ⟨l', e3, e4⟩ := e2 (line' + 1 + 1) (1 + 1) acc' ha
    refine ⟨l', ?_, e4⟩
    rw [subst_nl, List.append_assoc, scan_more_nl, scanF_nl, if_neg (by decide), scanF_nl, if_neg (by decide), scanF_blank _ _ _ _ _ _ _ (by decide) (by decide), e3]
   | true =>
    rw [if_pos rfl] at he ⊢
    by_cases h : acc.length = 5000
    ·rw [if_pos h] at he; cases he
    ·rw [if_neg h] at he ⊢
     obtain ⟨l, e1, e2⟩ := scan_subst n r (line + 1) 1 false (acc ++ [endT line col]) (by omega) he
     refine ⟨endT line col :: l, by rw [e1, List.append_assoc]; rfl, fun line' col' acc' ha => ?_⟩
     obtain ⟨l', e3, e4⟩ := e2 (line' + 1 + 1) (1 + 1) (acc' ++ [endT line' (col' + 7)]) (by rw [List.length_append, List.length_append, ha]; rfl)
     refine ⟨endT line' (col' + 7) :: l', ?_, .cons ⟨rfl, rfl, rfl⟩ e4⟩
     rw [subst_nl, List.append_assoc, scan_more_nl, scanF_nl, if_pos rfl, if_neg (by omega), scanF_nl, if_neg (by decide), scanF_blank _ _ _ _ _ _ _ (by decide) (by decide), e3, List.append_assoc]
     rfl
  ·rw [subst_cons c r h1, List.cons_append]
   by_cases h2 : isBlank c = true
   ·rw [scanF_blank _ _ _ _ _ _ _ h1 h2] at he ⊢
    obtain ⟨l, e1, e2⟩ := scan_subst n r line (col + 1) o acc (by omega) he
    refine ⟨l, e1, fun line' col' acc' ha => ?_⟩
    rw [scanF_blank _ _ _ _ _ _ _ h1 h2]
    exact e2 line' (col' + 1) acc' ha
   ·have h2' : isBlank c = false := by rw [Bool.not_eq_true] at h2; exact h2
    obtain ⟨r1, r2, hr, hr1, ht, hd, hr2⟩ := line_parts r
    have hs : subst r ++ tailL = r1 ++ (subst r2 ++ tailL) := by
     rw [hr, subst_append, subst_plain r1 hr1, List.append_assoc]
    have htl : r2 = [] → (subst r2 ++ tailL).dropWhile notNl = [] := fun e => by rw [e]; rfl
    by_cases h3 : c = 35
    ·subst h3
     rw [scanF_comment, hd] at he ⊢
     have hlen : r2.length ≤ n := by
      have : r.length = r1.length + r2.length := by rw [hr, List.length_append]
      omega
     obtain ⟨l, e1, e2⟩ := scan_subst n r2 line _ o acc hlen he
     refine ⟨l, e1, fun line' col' acc' ha => ?_⟩
     rw [scanF_comment, hs, dropWhile_app _ _ _ hr1, takeWhile_app _ _ _ hr1]
     rcases hr2 with e | ⟨r3, e⟩
     ·subst e
      obtain ⟨l', e3, e4⟩ := e2 line' (col' + r1.length + 1) acc' ha
      refine ⟨l', ?_, e4⟩
      rw [subst_nil, List.nil_append, scan_tail] at e3
      rw [← e3, List.length_append]
      show scanF parse [] line' (col' + 1 + (r1.length + 4)) o acc' = _
      rw [show col' + 1 + (r1.length + 4) = col' + r1.length + 1 + 4 from by omega]
     ·subst e
      obtain ⟨l', e3, e4⟩ := e2 line' (col' + r1.length + 1) acc' ha
      refine ⟨l', ?_, e4⟩
      rw [subst_nl, List.append_assoc, scan_more_nl] at e3
      rw [← e3, subst_nl, List.append_assoc, List.length_append]
      show scanF parse (10 :: 10 :: 9 :: (subst r3 ++ tailL)) line' (col' + 1 + (r1.length + 7)) o acc' = _
      rw [show col' + 1 + (r1.length + 7) = col' + r1.length + 1 + 7 from by omega]
    ·have tk : ∃ y, (subst r ++ tailL).takeWhile notNl = r1 ++ 32 :: y := by
      rw [hs, takeWhile_app _ _ _ hr1]
      rcases hr2 with e | ⟨r3, e⟩ <;> subst e
      ·exact ⟨[35, 32, 34], rfl⟩
      ·exact ⟨[35, 32, 109, 111, 114, 101], rfl⟩
     obtain ⟨y, tk⟩ := tk
     by_cases h4 : (firstS parse c (r.takeWhile notNl)).err = 0
     ·by_cases h5 : acc.length = 5000
      ·rw [scanF_lim _ _ _ _ _ _ _ h1 h2' h3 h4 h5] at he; cases he
      ·rw [scanF_tok _ _ _ _ _ _ _ h1 h2' h3 h4 h5] at he ⊢
       rw [ht] at he h4 ⊢
       obtain ⟨g1, g2⟩ := first_len parse c r1 h4
       have hf : firstS parse c ((subst r ++ tailL).takeWhile notNl) = firstS parse c r1 := by rw [tk, first_more _ _ _ _ h4]
       obtain ⟨l, e1, e2⟩ := scan_subst n _ line _ true _ (by rw [List.length_drop]; omega) he
       refine ⟨_ :: l, by rw [e1, List.append_assoc]; rfl, fun line' col' acc' ha => ?_⟩
       rw [scanF_tok _ _ _ _ _ _ _ h1 h2' h3 (by rw [hf]; exact h4) (by omega), hf]
       obtain ⟨l', e3, e4⟩ := e2 line' (col' + (firstS parse c r1).len) (acc' ++ [(firstS parse c r1).tok line' col']) (by rw [List.length_append, List.length_append, ha]; rfl)
       refine ⟨_ :: l', ?_, .cons (b := (firstS parse c r1).tok line' col') ⟨rfl, rfl, rfl⟩ e4⟩
       have hdr : (subst r ++ tailL).drop ((firstS parse c r1).len - 1) = subst (r.drop ((firstS parse c r1).len - 1)) ++ tailL := by
        rw [hs]
        conv => rhs; rw [hr]
        rw [List.drop_append_of_le_length (by omega), List.drop_append_of_le_length (by omega), subst_append, List.append_assoc, subst_plain (r1.drop _) (fun x hx => hr1 x (List.mem_of_mem_drop hx))]
       rw [hdr, e3, List.append_assoc]
       rfl
     ·rw [scanF_err _ _ _ _ _ _ _ h1 h2' h3 h4] at he
      exact absurd he h4

def linesA : Nat → List UInt8
 | 0 => []
 | k + 1 => 97 :: 10 :: linesA k
theorem scan_lineA (r : List UInt8) (line : Nat) (acc : List Tok) :
  scanF parse (97 :: 10 :: r) line 1 false acc = if acc.length = 5000 then ⟨[], line, 1, 4⟩ else if acc.length = 4999 then ⟨[], line, 2, 4⟩ else scanF parse r (line + 1) 1 false (acc ++ [⟨1, [97], [], line, 1⟩] ++ [endT line 2]) := by
 have hf : firstS parse 97 ((10 :: r).takeWhile notNl) = ⟨1, [97], [], 1, 0⟩ := rfl
 by_cases h : acc.length = 5000
 ·rw [if_pos h, scanF_lim _ _ _ _ _ _ _ (by decide) (by decide) (by decide) (by rw [hf]) h]
 ·rw [if_neg h, scanF_tok _ _ _ _ _ _ _ (by decide) (by decide) (by decide) (by rw [hf]) h, hf]
  show scanF parse (10 :: r) line 2 true (acc ++ [⟨1, [97], [], line, 1⟩]) = _
  rw [scanF_nl, if_pos rfl]
  by_cases h' : acc.length = 4999
  ·rw [if_pos h', if_pos (by rw [List.length_append, h']; rfl)]
  ·rw [if_neg h', if_neg (by rw [List.length_append]; simp; omega)]
theorem scan_linesA : ∀ (k line : Nat) (acc : List Tok), acc.length + 2 = 2 * line → acc.length ≤ 5000 →
  (acc.length + 2 * k ≤ 5000 → ∃ l, scanF parse (linesA k) line 1 false acc = ⟨l, 0, 0, 0⟩ ∧ l.length = acc.length + 2 * k) ∧ (5000 < acc.length + 2 * k → scanF parse (linesA k) line 1 false acc = ⟨[], 2501, 1, 4⟩)
 | 0, line, acc, h1, h2 => by
  refine ⟨fun _ => ⟨acc, ?_, rfl⟩, fun h => absurd h (by omega)⟩
  show scanF parse [] line 1 false acc = _
  rw [scanF_nil, if_neg (by decide)]
 | k + 1, line, acc, h1, h2 => by
  show (_ → ∃ l, scanF parse (97 :: 10 :: linesA k) line 1 false acc = _ ∧ _) ∧ (_ → scanF parse (97 :: 10 :: linesA k) line 1 false acc = _)
  rw [scan_lineA]
  by_cases h : acc.length = 5000
  ·rw [if_pos h]
   refine ⟨fun h' => absurd h' (by omega), fun _ => ?_⟩
   rw [show line = 2501 from by omega]
  ·rw [if_neg h, if_neg (by omega)]
   have hl : (acc ++ [(⟨1, [97], [], line, 1⟩ : Tok)] ++ [endT line 2]).length = acc.length + 2 := by simp
   obtain ⟨a, b⟩ := scan_linesA k (line + 1) (acc ++ [⟨1, [97], [], line, 1⟩] ++ [endT line 2]) (by rw [hl]; omega) (by rw [hl]; omega)
   rw [hl] at a b
   refine ⟨fun h' => ?_, fun h' => b (by omega)⟩
   obtain ⟨l, e1, e2⟩ := a (by omega)
   exact ⟨l, e1, by omega⟩
end

end Go.Proofs.YtfhmgkicccfghaaGreatDoor

/- Plain mathematics of the lexer: both ways to print tokens, and which tokens are refused. -/
namespace Go.Proofs.YtfhmgkicccfghaaGreatDoor
set_option linter.all false
def bodyM (t : Tok) : List UInt8 := if t.kind = 3 then 34 :: (t.text ++ [34]) else t.text
def printM : Bool → List Tok → List UInt8
 | _, [] => []
 | o, t :: ts => (if o = true ∧ t.kind ≠ 5 then [32] else []) ++ (bodyM t ++ printM (decide (t.kind ≠ 5)) ts)
def EndsOk (l : List Tok) : Prop := ∀ t ∈ l, t.kind = 5 → t.text = [10]
theorem print_eq : ∀ (l : List Tok) (o : Bool), EndsOk l → printF o l = printM o l
 | [], _, _ => by unfold printF printM; rfl
 | t :: ts, o, h => by
  have hb : bodyT t = bodyM t := by
   unfold bodyT bodyM
   by_cases h3 : t.kind = 3
   ·rw [if_pos h3, if_pos h3]
   ·rw [if_neg h3, if_neg h3]
    by_cases h5 : t.kind = 5
    ·rw [if_pos h5, h t (by simp) h5]
    ·rw [if_neg h5]
  unfold printF printM
  rw [hb, print_eq ts _ (fun x hx => h x (by simp [hx]))]
theorem WFF.ends {parse : List UInt8 → List UInt8 × Int} {o : Bool} {l : List Tok} (h : WFF parse o l) : EndsOk l := by
 induction h with
 | nil => intro t ht; cases ht
 | tok hg _ ih =>
  intro t ht hk
  rcases List.mem_cons.1 ht with rfl | ht
  ·exact absurd hk hg.kind
  ·exact ih t ht hk
 | fin _ ht' _ _ ih =>
  intro t ht hk
  rcases List.mem_cons.1 ht with rfl | ht
  ·exact ht'
  ·exact ih t ht hk
theorem SameT.symm {a b : Tok} (h : SameT a b) : SameT b a := ⟨h.1.symm, h.2.1.symm, h.2.2.symm⟩
theorem SameL.symm {l m : List Tok} (h : SameL l m) : SameL m l := by
 induction h with
 | nil => exact .nil
 | cons h _ ih => exact .cons h.symm ih
theorem SameL.ends {l m : List Tok} (h : SameL l m) (e : EndsOk l) : EndsOk m := by
 induction h with
 | nil => exact e
 | cons h _ ih =>
  intro t ht hk
  rcases List.mem_cons.1 ht with rfl | ht
  ·rw [← h.2.1]
   exact e _ (by simp) (h.1.trans hk)
  ·exact ih (fun x hx => e x (by simp [hx])) t ht hk
def FineOf (parse : List UInt8 → List UInt8 × Int) (s : List UInt8) (l : List Tok) : Prop :=
 (scanF parse s 1 1 false []).err = 0 ∧ SameL (scanF parse s 1 1 false []).toks l
theorem EndsOk.snoc {l : List Tok} {t : Tok} (h : EndsOk l) (ht : t.kind = 5 → t.text = [10]) : EndsOk (l ++ [t]) := by
 intro x hx hk
 rcases List.mem_append.1 hx with hx | hx
 ·exact h x hx hk
 ·rw [List.mem_singleton.1 hx] at hk ⊢
  exact ht hk
theorem first_kind (parse : List UInt8 → List UInt8 × Int) (c : UInt8) (r : List UInt8) : (firstS parse c r).kind ≠ 5 := by
 unfold firstS
 repeat' split
 all_goals simp [Fst.bad]
theorem scan_ends (parse : List UInt8 → List UInt8 × Int) : ∀ (n : Nat) (s : List UInt8) (line col : Nat) (o : Bool) (acc : List Tok), s.length ≤ n → EndsOk acc → EndsOk (scanF parse s line col o acc).toks
 | n, [], line, col, o, acc, _, ha => by
  rw [scanF_nil]
  cases o with
  | false => rw [if_neg (by decide)]; exact ha
  | true =>
   rw [if_pos rfl]
   by_cases h : acc.length = 5000
   ·rw [if_pos h]; intro t ht; cases ht
   ·rw [if_neg h]; exact ha.snoc fun _ => rfl
 | 0, c :: r, _, _, _, _, hn, _ => by simp at hn
 | n + 1, c :: r, line, col, o, acc, hn, ha => by
  rw [List.length_cons] at hn
  by_cases h1 : c = 10
  ·subst h1
   rw [scanF_nl]
   cases o with
   | false =>
    rw [if_neg (by decide)]
    exact scan_ends parse n r (line + 1) 1 false acc (by omega) ha
   | true =>
    rw [if_pos rfl]
    by_cases h : acc.length = 5000
    ·rw [if_pos h]; intro t ht; cases ht
    ·rw [if_neg h]
     exact scan_ends parse n r (line + 1) 1 false _ (by omega) (ha.snoc fun _ => rfl)
  ·by_cases h2 : isBlank c = true
   ·rw [scanF_blank _ _ _ _ _ _ _ h1 h2]
    exact scan_ends parse n r line (col + 1) o acc (by omega) ha
   ·have h2' : isBlank c = false := by rw [Bool.not_eq_true] at h2; exact h2
    by_cases h3 : c = 35
    ·subst h3
     rw [scanF_comment]
     have h4 := (List.dropWhile_sublist notNl (l := r)).length_le
     exact scan_ends parse n _ line _ o acc (by omega) ha
    ·by_cases h4 : (firstS parse c (r.takeWhile notNl)).err = 0
     ·by_cases h5 : acc.length = 5000
      ·rw [scanF_lim _ _ _ _ _ _ _ h1 h2' h3 h4 h5]; intro t ht; cases ht
      ·rw [scanF_tok _ _ _ _ _ _ _ h1 h2' h3 h4 h5]
       exact scan_ends parse n _ line _ true _ (by rw [List.length_drop]; omega) (ha.snoc fun h => absurd h (first_kind parse c _))
     ·rw [scanF_err _ _ _ _ _ _ _ h1 h2' h3 h4]; intro t ht; cases ht
theorem FineOf.ends {parse : List UInt8 → List UInt8 × Int} {s : List UInt8} {l : List Tok} (h : FineOf parse s l) : EndsOk l :=
 h.2.ends (scan_ends parse s.length s 1 1 false [] (Nat.le_refl _) (fun t ht => by cases ht))
theorem fine_both (parse : List UInt8 → List UInt8 × Int) (l : List Tok) :
  (FineOf parse (printF false l) l ↔ FineOf parse (printM false l) l) ∧ (FineOf parse (printM false l) l → printF false l = printM false l) := by
 refine ⟨⟨fun h => ?_, fun h => ?_⟩, fun h => print_eq l false h.ends⟩
 ·rw [← print_eq l false h.ends]; exact h
 ·rw [print_eq l false h.ends]; exact h
theorem print_again (parse : List UInt8 → List UInt8 × Int) (s : List UInt8) (hp : ParseOn parse s) (he : (scanF parse s 1 1 false []).err = 0) (hl : (scanF parse s 1 1 false []).toks.length ≤ 5000) :
  printF false (scanF parse s 1 1 false []).toks = printM false (scanF parse s 1 1 false []).toks ∧ FineOf parse (printM false (scanF parse s 1 1 false []).toks) (scanF parse s 1 1 false []).toks := by
 obtain ⟨l, e1, e2, _⟩ := scan_wff parse s.length s 1 1 false [] hp (Nat.le_refl _) he
 rw [e1] at hl ⊢
 show printF false l = printM false l ∧ FineOf parse (printM false l) l
 have hl' : l.length ≤ 5000 := hl
 have hpr := print_eq l false e2.ends
 refine ⟨hpr, ?_⟩
 rw [← hpr]
 obtain ⟨l', e3, e4⟩ := scan_print parse l false 1 1 [] e2 (by simpa using hl')
 unfold FineOf
 rw [e3]
 exact ⟨rfl, e4.symm⟩
theorem scan_max (parse : List UInt8 → List UInt8 × Int) : ∀ (n : Nat) (s : List UInt8) (line col : Nat) (o : Bool) (acc : List Tok), s.length ≤ n → acc.length ≤ 5000 → (scanF parse s line col o acc).toks.length ≤ 5000
 | n, [], line, col, o, acc, _, ha => by
  rw [scanF_nil]
  cases o with
  | false => rw [if_neg (by decide)]; exact ha
  | true =>
   rw [if_pos rfl]
   by_cases h : acc.length = 5000
   ·rw [if_pos h]; simp
   ·rw [if_neg h]
    show (acc ++ [endT line col]).length ≤ 5000
    simp; omega
 | 0, c :: r, _, _, _, _, hn, _ => by simp at hn
 | n + 1, c :: r, line, col, o, acc, hn, ha => by
  rw [List.length_cons] at hn
  by_cases h1 : c = 10
  ·subst h1
   rw [scanF_nl]
   cases o with
   | false =>
    rw [if_neg (by decide)]
    exact scan_max parse n r (line + 1) 1 false acc (by omega) ha
   | true =>
    rw [if_pos rfl]
    by_cases h : acc.length = 5000
    ·rw [if_pos h]; simp
    ·rw [if_neg h]
     exact scan_max parse n r (line + 1) 1 false _ (by omega) (by simp; omega)
  ·by_cases h2 : isBlank c = true
   ·rw [scanF_blank _ _ _ _ _ _ _ h1 h2]
    exact scan_max parse n r line (col + 1) o acc (by omega) ha
   ·have h2' : isBlank c = false := by rw [Bool.not_eq_true] at h2; exact h2
    by_cases h3 : c = 35
    ·subst h3
     rw [scanF_comment]
     have h4 := (List.dropWhile_sublist notNl (l := r)).length_le
     exact scan_max parse n _ line _ o acc (by omega) ha
    ·by_cases h4 : (firstS parse c (r.takeWhile notNl)).err = 0
     ·by_cases h5 : acc.length = 5000
      ·rw [scanF_lim _ _ _ _ _ _ _ h1 h2' h3 h4 h5]; simp
      ·rw [scanF_tok _ _ _ _ _ _ _ h1 h2' h3 h4 h5]
       exact scan_max parse n _ line _ true _ (by rw [List.length_drop]; omega) (by simp; omega)
     ·rw [scanF_err _ _ _ _ _ _ _ h1 h2' h3 h4]; simp

end Go.Proofs.YtfhmgkicccfghaaGreatDoor

/- Plain mathematics of the lexer: a text line by line has the tokens that it has byte by byte. No program in sight. -/
namespace Go.Proofs.YtfhmgkicccfghaaGreatDoor
set_option linter.all false
def lineS (parse : List UInt8 → List UInt8 × Int) (line : Nat) (x : List UInt8) (col : Nat) (acc : List Tok) : List Tok × Nat × Int :=
 match x with
 | [] => (acc, col, 0)
 | c :: r =>
  if c = 35 then (acc, col, 0)
  else if isBlank c = true then lineS parse line r (col + 1) acc
  else if (firstS parse c r).err = 0 then
   (if acc.length = 5000 then ([], col, 4) else lineS parse line (r.drop ((firstS parse c r).len - 1)) (col + (firstS parse c r).len) (acc ++ [(firstS parse c r).tok line col]))
  else ([], col, (firstS parse c r).err)
termination_by x.length
decreasing_by
 all_goals simp_wf
 all_goals omega

section
variable (parse : List UInt8 → List UInt8 × Int) (line : Nat) (c : UInt8) (r : List UInt8) (col : Nat) (acc : List Tok)
theorem lineS_nil : lineS parse line [] col acc = (acc, col, 0) := by rw [lineS]
theorem lineS_hash : lineS parse line (35 :: r) col acc = (acc, col, 0) := by rw [lineS, if_pos rfl]
theorem lineS_blank (h : c ≠ 35) (hb : isBlank c = true) : lineS parse line (c :: r) col acc = lineS parse line r (col + 1) acc := by rw [lineS, if_neg h, if_pos hb]
theorem lineS_err (h : c ≠ 35) (hb : isBlank c = false) (he : (firstS parse c r).err ≠ 0) : lineS parse line (c :: r) col acc = ([], col, (firstS parse c r).err) := by
 rw [lineS, if_neg h, if_neg (by rw [hb]; decide), if_neg he]
theorem lineS_lim (h : c ≠ 35) (hb : isBlank c = false) (he : (firstS parse c r).err = 0) (hl : acc.length = 5000) : lineS parse line (c :: r) col acc = ([], col, 4) := by
 rw [lineS, if_neg h, if_neg (by rw [hb]; decide), if_pos he, if_pos hl]
theorem lineS_tok (h : c ≠ 35) (hb : isBlank c = false) (he : (firstS parse c r).err = 0) (hl : acc.length ≠ 5000) :
  lineS parse line (c :: r) col acc = lineS parse line (r.drop ((firstS parse c r).len - 1)) (col + (firstS parse c r).len) (acc ++ [(firstS parse c r).tok line col]) := by
 rw [lineS, if_neg h, if_neg (by rw [hb]; decide), if_pos he, if_neg hl]
end

def Tail (y : List UInt8) : Prop := y = [] ∨ ∃ z, y = 10 :: z
theorem tail_take {y : List UInt8} (h : Tail y) : y.takeWhile notNl = [] ∧ y.dropWhile notNl = y := by
 rcases h with rfl | ⟨z, rfl⟩
 ·exact ⟨rfl, rfl⟩
 ·exact ⟨rfl, rfl⟩
theorem line_take {x y : List UInt8} (hx : ∀ c ∈ x, notNl c = true) (h : Tail y) : (x ++ y).takeWhile notNl = x ∧ (x ++ y).dropWhile notNl = y := by
 rw [takeWhile_app notNl x y hx, dropWhile_app notNl x y hx, (tail_take h).1, (tail_take h).2]
 simp

theorem line_scan (parse : List UInt8 → List UInt8 × Int) (line : Nat) (y : List UInt8) (hy : Tail y) : ∀ (n : Nat) (x : List UInt8) (col : Nat) (found : Bool) (acc : List Tok), x.length ≤ n → (∀ c ∈ x, notNl c = true) →
  ((lineS parse line x col acc).2.2 ≠ 0 → scanF parse (x ++ y) line col found acc = ⟨[], line, (lineS parse line x col acc).2.1, (lineS parse line x col acc).2.2⟩) ∧
  ((lineS parse line x col acc).2.2 = 0 → acc.length ≤ (lineS parse line x col acc).1.length ∧
   scanF parse (x ++ y) line col found acc = scanF parse y line (col + x.length) (found || decide (acc.length < (lineS parse line x col acc).1.length)) (lineS parse line x col acc).1) := by
 intro n
 induction n with
 | zero =>
  intro x col found acc hx hn
  have : x = [] := List.eq_nil_of_length_eq_zero (by omega)
  subst this
  rw [lineS_nil]
  refine ⟨fun h => absurd rfl h, fun _ => ⟨Nat.le_refl _, ?_⟩⟩
  simp
 | succ n ih =>
  intro x col found acc hx hn
  cases x with
  | nil =>
   rw [lineS_nil]
   refine ⟨fun h => absurd rfl h, fun _ => ⟨Nat.le_refl _, ?_⟩⟩
   simp
  | cons c r =>
   have hc : c ≠ 10 := by
    intro e
    have := hn c (by simp)
    rw [e] at this
    exact absurd this (by decide)
   have hr : ∀ d ∈ r, notNl d = true := fun d hd => hn d (by simp [hd])
   have hlt := line_take hr hy
   simp only [List.length_cons] at hx
   by_cases h35 : c = 35
   ·subst h35
    rw [lineS_hash]
    refine ⟨fun h => absurd rfl h, fun _ => ⟨Nat.le_refl _, ?_⟩⟩
    rw [List.cons_append, scanF_comment, hlt.1, hlt.2]
    simp
    congr 1
    omega
   ·cases hb : isBlank c with
    | true =>
     rw [lineS_blank parse line c r col acc h35 hb, List.cons_append, scanF_blank parse c (r ++ y) line col found acc hc hb]
     obtain ⟨i1, i2⟩ := ih r (col + 1) found acc (by omega) hr
     refine ⟨i1, fun h => ⟨(i2 h).1, ?_⟩⟩
     rw [(i2 h).2]
     simp only [List.length_cons]
     congr 1
     omega
    | false =>
     by_cases he : (firstS parse c r).err = 0
     ·by_cases hl : acc.length = 5000
      ·rw [lineS_lim parse line c r col acc h35 hb he hl]
       refine ⟨fun _ => ?_, fun h => absurd (show (4 : Int) = 0 from h) (by decide)⟩
       rw [List.cons_append, scanF_lim parse c (r ++ y) line col found acc hc hb h35 (by rw [hlt.1]; exact he) hl]
      ·rw [lineS_tok parse line c r col acc h35 hb he hl]
       have hlen := first_len parse c r he
       have hd : (r ++ y).drop ((firstS parse c r).len - 1) = r.drop ((firstS parse c r).len - 1) ++ y := by rw [List.drop_append_of_le_length (by omega)]
       obtain ⟨i1, i2⟩ := ih (r.drop ((firstS parse c r).len - 1)) (col + (firstS parse c r).len) true (acc ++ [(firstS parse c r).tok line col]) (by simp; omega) (fun d hd => hr d (List.mem_of_mem_drop hd))
       have e : scanF parse (c :: r ++ y) line col found acc = scanF parse (r.drop ((firstS parse c r).len - 1) ++ y) line (col + (firstS parse c r).len) true (acc ++ [(firstS parse c r).tok line col]) := by
        rw [List.cons_append, scanF_tok parse c (r ++ y) line col found acc hc hb h35 (by rw [hlt.1]; exact he) hl, hlt.1, hd]
       rw [e]
       refine ⟨i1, fun h => ?_⟩
       obtain ⟨j1, j2⟩ := i2 h
       simp only [List.length_append, List.length_cons, List.length_nil] at j1
       refine ⟨by omega, ?_⟩
       rw [j2]
       have e1 : (true || decide ((acc ++ [(firstS parse c r).tok line col]).length < (lineS parse line (r.drop ((firstS parse c r).len - 1)) (col + (firstS parse c r).len) (acc ++ [(firstS parse c r).tok line col])).1.length)) = (found || decide (acc.length < (lineS parse line (r.drop ((firstS parse c r).len - 1)) (col + (firstS parse c r).len) (acc ++ [(firstS parse c r).tok line col])).1.length)) := by
        rw [Bool.true_or, decide_eq_true (by omega), Bool.or_true]
       rw [e1]
       congr 1
       simp only [List.length_cons, List.length_drop]
       omega
     ·rw [lineS_err parse line c r col acc h35 hb he]
      refine ⟨fun _ => ?_, fun h => absurd h he⟩
      rw [List.cons_append, scanF_err parse c (r ++ y) line col found acc hc hb h35 (by rw [hlt.1]; exact he), hlt.1]

def linesS (parse : List UInt8 → List UInt8 × Int) : List (List UInt8) → Nat → List Tok → Res
 | [], _, acc => ⟨acc, 0, 0, 0⟩
 | x :: xs, line, acc =>
  if (lineS parse line x 1 acc).2.2 ≠ 0 then ⟨[], line, (lineS parse line x 1 acc).2.1, (lineS parse line x 1 acc).2.2⟩
  else if (lineS parse line x 1 acc).1.length = acc.length then linesS parse xs (line + 1) (lineS parse line x 1 acc).1
  else if (lineS parse line x 1 acc).1.length = 5000 then ⟨[], line, x.length + 1, 4⟩
  else linesS parse xs (line + 1) ((lineS parse line x 1 acc).1 ++ [endT line (x.length + 1)])
def joinNl : List (List UInt8) → List UInt8
 | [] => []
 | [x] => x
 | x :: y :: r => x ++ 10 :: joinNl (y :: r)
theorem lines_scan (parse : List UInt8 → List UInt8 × Int) : ∀ (xs : List (List UInt8)) (line : Nat) (acc : List Tok), xs ≠ [] → (∀ x ∈ xs, ∀ c ∈ x, notNl c = true) → linesS parse xs line acc = scanF parse (joinNl xs) line 1 false acc
 | [], _, _, h, _ => absurd rfl h
 | [x], line, acc, _, hx => by
  obtain ⟨h1, h2⟩ := line_scan parse line [] (.inl rfl) x.length x 1 false acc (Nat.le_refl _) (hx x (by simp))
  rw [List.append_nil] at h1 h2
  unfold linesS joinNl
  by_cases he : (lineS parse line x 1 acc).2.2 = 0
  ·obtain ⟨k1, k2⟩ := h2 he
   rw [if_neg (by simp [he]), k2, scanF_nil, Bool.false_or]
   by_cases hl : (lineS parse line x 1 acc).1.length = acc.length
   ·rw [if_pos hl, decide_eq_false (by omega), if_neg (by decide)]
    rfl
   ·rw [if_neg hl, decide_eq_true (by omega), if_pos rfl]
    by_cases h5 : (lineS parse line x 1 acc).1.length = 5000
    ·rw [if_pos h5, if_pos h5, Nat.add_comm]
    ·rw [if_neg h5, if_neg h5, Nat.add_comm 1]
     rfl
  ·rw [if_pos he, h1 he]
 | x :: y :: r, line, acc, _, hx => by
  obtain ⟨h1, h2⟩ := line_scan parse line (10 :: joinNl (y :: r)) (.inr ⟨_, rfl⟩) x.length x 1 false acc (Nat.le_refl _) (hx x (by simp))
  have ih := fun line acc => lines_scan parse (y :: r) line acc (by simp) (fun z hz => hx z (by simp at hz ⊢; exact .inr hz))
  unfold linesS joinNl
  by_cases he : (lineS parse line x 1 acc).2.2 = 0
  ·obtain ⟨k1, k2⟩ := h2 he
   rw [if_neg (by simp [he]), k2, scanF_nl, Bool.false_or]
   by_cases hl : (lineS parse line x 1 acc).1.length = acc.length
   ·rw [if_pos hl, decide_eq_false (by omega), if_neg (by decide), ih]
   ·rw [if_neg hl, decide_eq_true (by omega), if_pos rfl]
    by_cases h5 : (lineS parse line x 1 acc).1.length = 5000
    ·rw [if_pos h5, if_pos h5, Nat.add_comm]
    ·rw [if_neg h5, if_neg h5, Nat.add_comm 1, ih]
  ·rw [if_pos he, h1 he]

end Go.Proofs.YtfhmgkicccfghaaGreatDoor

/- Plain mathematics: a text cut at its line ends. -/
namespace Go.Proofs.YtfhmgkicccfghaaGreatDoor
set_option linter.all false
theorem index_at (c : UInt8) (y : List UInt8) : ∀ x : List UInt8, c ∉ x → Lib.index (x ++ c :: y) [c] = ((x.length : Nat) : Int)
 | [], _ => by
  rw [List.nil_append, Lib.index]
  simp [List.isPrefixOf]
 | b :: l, h => by
  have h1 : c ≠ b := fun e => h (by simp [e])
  have h2 := index_at c y l (fun e => h (by simp [e]))
  have hp : ([c] : List UInt8).isPrefixOf (b :: (l ++ c :: y)) = false := by simp [List.isPrefixOf, h1]
  rw [List.cons_append, Lib.index, hp, h2]
  have : ¬ (((l.length : Nat) : Int) == -1) = true := by rw [beq_iff_eq]; omega
  rw [if_neg (by decide), if_neg this]
  simp
theorem splitK_lines : ∀ (n : Nat) (l : List UInt8), l.length ≤ n → joinNl (Lib.splitK [10] 0 (l.count 10) l) = l ∧ (∀ x ∈ Lib.splitK [10] 0 (l.count 10) l, ∀ c ∈ x, notNl c = true) ∧ Lib.splitK [10] 0 (l.count 10) l ≠ [] := by
 intro n
 induction n with
 | zero =>
  intro l hl
  have : l = [] := List.eq_nil_of_length_eq_zero (by omega)
  subst this
  have e : Lib.splitK [10] 0 (List.count 10 ([] : List UInt8)) [] = [[]] := rfl
  rw [e]
  refine ⟨rfl, ?_, by simp⟩
  intro x hx c hc
  rw [List.mem_singleton.1 hx] at hc
  cases hc
 | succ n ih =>
  intro l hl
  by_cases h : (10 : UInt8) ∈ l
  ·obtain ⟨x, y, rfl, hx⟩ := List.eq_append_cons_of_mem h
   have hc : (x ++ 10 :: y).count 10 = y.count 10 + 1 := by
    rw [List.count_append, List.count_eq_zero.2 hx, List.count_cons_self]
    omega
   have hi := index_at 10 y x hx
   have hne : ¬ (Lib.index (x ++ 10 :: y) [10] == -1) = true := by rw [hi, beq_iff_eq]; omega
   simp only [List.length_append, List.length_cons] at hl
   obtain ⟨i1, i2, i3⟩ := ih y (by omega)
   have e : Lib.splitK [10] 0 ((x ++ 10 :: y).count 10) (x ++ 10 :: y) = x :: Lib.splitK [10] 0 (y.count 10) y := by
    rw [hc, Lib.splitK, if_neg hne, hi]
    congr 1
    ·simp
    ·congr 1
     simp only [Int.toNat_natCast, List.length_cons, List.length_nil, Nat.zero_add]
     rw [show x.length + 1 = (x ++ [10]).length by simp, show x ++ 10 :: y = x ++ [10] ++ y by simp, List.drop_left]
   rw [e]
   refine ⟨?_, fun z hz c hc' => ?_, by simp⟩
   ·cases hs : Lib.splitK [10] 0 (y.count 10) y with
    | nil => exact absurd hs i3
    | cons z r =>
     unfold joinNl
     rw [← hs, i1]
   ·rcases List.mem_cons.1 hz with rfl | hz
    ·unfold notNl
     rw [bne_iff_ne]
     rintro rfl
     exact hx hc'
    ·exact i2 z hz c hc'
  ·have hc : l.count 10 = 0 := List.count_eq_zero.2 h
   rw [hc]
   have e : Lib.splitK [10] 0 0 l = [l] := rfl
   rw [e]
   refine ⟨rfl, fun x hx c hc' => ?_, by simp⟩
   rw [List.mem_singleton.1 hx] at hc'
   unfold notNl
   rw [bne_iff_ne]
   rintro rfl
   exact h hc'

def linesB (s : ByteArray) : List ByteArray := Lib.splitB ⟨#[10]⟩ 0 (Lib.countB s ⟨#[10]⟩) s
theorem linesB_len (s : ByteArray) : (linesB s).length = Lib.countB s ⟨#[10]⟩ + 1 := Lib.splitB_all ⟨#[10]⟩ (by decide) 0 _ s rfl
theorem linesB_map (s : ByteArray) : (linesB s).map (·.data.toList) = Lib.splitK [10] 0 (s.data.toList.count 10) s.data.toList := by
 unfold linesB
 rw [Lib.splitB_data]
 congr 1
 show Lib.count s.data.toList [10] = _
 exact Lib.count_one 10 _
theorem linesB_scan (parse : List UInt8 → List UInt8 × Int) (s : ByteArray) : linesS parse ((linesB s).map (·.data.toList)) 1 [] = scanF parse s.data.toList 1 1 false [] := by
 obtain ⟨h1, h2, h3⟩ := splitK_lines s.data.toList.length s.data.toList (Nat.le_refl _)
 rw [linesB_map, lines_scan parse _ 1 [] h3 h2, h1]

end Go.Proofs.YtfhmgkicccfghaaGreatDoor

/- Plain mathematics: the pieces of a text lie in it; a text's tokens worked out by counting down. -/
namespace Go.Proofs.YtfhmgkicccfghaaGreatDoor
set_option linter.all false
theorem joinNl_sub : ∀ (xs : List (List UInt8)) (x : List UInt8), x ∈ xs → x.Sublist (joinNl xs)
 | [], _, h => by cases h
 | [y], x, h => by
  rw [List.mem_singleton.1 h]
  exact List.Sublist.refl _
 | y :: z :: r, x, h => by
  unfold joinNl
  rcases List.mem_cons.1 h with rfl | h
  ·exact List.sublist_append_left _ _
  ·exact (joinNl_sub (z :: r) x h).trans ((List.sublist_cons_self _ _).trans (List.sublist_append_right _ _))
theorem linesB_in (s y : ByteArray) (h : y ∈ linesB s) : y.data.toList.Sublist s.data.toList := by
 obtain ⟨h1, h2, h3⟩ := splitK_lines s.data.toList.length s.data.toList (Nat.le_refl _)
 have hm : y.data.toList ∈ Lib.splitK [10] 0 (s.data.toList.count 10) s.data.toList := by
  rw [← linesB_map]
  exact List.mem_map_of_mem h
 have := joinNl_sub _ _ hm
 rw [h1] at this
 exact this
theorem sub_size {X S : ByteArray} (h : X.data.toList.Sublist S.data.toList) : X.size ≤ S.size := by
 rw [Lib.size_eq, Lib.size_eq]
 exact h.length_le
theorem linesB_count (s : ByteArray) : (linesB s).length ≤ s.size + 1 := by
 rw [linesB_len]
 have h : Lib.countB s ⟨#[10]⟩ = s.data.toList.count 10 := Lib.count_one 10 _
 have h2 : s.data.toList.count 10 ≤ s.data.toList.length := List.count_le_length
 rw [h, Lib.size_eq]
 omega

def scanG (parse : List UInt8 → List UInt8 × Int) : Nat → List UInt8 → Nat → Nat → Bool → List Tok → Res
 | 0, _, _, _, _, acc => ⟨acc, 0, 0, 0⟩
 | n + 1, s, line, col, found, acc =>
  match s with
  | [] => if found = true then (if acc.length = 5000 then ⟨[], line, col, 4⟩ else ⟨acc ++ [endT line col], 0, 0, 0⟩) else ⟨acc, 0, 0, 0⟩
  | c :: r =>
   if c = 10 then (if found = true then (if acc.length = 5000 then ⟨[], line, col, 4⟩ else scanG parse n r (line + 1) 1 false (acc ++ [endT line col])) else scanG parse n r (line + 1) 1 false acc)
   else if isBlank c = true then scanG parse n r line (col + 1) found acc
   else if c = 35 then scanG parse n (r.dropWhile notNl) line (col + 1 + (r.takeWhile notNl).length) found acc
   else if (firstS parse c (r.takeWhile notNl)).err = 0 then
    (if acc.length = 5000 then ⟨[], line, col, 4⟩ else scanG parse n (r.drop ((firstS parse c (r.takeWhile notNl)).len - 1)) line (col + (firstS parse c (r.takeWhile notNl)).len) true (acc ++ [(firstS parse c (r.takeWhile notNl)).tok line col]))
   else ⟨[], line, col, (firstS parse c (r.takeWhile notNl)).err⟩
theorem scanG_eq (parse : List UInt8 → List UInt8 × Int) : ∀ (n : Nat) (s : List UInt8) (line col : Nat) (found : Bool) (acc : List Tok), s.length < n → scanF parse s line col found acc = scanG parse n s line col found acc := by
 intro n
 induction n with
 | zero => intro s _ _ _ _ h; omega
 | succ n ih =>
  intro s line col found acc h
  cases s with
  | nil => rw [scanF_nil]; rfl
  | cons c r =>
   simp only [List.length_cons] at h
   have h1 : (r.dropWhile notNl).length ≤ r.length := (List.dropWhile_sublist notNl (l := r)).length_le
   unfold scanF scanG
   simp only [ih r _ _ _ _ (by omega), ih (r.dropWhile notNl) _ _ _ _ (by omega), ih (r.drop ((firstS parse c (r.takeWhile notNl)).len - 1)) _ _ _ _ (by simp; omega)]

end Go.Proofs.YtfhmgkicccfghaaGreatDoor
