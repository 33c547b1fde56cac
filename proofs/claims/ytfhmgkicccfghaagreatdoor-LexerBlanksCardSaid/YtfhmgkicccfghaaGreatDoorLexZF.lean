/- Plain mathematics for LexerBlanks: order of the places, the last token, the text with blanks. -/
import Derived.Test.YtfhmgkicccfghaaGreatDoorLexZC
namespace Go.Proofs.YtfhmgkicccfghaaGreatDoor
set_option linter.all false
theorem Inc.get {line col : Nat} {l : List Tok} (h : Inc line col l) : ∀ (i : Nat) (a b : Tok), l[i]? = some a → l[i + 1]? = some b → a.line < b.line ∨ (a.line = b.line ∧ a.col + 1 ≤ b.col) := by
 induction h with
 | nil => intro i a b h; simp at h
 | cons h1 h2 ih =>
  intro i a b ha hb
  cases i with
  | zero =>
   simp at ha
   subst ha
   rw [Nat.zero_add, List.getElem?_cons_succ] at hb
   cases h2 with
   | nil => simp at hb
   | cons h3 _ =>
    simp at hb
    subst hb
    exact h3
  | succ i =>
   rw [List.getElem?_cons_succ] at ha hb
   exact ih i a b ha hb
theorem WFF.last {parse : List UInt8 → List UInt8 × Int} {o : Bool} {l : List Tok} (h : WFF parse o l) : ∀ t, l[l.length - 1]? = some t → t.kind = 5 := by
 induction h with
 | nil => intro t h; simp at h
 | tok hg h2 ih =>
  intro t ht
  cases h2 with
  | tok h3 h4 => exact ih t (by simpa using ht)
  | fin a b c d => exact ih t (by simpa using ht)
 | fin hk ht' hv h2 ih =>
  intro t ht
  cases h2 with
  | nil => simp at ht; subst ht; exact hk
  | tok h3 h4 => exact ih t (by simpa using ht)
theorem SameL.at_ {l m : List Tok} (h : SameL l m) : ∀ (i : Nat) (a b : Tok), l[i]? = some a → m[i]? = some b → SameT a b := by
 induction h with
 | nil => intro i a b h; simp at h
 | cons h1 _ ih =>
  intro i a b ha hb
  cases i with
  | zero => simp at ha hb; subst ha hb; exact h1
  | succ i => rw [List.getElem?_cons_succ] at ha hb; exact ih i a b ha hb
theorem subst_word (z : Int) : (subst (wordL z)).length ≤ 10 := by
 obtain ⟨h1, _, h3⟩ := word_ok z
 by_cases h : 10 ∈ wordL z
 ·rw [h3 h]; decide
 ·rw [subst_plain (wordL z) (fun x hx => by unfold notNl; rw [bne_iff_ne]; rintro rfl; exact h hx)]
  omega
theorem subst_text : ∀ zs : List Int, (subst (zs.flatMap wordL)).length ≤ 10 * zs.length
 | [] => Nat.le_refl _
 | z :: zs => by
  have h := subst_text zs
  have h1 := subst_word z
  rw [List.flatMap_cons, subst_append, List.length_append, List.length_cons]
  omega
theorem subst_take (s : List UInt8) (k : Nat) (h : k < s.length) : subst (s.take (k + 1)) = subst (s.take k) ++ (if s[k] = 10 then moreL else [s[k]]) := by
 rw [List.take_succ_eq_append_getElem h, subst_append]
 congr 1
 split
 ·rename_i h1
  rw [h1]
  rfl
 ·rename_i h1
  rw [subst_cons _ _ h1]
  rfl
theorem subst_len (s : List UInt8) (k : Nat) : (subst (s.take k)).length ≤ (subst s).length := by
 conv => rhs; rw [← List.take_append_drop k s, subst_append, List.length_append]
 omega
theorem blanks_law {parse : List UInt8 → List UInt8 × Int} {s : List UInt8} (hp : ParseOn parse s) (he : (scanF parse s 1 1 false []).err = 0) :
  ∃ l l' , scanF parse s 1 1 false [] = ⟨l, 0, 0, 0⟩ ∧ scanF parse ([32, 32] ++ subst s ++ tailL) 1 1 false [] = ⟨l', 0, 0, 0⟩ ∧ SameL l l' ∧ (∀ (i : Nat) (a b : Tok), l[i]? = some a → l[i + 1]? = some b → a.line < b.line ∨ (a.line = b.line ∧ a.col + 1 ≤ b.col)) ∧ ∀ t, l[l.length - 1]? = some t → t.kind = 5 := by
 obtain ⟨l, e1, e2, e3⟩ := scan_wff parse s.length s 1 1 false [] hp (Nat.le_refl _) he
 obtain ⟨l2, f1, f2⟩ := scan_subst parse s.length s 1 1 false [] (Nat.le_refl _) he
 rw [List.nil_append] at e1 f1
 have hl : l2 = l := by
  have := f1.symm.trans e1
  injection this
 subst hl
 obtain ⟨l', g1, g2⟩ := f2 1 3 [] rfl
 refine ⟨l2, l', e1, ?_, g2, fun i a b => e3.get i a b, e2.last⟩
 show scanF parse (32 :: 32 :: (subst s ++ tailL)) 1 1 false [] = _
 rw [scanF_blank _ _ _ _ _ _ _ (by decide) (by decide), scanF_blank _ _ _ _ _ _ _ (by decide) (by decide), g1]
 rfl

end Go.Proofs.YtfhmgkicccfghaaGreatDoor
