/- The reader's methods, whatever comes next. -/
import Derived.Test.YtfhmgkicccfghaaGreatDoorLexZB
import Derived.Test.YtfhmgkicccfghaaGreatDoorLexZC
namespace Go.Proofs.YtfhmgkicccfghaaGreatDoor
set_option linter.all false
open Go.RowKit

def tokN (ts : List Tok) (n : Nat) : Tok := (ts[n]?).getD Tok.zero
def acceptB (t : Tok) (S : ByteArray) : Bool := (t.kind == 1 || t.kind == 4) && (ByteArray.toList ⟨t.text.toArray⟩ == S.toList)
theorem tokN_some {ts : List Tok} {n : Nat} (h : n < ts.length) : ts[n]? = some (tokN ts n) := by
 unfold tokN
 rw [List.getElem?_eq_getElem h]
 rfl
theorem tokN_none {ts : List Tok} {n : Nat} (h : ¬ n < ts.length) : tokN ts n = Tok.zero := by
 unfold tokN
 rw [List.getElem?_eq_none (by omega)]
 rfl
theorem below_grownB {w W : World} (h : Below w.heap.size w W) (r : Option Nat) : w.grownBy W r := ⟨h.os, h.tape, h.output, h.size, fun k hk _ => h.block k hk⟩

section
variable {b n : Nat} {s : Value} {ts : List Tok} {w : World}
theorem peek_any (h : Rd w b s n ts) : Calls Tryz.prog 18 #[ptrV b] w fun e w' => e = .returned (.tuple #[tokV (tokN ts n), .bool (decide (n < ts.length))]) ∧ Below w.heap.size w w' := by
 by_cases hn : n < ts.length
 ·rw [decide_eq_true hn]
  exact peek_tok b s n ts _ w h (tokN_some hn)
 ·rw [decide_eq_false hn, tokN_none hn]
  exact peek_end b s n ts w h (by omega)
theorem pk_end (h : Rd w b s n ts) (hn : ¬ n < ts.length) : ∀ W, Below w.heap.size w W → Calls Tryz.prog 18 #[ptrV b] W fun e w' => e = .returned (.tuple #[tokV Tok.zero, .bool false]) ∧ Below W.heap.size W w' := fun W hW => peek_end b s n ts W (h.below hW) (by omega)
theorem next_any (h : Rd w b s n ts) : Calls Tryz.prog 22 #[ptrV b] w fun e w' => (e = .returned (.tuple #[tokV (tokN ts n), .bool (decide (n < ts.length))]) ∧ Rdr w' b s (bif decide (n < ts.length) then n + 1 else n)) ∧ w.grownBy w' (some b) := by
 by_cases hn : n < ts.length
 ·rw [decide_eq_true hn]
  exact rnext_yes b n s ts _ w h (tokN_some hn)
 ·rw [decide_eq_false hn, tokN_none hn]
  exact (rnext_end (ptrV b) w (pk_end h hn)).mono fun e w' ⟨h1, h2⟩ => ⟨⟨h1, h.r.below h2⟩, below_grownB h2 _⟩
theorem rdtake_any (k : Int) (h : Rd w b s n ts) (is : Bool) (hi : is = (decide (n < ts.length) && (tokN ts n).kind == k)) : Calls Tryz.prog 23 #[ptrV b, .int .i64 k] w fun e w' => (e = .returned (.tuple #[tokV (bif is then tokN ts n else Tok.zero), .bool is]) ∧ Rdr w' b s (bif is then n + 1 else n)) ∧ w.grownBy w' (some b) := by
 subst hi
 by_cases hn : n < ts.length
 ·rw [decide_eq_true hn, Bool.true_and]
  cases hk : ((tokN ts n).kind == k) with
  | true => exact rtake_yes b n s ts _ k w h (tokN_some hn) hk
  | false => exact (rtake_no b n s ts _ k w h (tokN_some hn) hk).mono fun e w' ⟨h1, h2⟩ => ⟨⟨h1, h.r.below h2⟩, below_grownB h2 _⟩
 ·rw [decide_eq_false hn, Bool.false_and]
  exact (rtake_end (ptrV b) k w (pk_end h hn)).mono fun e w' ⟨h1, h2⟩ => ⟨⟨h1, h.r.below h2⟩, below_grownB h2 _⟩
theorem accept_any (S : ByteArray) (h : Rd w b s n ts) (is : Bool) (hi : is = (decide (n < ts.length) && acceptB (tokN ts n) S)) : Calls Tryz.prog 25 #[ptrV b, .string S] w fun e w' => (e = .returned (.bool is) ∧ Rdr w' b s (bif is then n + 1 else n)) ∧ w.grownBy w' (some b) := by
 subst hi
 by_cases hn : n < ts.length
 ·rw [decide_eq_true hn, Bool.true_and]
  cases hk : acceptB (tokN ts n) S with
  | true => exact raccept_yes b n s ts _ S w h (tokN_some hn) hk
  | false => exact (raccept_no b n s ts _ S w h (tokN_some hn) hk).mono fun e w' ⟨h1, h2⟩ => ⟨⟨h1, h.r.below h2⟩, below_grownB h2 _⟩
 ·rw [decide_eq_false hn, Bool.false_and]
  exact (raccept_end (ptrV b) S w (pk_end h hn)).mono fun e w' ⟨h1, h2⟩ => ⟨⟨h1, h.r.below h2⟩, below_grownB h2 _⟩
theorem at_any (h : Rd w b s n ts) : Calls Tryz.prog 20 #[ptrV b] w fun e w' => e = .returned (placeV (placeS ts n).1 (placeS ts n).2) ∧ Below w.heap.size w w' := by
 unfold placeS
 cases ht : ts[min n (ts.length - 1)]? with
 | none =>
  have h0 : ts = [] := by
   rw [List.getElem?_eq_none_iff] at ht
   exact List.eq_nil_of_length_eq_zero (by omega)
  subst h0
  exact at_none b n s w h
 | some t => exact at_some b n _ s ts t w h rfl ht
theorem place_any (v : Value) (h : TokAt w v ts) (hl : ts.length ≤ 5000) (hn : n ≤ 5000) : Calls Tryz.prog 21 #[v, .int .i64 n] w fun e w' => e = .returned (placeV (placeS ts n).1 (placeS ts n).2) ∧ Below w.heap.size w w' := by
 unfold placeS
 cases ht : ts[min n (ts.length - 1)]? with
 | none =>
  have h0 : ts = [] := by
   rw [List.getElem?_eq_none_iff] at ht
   exact List.eq_nil_of_length_eq_zero (by omega)
  subst h0
  exact place_none v n w h
 | some t => exact place_some v ts n _ t w h rfl ht hl hn
theorem back_any (p : Int) (h : Rd w b s n ts) (is : Bool) (hi : is = decide (0 ≤ p ∧ p ≤ n)) : Calls Tryz.prog 27 #[ptrV b, .int .i64 p] w fun e w' => (e = .returned (.bool is) ∧ Rdr w' b s (bif is then p.toNat else n)) ∧ w.grownBy w' (some b) := by
 subst hi
 by_cases hp : 0 ≤ p ∧ p ≤ n
 ·rw [decide_eq_true hp]
  have e : p = ((p.toNat : Nat) : Int) := by omega
  have h5 := h.nle
  have hb := back_yes b s n p.toNat w h.r (by omega) (by omega)
  rw [← e] at hb
  exact hb
 ·rw [decide_eq_false hp]
  exact (back_no b s n p w h.r (by omega)).mono fun e w' ⟨h1, h2⟩ => ⟨⟨h1, h.r.below h2⟩, below_grownB h2 _⟩
end

end Go.Proofs.YtfhmgkicccfghaaGreatDoor
