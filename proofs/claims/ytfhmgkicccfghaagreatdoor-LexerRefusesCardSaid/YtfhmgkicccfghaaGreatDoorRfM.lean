/- What a text says as a number: one relation for rational.Parse and klipperef02.Parse; right numbers are read as themselves. -/
import Derived.Test.YtfhmgkicccfghaaGreatDoorRfK
import Derived.BigQuiet
import Derived.Deep.RegionHeld3
import Derived.Test.YtfhmgkicccfghaaGreatDoorRuneX
namespace Go.Proofs.YtfhmgkicccfghaaGreatDoor
set_option linter.all false
open Go.RowKit

def pres (bad long zero : Bool) (V : ByteArray) : ByteArray × Int := if bad then (⟨#[]⟩, 15) else if long then (⟨#[]⟩, 16) else if zero then (⟨#[]⟩, 17) else (V, 0)
def sgN (neg : Bool) (n : Nat) : Int := if neg = true then -((n : Nat) : Int) else ((n : Nat) : Int)
def NoSepL (l : List UInt8) : Prop := ∀ c ∈ l, c ≠ 47 ∧ c ≠ 46
def PQ (s R : ByteArray) (E : Int) : Prop :=
 (s.size = 0 ∧ R = ⟨#[]⟩ ∧ E = 13) ∨
 ∃ t neg, Body s t neg ∧
  ((NoSepL t.data.toList ∧ (R, E) = pres (!digB t.data.toList) (decide (200 < s.size)) false (canonR (mkRat (sgN neg (dval t.data.toList)) 1))) ∨
   (∃ a b, t.data.toList = a ++ 47 :: b ∧ NoSepL a ∧ (R, E) = pres (!(digB a && digB b)) (decide (200 < s.size)) (decide (dval b = 0)) (canonR (mkRat (sgN neg (dval a)) (dval b)))) ∨
   (∃ a b, t.data.toList = a ++ 46 :: b ∧ NoSepL a ∧ (R, E) = pres (!(digB a && digB b)) (decide (200 < s.size)) false (canonR (mkRat (sgN neg (dval (a ++ b))) (10 ^ b.length)))))

theorem noAny_sep {l : List UInt8} (h : NoSepL l) (m : List UInt8) : Lib.NoAny (l ++ m) [47, 46] l.length := by
 intro j b hj hb
 rw [List.getElem?_append_left hj] at hb
 obtain ⟨h1, h2⟩ := h b (List.mem_of_getElem? hb)
 simp [h1, h2]

theorem sep_index_none {l : List UInt8} (h : NoSepL l) : Lib.indexAny l [47, 46] = -1 := by
 have := noAny_sep h []
 rw [List.append_nil] at this
 exact Lib.indexAny_none this

theorem sep_index {a b : List UInt8} {c : UInt8} (h : NoSepL a) (hc : c = 47 ∨ c = 46) : Lib.indexAny (a ++ c :: b) [47, 46] = a.length :=
 Lib.indexAny_hit (x := c) (noAny_sep h _) (by rw [List.getElem?_append_right (Nat.le_refl _)]; simp) (by rcases hc with rfl | rfl <;> decide)

theorem sep_cases : ∀ l : List UInt8, NoSepL l ∨ ∃ a c b, l = a ++ c :: b ∧ NoSepL a ∧ (c = 47 ∨ c = 46)
 | [] => .inl (fun c h => by cases h)
 | x :: l => by
  by_cases h1 : x = 47
  ·exact .inr ⟨[], x, l, rfl, (fun c h => by cases h), .inl h1⟩
  ·by_cases h2 : x = 46
   ·exact .inr ⟨[], x, l, rfl, (fun c h => by cases h), .inr h2⟩
   ·rcases sep_cases l with h | ⟨a, c, b, h3, h4, h5⟩
    ·refine .inl (fun c hc => ?_)
     rcases List.mem_cons.1 hc with rfl | hc
     ·exact ⟨h1, h2⟩
     ·exact h c hc
    ·refine .inr ⟨x :: a, c, b, by rw [h3]; rfl, fun c hc => ?_, h5⟩
     rcases List.mem_cons.1 hc with rfl | hc
     ·exact ⟨h1, h2⟩
     ·exact h4 c hc

theorem body_total (s : ByteArray) (h : 0 < s.size) : ∃ t neg, Body s t neg := by
 obtain ⟨c, l, h1, h2⟩ := first_byte h
 by_cases h45 : c = 45
 ·subst h45
  exact ⟨⟨l.toArray⟩, true, h, fun _ => by rw [h1], fun e => by cases e⟩
 ·by_cases h43 : c = 43
  ·subst h43
   exact ⟨⟨l.toArray⟩, false, h, (fun e => by cases e), fun _ => .inl (by rw [h1])⟩
  ·refine ⟨s, false, h, (fun e => by cases e), fun _ => .inr ⟨rfl, fun _ => ?_⟩⟩
   rw [h2]
   exact ⟨fun e => h45 (UInt8.toNat_inj.1 (by rw [e]; rfl)), fun e => h43 (UInt8.toNat_inj.1 (by rw [e]; rfl))⟩

theorem pq_total (s : ByteArray) : ∃ R E, PQ s R E := by
 by_cases h : 0 < s.size
 ·obtain ⟨t, neg, hb⟩ := body_total s h
  rcases sep_cases t.data.toList with h1 | ⟨a, c, b, h1, h2, rfl | rfl⟩
  ·exact ⟨_, _, .inr ⟨t, neg, hb, .inl ⟨h1, rfl⟩⟩⟩
  ·exact ⟨_, _, .inr ⟨t, neg, hb, .inr (.inl ⟨a, b, h1, h2, rfl⟩)⟩⟩
  ·exact ⟨_, _, .inr ⟨t, neg, hb, .inr (.inr ⟨a, b, h1, h2, rfl⟩)⟩⟩
 ·exact ⟨_, _, .inl ⟨by omega, rfl, rfl⟩⟩

theorem empty_of_size {s : ByteArray} (h : s.size = 0) : s = ⟨#[]⟩ := by
 refine ba_of_list _ _ ?_
 rw [Lib.size_eq] at h
 exact List.length_eq_zero_iff.1 h

theorem rparse_empty (w : World) :
  Calls Tryz.prog 53 #[.string ⟨#[]⟩] w fun e w' => e = .returned (.tuple #[.string ⟨#[]⟩, .int .i64 13]) ∧ Below w.heap.size w w' := by
 have h1 : (ByteArray.toList ⟨#[]⟩ == []) = true := by rw [ByteArray.toList_eq]; rfl
 have h2 : (ByteArray.toList ⟨#[]⟩).isEmpty = true := by rw [ByteArray.toList_eq]; rfl
 generalize hE : (⟨#[]⟩ : ByteArray) = S at *
 have HE := Lib.hid hE
 clear hE
 go_enter Tryz.func53, Tryz.ntmps53
 go_wp2
 go_ret2
 exact ⟨by rw [← HE.out]; rfl, Below.refl _ _⟩

theorem rparse_any (s R : ByteArray) (E : Int) (h : PQ s R E) (hs : s.size ≤ 1000) (w : World) (he : Env w) :
  Calls Tryz.prog 53 #[.string s] w fun e w' => e = .returned (.tuple #[.string R, .int .i64 E]) ∧ Below w.heap.size w w' := by
 rcases h with ⟨h, rfl, rfl⟩ | ⟨t, neg, hb, h⟩
 ·rw [empty_of_size h]
  exact rparse_empty w
 ·have ix := fun W => indexAny_any t W (by have := hb.size; omega)
  rcases h with ⟨h1, h2⟩ | ⟨a, b, hT, h1, h2⟩ | ⟨a, b, hT, h1, h2⟩
  ·rw [sep_index_none h1] at ix
   unfold pres at h2
   cases da : digB t.data.toList with
   | false =>
    rw [da] at h2; cases h2
    exact rparse_none_bad1 s t neg hb ix da hs w he
   | true =>
    rw [da] at h2
    by_cases hl : 200 < s.size
    ·rw [decide_eq_true hl] at h2; cases h2
     exact rparse_none_long s t neg hb ix da hl hs w he
    ·rw [decide_eq_false hl] at h2; cases h2
     exact rparse_none_ok s t neg hb ix da (by omega) hs w he
  ·rw [hT, sep_index h1 (.inl rfl)] at ix
   unfold pres at h2
   cases da : digB a with
   | false =>
    rw [da] at h2; cases h2
    exact rparse_slash_bad1 s t neg hb a b hT ix da hs w he
   | true =>
    cases db : digB b with
    | false =>
     rw [da, db] at h2; cases h2
     exact rparse_slash_bad2 s t neg hb a b hT ix da db hs w he
    | true =>
     rw [da, db] at h2
     by_cases hl : 200 < s.size
     ·rw [decide_eq_true hl] at h2; cases h2
      exact rparse_slash_long s t neg hb a b hT ix da db hl hs w he
     ·rw [decide_eq_false hl] at h2
      by_cases hz : dval b = 0
      ·rw [decide_eq_true hz] at h2; cases h2
       exact rparse_slash_zero s t neg hb a b hT ix da db (by omega) hz hs w he
      ·rw [decide_eq_false hz] at h2; cases h2
       exact rparse_slash_ok s t neg hb a b hT ix da db (by omega) (by omega) hs w he
  ·rw [hT, sep_index h1 (.inr rfl)] at ix
   unfold pres at h2
   cases da : digB a with
   | false =>
    rw [da] at h2; cases h2
    exact rparse_dot_bad1 s t neg hb a b hT ix da hs w he
   | true =>
    cases db : digB b with
    | false =>
     rw [da, db] at h2; cases h2
     exact rparse_dot_bad2 s t neg hb a b hT ix da db hs w he
    | true =>
     rw [da, db] at h2
     by_cases hl : 200 < s.size
     ·rw [decide_eq_true hl] at h2; cases h2
      exact rparse_dot_long s t neg hb a b hT ix da db hl hs w he
     ·rw [decide_eq_false hl] at h2; cases h2
      exact rparse_dot_ok s t neg hb a b hT ix da db (by omega) hs w he

theorem digB_mdig (z : Int) : digB (mdig z) = true :=
 digB_of (mdig_all z) (List.length_pos_iff.2 (decDigits_ne _))

theorem noSep_dig {l : List UInt8} (h : AllDig l) : NoSepL l := fun c hc => by
 have := h c hc
 exact ⟨fun e => by subst e; exact absurd this.1 (by decide), fun e => by subst e; exact absurd this.1 (by decide)⟩

theorem body_ratT (n : Int) (d : Nat) : ∃ t neg, Body (ratT n d) t neg ∧ sgN neg n.natAbs = n ∧ t.data.toList = mdig n ++ (if d = 1 then [] else 47 :: Lib.decDigits d) := by
 have hl : (ratT n d).data.toList = Lib.itoa n ++ (if d = 1 then [] else 47 :: Lib.decDigits d) := by
  show ratL n d = _
  unfold ratL
  split <;> simp
 have hm : 0 < (mdig n).length := List.length_pos_iff.2 (decDigits_ne _)
 generalize (if d = 1 then [] else 47 :: Lib.decDigits d) = r at *
 rcases itoa_cases n with ⟨h0, h1⟩ | ⟨h0, h1⟩
 ·rw [h1] at hl
  have hsz : 0 < (ratT n d).size := by rw [Lib.size_eq, hl, List.length_append]; omega
  refine ⟨ratT n d, false, ⟨hsz, (fun e => by cases e), fun _ => .inr ⟨rfl, fun h => ?_⟩⟩, by unfold sgN; rw [if_neg Bool.false_ne_true]; omega, hl⟩
  obtain ⟨c, l, h2, h3⟩ := first_byte h
  rw [h3]
  cases hmd : mdig n with
  | nil => rw [hmd] at hm; exact absurd hm (by simp)
  | cons x m =>
   rw [hl, hmd] at h2
   injection h2 with h4 _
   have := mdig_all n x (by rw [hmd]; exact List.mem_cons_self ..)
   rw [← h4]
   omega
 ·rw [h1] at hl
  have hsz : 0 < (ratT n d).size := by rw [Lib.size_eq, hl]; simp
  exact ⟨⟨(mdig n ++ r).toArray⟩, true, ⟨hsz, fun _ => by rw [hl]; simp, (fun e => by cases e)⟩, by unfold sgN; rw [if_pos rfl]; omega, rfl⟩

theorem pq_right (q : Rat) (hs : (canonR q).size ≤ 200) : PQ (canonR q) (canonR q) 0 := by
 obtain ⟨t, neg, hb, hn, ht⟩ := body_ratT q.num q.den
 refine .inr ⟨t, neg, hb, ?_⟩
 have hl : decide (200 < (canonR q).size) = false := decide_eq_false (by omega)
 rw [hl]
 by_cases hd : q.den = 1
 ·rw [if_pos hd, List.append_nil] at ht
  refine .inl ⟨by rw [ht]; exact noSep_dig (mdig_all _), ?_⟩
  rw [ht, digB_mdig, mdig_val, hn]
  unfold pres
  have hq : mkRat q.num 1 = q := by rw [← hd]; exact Rat.mkRat_self q
  rw [hq]
  rfl
 ·rw [if_neg hd] at ht
  refine .inr (.inl ⟨mdig q.num, Lib.decDigits q.den, ht, noSep_dig (mdig_all _), ?_⟩)
  have hdz : decide (dval (Lib.decDigits q.den) = 0) = false := decide_eq_false (by rw [decDigits_val]; exact q.den_nz)
  have hdb : digB (Lib.decDigits q.den) = true := digB_of (decDigits_all _) (List.length_pos_iff.2 (decDigits_ne _))
  rw [digB_mdig, hdb, hdz, mdig_val, hn, decDigits_val, Rat.mkRat_self]
  rfl

end Go.Proofs.YtfhmgkicccfghaaGreatDoor
