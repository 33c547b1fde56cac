/- rational.Decimal and klipperef02.Decimal: what they compute, and that it is read as the rounded number. -/
import Derived.Test.YtjkbgjjfchhpfaaGreatDoorRfM
import Derived.Test.YtjkbgjjfchhpfaaGreatDoorRfP
namespace Go.Proofs.YtjkbgjjfchhpfaaGreatDoor
open Go.RowKit

/-- The digits of an integer, filled up with zeros to more than p. -/
def decP (z : Int) (p : Nat) : List UInt8 := List.replicate (p + 1 - (mdig z).length) 48 ++ mdig z
def decK (z : Int) (p : Nat) : Nat := (decP z p).length - p
def decL (z : Int) (p : Nat) : List UInt8 := (if z < 0 then [45] else []) ++ (if p = 0 then decP z p else (decP z p).take (decK z p) ++ 46 :: (decP z p).drop (decK z p))

theorem mdig_pos (z : Int) : 0 < (mdig z).length := List.length_pos_iff.2 (decDigits_ne _)

theorem decP_len (z : Int) (p : Nat) : (decP z p).length = decK z p + p ∧ 0 < decK z p := by
  have h := mdig_pos z
  have h1 : (decP z p).length = (p + 1 - (mdig z).length) + (mdig z).length := by unfold decP; rw [List.length_append, List.length_replicate]
  unfold decK
  omega

theorem dval_rep (c : Nat) (l : List UInt8) : dval (List.replicate c 48 ++ l) = dval l := by
  induction c with
  | zero => rfl
  | succ c ih => rw [List.replicate_succ, List.cons_append, dval_zero_cons, ih]

theorem decP_all (z : Int) (p : Nat) : AllDig (decP z p) ∧ dval (decP z p) = z.natAbs := by
  refine ⟨fun c hc => ?_, by unfold decP; rw [dval_rep, mdig_val]⟩
  rcases List.mem_append.1 hc with h | h
  · rw [(List.mem_replicate.1 h).2]; decide
  · exact mdig_all z c h

theorem decP_full (z : Int) (p : Nat) (h : p < (mdig z).length) : decP z p = mdig z := by
  unfold decP
  rw [show p + 1 - (mdig z).length = 0 by omega]
  rfl

theorem body_dec (z : Int) (r : List UInt8) (m : List UInt8) (hm : ∃ c l, m = c :: l ∧ 48 ≤ c.toNat) (T : ByteArray) (hT : T.data.toList = (if z < 0 then [45] else []) ++ (m ++ r)) :
    ∃ t neg, Body T t neg ∧ sgN neg z.natAbs = z ∧ t.data.toList = m ++ r := by
  obtain ⟨c, l, rfl, hc⟩ := hm
  by_cases h0 : z < 0
  · rw [if_pos h0] at hT
    exact ⟨⟨(c :: l ++ r).toArray⟩, true, ⟨by rw [Lib.size_eq, hT]; simp, fun _ => by rw [hT]; rfl, (fun e => by cases e)⟩, by unfold sgN; rw [if_pos rfl]; omega, rfl⟩
  · rw [if_neg h0] at hT
    refine ⟨T, false, ⟨by rw [Lib.size_eq, hT]; simp, (fun e => by cases e), fun _ => .inr ⟨rfl, fun h => ?_⟩⟩, by unfold sgN; rw [if_neg Bool.false_ne_true]; omega, hT⟩
    obtain ⟨x, m, h2, h3⟩ := first_byte h
    rw [hT] at h2
    injection h2 with h4 _
    rw [h3, ← h4]
    omega

theorem head_dig {l : List UInt8} (h : AllDig l) (h0 : 0 < l.length) : ∃ c m, l = c :: m ∧ 48 ≤ c.toNat := by
  cases l with
  | nil => exact absurd h0 (by simp)
  | cons c m => exact ⟨c, m, rfl, (h c (List.mem_cons_self ..)).1⟩

theorem decL_len (z : Int) (p : Nat) : (decL z p).length ≤ (mdig z).length + p + 3 := by
  have h1 : (decP z p).length = (p + 1 - (mdig z).length) + (mdig z).length := by unfold decP; rw [List.length_append, List.length_replicate]
  have h2 := mdig_pos z
  have h3 : (decL z p).length ≤ 1 + ((decP z p).length + 1) := by
    unfold decL
    rw [List.length_append]
    have a1 : (if z < 0 then [45] else ([] : List UInt8)).length ≤ 1 := by split <;> simp
    have a2 : (if p = 0 then decP z p else (decP z p).take (decK z p) ++ 46 :: (decP z p).drop (decK z p)).length ≤ (decP z p).length + 1 := by
      split
      · omega
      · rw [List.length_append, List.length_cons, List.length_take, List.length_drop]; omega
    omega
  by_cases h4 : (mdig z).length ≤ p
  · omega
  · omega

/-- A decimal text is read as the number that it writes. -/
theorem pq_dec (z : Int) (p : Nat) (hs : (mdig z).length + p ≤ 197) : PQ ⟨(decL z p).toArray⟩ (canonR (mkRat z (10 ^ p))) 0 := by
  have hlen := decL_len z p
  have hl : decide (200 < (⟨(decL z p).toArray⟩ : ByteArray).size) = false := decide_eq_false (by rw [Lib.size_eq]; show ¬ 200 < (decL z p).length; omega)
  obtain ⟨hd, hv⟩ := decP_all z p
  obtain ⟨hn, hk⟩ := decP_len z p
  by_cases hp : p = 0
  · subst hp
    obtain ⟨t, neg, hb, hsg, ht⟩ := body_dec z [] (decP z 0) (head_dig hd (by omega)) ⟨(decL z 0).toArray⟩ (by rw [List.append_nil]; unfold decL; rw [if_pos rfl])
    rw [List.append_nil] at ht
    refine .inr ⟨t, neg, hb, .inl ⟨by rw [ht]; exact noSep_dig hd, ?_⟩⟩
    rw [hl, ht, digB_of hd (by omega), hv, hsg]
    rfl
  · have ha : AllDig ((decP z p).take (decK z p)) := hd.take _
    have hb0 : AllDig ((decP z p).drop (decK z p)) := fun c hc => hd c (List.mem_of_mem_drop hc)
    have la : ((decP z p).take (decK z p)).length = decK z p := by rw [List.length_take]; omega
    have lb : ((decP z p).drop (decK z p)).length = p := by rw [List.length_drop]; omega
    obtain ⟨t, neg, hb, hsg, ht⟩ := body_dec z (46 :: (decP z p).drop (decK z p)) ((decP z p).take (decK z p)) (head_dig ha (by omega)) ⟨(decL z p).toArray⟩ (by unfold decL; rw [if_neg hp])
    refine .inr ⟨t, neg, hb, .inr (.inr ⟨_, _, ht, noSep_dig ha, ?_⟩)⟩
    rw [hl, digB_of ha (by omega), digB_of hb0 (by omega), List.take_append_drop, hv, hsg, lb]
    rfl

theorem round_small (x : Rat) (g : Nat) : (roundN x g).natAbs ≤ x.num.natAbs * g + 1 := by
  have hx : x * (g : Rat) + half = mkRat (2 * (x.num * (g : Int)) + (x.den : Int)) (2 * x.den) := by
    have h2 : ((2 * x.den : Nat) : Rat) ≠ 0 := by
      intro e
      have : 2 * x.den = 0 := by exact_mod_cast e
      exact x.den_nz (by omega)
    have hd : (x.den : Rat) ≠ 0 := by
      intro e
      have : x.den = 0 := by exact_mod_cast e
      exact x.den_nz this
    rw [Rat.mkRat_eq_div]
    have h3 := Rat.mkRat_self x
    rw [Rat.mkRat_eq_div] at h3
    have h4 : half = 1 / 2 := by decide +kernel
    rw [h4]
    push_cast
    have h5 : ((x.num : Int) : Rat) = x * (x.den : Rat) := by
      have : (x.num : Rat) / (x.den : Rat) * (x.den : Rat) = (x.num : Rat) := by grind
      rw [← this, h3]
    rw [h5]
    push_cast at h2
    grind
  unfold roundN
  rw [hx]
  have hd := x.den_pos
  have hq : (mkRat (2 * (x.num * (g : Int)) + (x.den : Int)) (2 * x.den)).num / ((mkRat (2 * (x.num * (g : Int)) + (x.den : Int)) (2 * x.den)).den : Int) = (2 * (x.num * (g : Int)) + (x.den : Int)) / ((2 * x.den : Nat) : Int) := by
    generalize 2 * (x.num * (g : Int)) + (x.den : Int) = n
    have hd2 : 0 < 2 * x.den := by omega
    generalize 2 * x.den = d at *
    have e1 : (mkRat n d).num * (d : Int) = n * ((mkRat n d).den : Int) := by
      have := Rat.mkRat_self (mkRat n d)
      exact (Rat.mkRat_eq_iff (mkRat n d).den_nz (by omega)).1 this
    have e2 : ((mkRat n d).num * (d : Int)) / (((mkRat n d).den : Int) * (d : Int)) = (mkRat n d).num / ((mkRat n d).den : Int) := Int.mul_ediv_mul_of_pos_left _ _ (by omega)
    have e3 : (n * ((mkRat n d).den : Int)) / ((d : Int) * ((mkRat n d).den : Int)) = n / (d : Int) := Int.mul_ediv_mul_of_pos_left _ _ (by have := (mkRat n d).den_pos; omega)
    rw [← e2, e1, ← e3, Int.mul_comm (d : Int)]
  rw [hq]
  have hA : (x.num * (g : Int)).natAbs = x.num.natAbs * g := by rw [Int.natAbs_mul, Int.natAbs_natCast]
  rw [← hA]
  generalize x.num * (g : Int) = X at *
  generalize x.den = D at *
  have h1 : (2 * X + (D : Int)) / ((2 * D : Nat) : Int) < (X.natAbs : Int) + 2 := by
    apply Int.ediv_lt_of_lt_mul (by omega)
    have : (X.natAbs : Int) * 1 ≤ (X.natAbs : Int) * (D : Int) := Int.mul_le_mul_of_nonneg_left (by omega) (by omega)
    have e : ((X.natAbs : Int) + 2) * ((2 * D : Nat) : Int) = 2 * ((X.natAbs : Int) * (D : Int)) + 4 * (D : Int) := by push_cast; grind
    rw [e]
    omega
  have h2 : -(X.natAbs : Int) - 1 ≤ (2 * X + (D : Int)) / ((2 * D : Nat) : Int) := by
    apply Int.le_ediv_of_mul_le (by omega)
    have : (X.natAbs : Int) * 1 ≤ (X.natAbs : Int) * (D : Int) := Int.mul_le_mul_of_nonneg_left (by omega) (by omega)
    have e : (-(X.natAbs : Int) - 1) * ((2 * D : Nat) : Int) = -(2 * ((X.natAbs : Int) * (D : Int))) - 2 * (D : Int) := by push_cast; grind
    rw [e]
    omega
  omega

end Go.Proofs.YtjkbgjjfchhpfaaGreatDoor
