/- strconv.ParseInt at the numeral of any integer, and the walk of integer.Small. -/
import Derived.Test.YtmkeigfckfkifaaDoorWord
import Derived.Lib.ParseIntBTie
namespace Go.Proofs.YtmkeigfckfkifaaDoor
open Go.RowKit

theorem parse10_big : ∀ (l : List UInt8) (acc : Nat), AllDig l → acc < 18446744073709551616 → 18446744073709551616 ≤ acc * 10 ^ l.length + dval l → Lib.parseUint10 acc l = .range := by
  intro l
  induction l with
  | nil =>
    intro acc _ h1 h2
    simp [dval] at h2
    omega
  | cons c l ih =>
    intro acc hd ha hb
    have h1 := hd.head
    rw [dval_cons, List.length_cons, Nat.pow_succ] at hb
    have e : acc * (10 ^ l.length * 10) + ((c.toNat - 48) * 10 ^ l.length + dval l) = (acc * 10 + (c.toNat - 48)) * 10 ^ l.length + dval l := by
      rw [Nat.add_mul, Nat.mul_comm (10 ^ l.length) 10, ← Nat.mul_assoc, Nat.add_assoc]
    rw [e] at hb
    rw [Lib.parseUint10, if_pos h1]
    by_cases h2 : 1844674407370955162 ≤ acc
    · rw [if_pos h2]
    · rw [if_neg h2]
      by_cases h3 : 18446744073709551616 ≤ acc * 10 + (c.toNat - 48)
      · rw [if_pos h3]
      · rw [if_neg h3]
        exact ih _ hd.tail (by omega) hb

theorem parseMag_big {l : List UInt8} (hne : l ≠ []) (hd : AllDig l) (hb : 18446744073709551616 ≤ dval l) : Lib.parseMag l = .range := by
  unfold Lib.parseMag
  rw [if_neg hne, parse10_big l 0 hd (by omega) (by simpa using hb)]

theorem atoi_in (z : Int) (h0 : -9223372036854775808 ≤ z) (h1 : z < 9223372036854775808) : Lib.atoiAll (Lib.itoa z) = .ok z := by
  by_cases h : z.natAbs < 9223372036854775808
  · exact atoi_itoa z h
  · have hz : z = -9223372036854775808 := by omega
    rcases itoa_cases z with ⟨hp, _⟩ | ⟨_, e⟩
    · omega
    · rw [e, Lib.atoiAll_minus, parseMag_digits (l := mdig z) (decDigits_ne _) (mdig_all z) (by rw [mdig_val]; omega), mdig_val]
      simp only [Lib.signed]
      rw [if_neg (by omega)]
      congr 1
      omega

theorem atoi_out (z : Int) (h : z < -9223372036854775808 ∨ 9223372036854775808 ≤ z) : Lib.atoiAll (Lib.itoa z) = .range := by
  have key : Lib.parseMag (mdig z) = .range ∨ Lib.parseMag (mdig z) = .ok z.natAbs := by
    by_cases hb : 18446744073709551616 ≤ z.natAbs
    · exact .inl (parseMag_big (decDigits_ne _) (mdig_all z) (by rw [mdig_val]; exact hb))
    · exact .inr (by rw [parseMag_digits (l := mdig z) (decDigits_ne _) (mdig_all z) (by rw [mdig_val]; omega), mdig_val])
  rcases itoa_cases z with ⟨hz, e⟩ | ⟨hz, e⟩
  · rw [e]
    obtain ⟨c, l, hcl⟩ : ∃ c l, mdig z = c :: l := by
      obtain ⟨_, _, c, l, h3, _⟩ := decDigits_facts z.natAbs
      exact ⟨c, l, h3⟩
    have hh := (hcl ▸ mdig_all z : AllDig (c :: l)).head
    rw [hcl, Lib.atoiAll_plain c l (by omega) (by omega), ← hcl]
    rcases key with k | k
    · rw [k]; rfl
    · rw [k]
      simp only [Lib.signless]
      rw [if_pos (by omega)]
  · rw [e, Lib.atoiAll_minus]
    rcases key with k | k
    · rw [k]; rfl
    · rw [k]
      simp only [Lib.signed]
      rw [if_pos (by omega)]

/-- The int of an integer, if there is one; and 0 if there is none. -/
def smallV (z : Int) : Int := if -9223372036854775808 ≤ z ∧ z < 9223372036854775808 then z else 0
def smallB (z : Int) : Bool := decide (-9223372036854775808 ≤ z ∧ z < 9223372036854775808)

theorem small_int (z : Int) (w : World) (tp : TypeId) (p : Value) (hv : w.var? Tryd.prog "strconv.ErrRange" = some #[.iface tp p]) (hs : (canon z).size ≤ 1000) :
    Calls Tryd.prog 15 #[.string (canon z)] w fun e w' => e = .returned (.tuple #[.int .i64 (smallV z), .bool (smallB z)]) ∧ Below w.heap.size w w' := by
  by_cases h : -9223372036854775808 ≤ z ∧ z < 9223372036854775808
  · have e1 : smallV z = z := if_pos h
    have e2 : smallB z = true := decide_eq_true h
    rw [e1, e2]
    have hp := Tryd.strconv_ParseInt_10_at64_ok (canon z) (by omega) z (by rw [canon_data, Lib.parseIntB_64]; exact atoi_in z h.1 h.2) w
    have HP := Lib.hid hp
    clear hp h e1 e2 hv hs
    go_enter Tryd.func15, Tryd.ntmps15
    go_wp2_with (go_at_call 43; refine HP.out.mono ?_; rintro e w' ⟨rfl, h1⟩; have H1 := Lib.hid h1; clear h1)
    go_ret2
    refine ⟨rfl, ?_⟩
    rcases H1.out with rfl | ⟨t, rfl⟩
    · exact Below.refl _ _
    · exact Lib.bytesWorld_below w _ t
  · have e1 : smallV z = 0 := if_neg h
    have e2 : smallB z = false := decide_eq_false h
    rw [e1, e2]
    have hp := Tryd.strconv_ParseInt_10_at64_range_var (canon z) (by omega) (by rw [canon_data, Lib.parseIntB_64]; exact atoi_out z (by omega)) tp p w hv
    have HP := Lib.hid hp
    clear hp h e1 e2 hv hs
    go_enter Tryd.func15, Tryd.ntmps15
    go_wp2_with (go_at_call 43; refine HP.out.mono ?_; rintro e w' ⟨N, rfl, _, _, h1⟩; have H1 := Lib.hid h1; clear h1)
    go_ret2
    exact ⟨rfl, H1.out⟩

end Go.Proofs.YtmkeigfckfkifaaDoor
