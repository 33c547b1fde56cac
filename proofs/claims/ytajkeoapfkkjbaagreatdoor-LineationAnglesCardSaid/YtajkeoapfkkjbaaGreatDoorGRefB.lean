/- The walks of the reference on integers; Sub, Compare, Power. -/
import Derived.Test.YtajkeoapfkkjbaaGreatDoorGRefA
import Derived.Test.YtajkeoapfkkjbaaGreatDoorGInt
import Derived.Test.YtajkeoapfkkjbaaGreatDoorGText
import Derived.Deep.QuietTactic
import Derived.BigQuiet
import Derived.Lib.ParseIntBTie
/- The walk of klipperef01.Mul: the product of two integers. -/
namespace Go.Proofs.YtajkeoapfkkjbaaGreatDoor
set_option linter.all false
open Go.RowKit

theorem lim4_len_digits (z : Int) (n : Nat) (h : (canon z).size ≤ n) : (lim4 z.natAbs).length ≤ n := by
  have h1 := itoa_len_small (z := z) (k := n) h
  refine lim_len_le 10000 (by omega) _ _ ?_
  exact Nat.lt_of_lt_of_le h1 (Nat.pow_le_pow_left (by omega) n)

theorem lim4_mul_len (x y M : Nat) (hx : (lim4 x).length ≤ M) (hy : (lim4 y).length ≤ M) : (lim4 (x * y)).length ≤ M + M := by
  have h1 : x < 10000 ^ (lim4 x).length := lim_lt_pow 10000 (by omega) x
  have h2 : y < 10000 ^ (lim4 y).length := lim_lt_pow 10000 (by omega) y
  have h3 : (10000 : Nat) ^ (lim4 x).length ≤ 10000 ^ M := Nat.pow_le_pow_right (by omega) hx
  have h4 : (10000 : Nat) ^ (lim4 y).length ≤ 10000 ^ M := Nat.pow_le_pow_right (by omega) hy
  refine lim_len_le 10000 (by omega) _ _ ?_
  rw [Nat.pow_add]
  exact Nat.mul_lt_mul'' (by omega) (by omega)

theorem chain2 {w W w3 w4 : World} (h0 : Below w.heap.size w W) (h1 : Below W.heap.size W w3) (h2 : Below w3.heap.size w3 w4) : Below w.heap.size w w4 :=
  (h0.trans (h1.mono h0.size)).trans (h2.mono (h0.trans (h1.mono h0.size)).size)
theorem chain3 {w W w3 w4 w5 : World} (h0 : Below w.heap.size w W) (h1 : Below W.heap.size W w3) (h2 : Below w3.heap.size w3 w4) (h3 : Below w4.heap.size w4 w5) : Below w.heap.size w w5 :=
  (chain2 h0 h1 h2).trans (h3.mono (chain2 h0 h1 h2).size)
theorem drew2 (w : World) (n m : Nat) : Below w.heap.size w ((w.drewN n).drewN m) := ((Drew.of _ _).below _).trans ((Drew.of _ _).below _)

end Go.Proofs.YtajkeoapfkkjbaaGreatDoor

/- The walks of integer.Neg and Abs. -/
namespace Go.Proofs.YtajkeoapfkkjbaaGreatDoor
open Go.RowKit

set_option maxHeartbeats 1000000 in
theorem neg_any (z : Int) (w : World) (hs : (canon z).size ≤ 100000) :
    Calls Tryz.prog 83 #[.string (canon z)] w fun e w' => e = .returned (.string (canon (-z))) ∧ Below w.heap.size w w' := by
  have h := fun W => sign_any z W
  rcases Int.lt_trichotomy z 0 with hz | hz | hz
  · rw [Int.sign_eq_neg_one_of_neg hz] at h
    have H := Lib.hid h
    have hd : (canon z).data.toList = 45 :: mdig z := by rw [canon_neg_eq z hz]
    have h0 : 1 ≤ (canon z).size := by rw [Lib.size_eq, hd]; simp
    have HE : Hid (canon (-z) = (canon z).extract 1 (canon z).size) := ba_ext (by
      rw [Lib.extract_to_end, hd, canon_nn_eq (-z) (by omega)]
      show mdig (-z) = _
      unfold mdig
      rw [Int.natAbs_neg]; rfl)
    clear h hd hz
    go_enter Tryz.func83, Tryz.ntmps83
    go_wp2_with (go_at_call 74; refine (H.out _).mono ?_; rintro e w' ⟨rfl, rfl⟩)
    go_ret
    rw [HE.out]
    exact ⟨rfl, Below.refl _ _⟩
  · subst hz
    rw [show (0 : Int).sign = 0 from rfl] at h
    have H := Lib.hid h
    clear h
    go_enter Tryz.func83, Tryz.ntmps83
    go_wp2_with (go_at_call 74; refine (H.out _).mono ?_; rintro e w' ⟨rfl, rfl⟩)
    go_ret
    exact ⟨rfl, Below.refl _ _⟩
  · rw [Int.sign_eq_one_of_pos hz] at h
    have H := Lib.hid h
    have HE : Hid (canon (-z) = (⟨#[45]⟩ : ByteArray) ++ canon z) := by
      rw [canon_neg_eq (-z) (by omega), minus_app]
      show (⟨(45 :: mdig (-z)).toArray⟩ : ByteArray) = _
      rw [canon_nn_eq z (by omega)]
      unfold mdig mag mdig
      rw [Int.natAbs_neg]
    clear h hz
    go_enter Tryz.func83, Tryz.ntmps83
    go_wp2_with (go_at_call 74; refine (H.out _).mono ?_; rintro e w' ⟨rfl, rfl⟩)
    go_ret
    rw [HE.out]
    exact ⟨rfl, Below.refl _ _⟩

theorem canon_neg_size (z : Int) (n : Nat) (h : (canon z).size ≤ n) : (canon (-z)).size ≤ n + 1 := by
  have h1 := mag_le z n h
  have h2 : (mag (-z)).size = (mag z).size := by
    show (mdig (-z)).length = (mdig z).length
    unfold mdig
    rw [Int.natAbs_neg]
  show (Lib.itoa (-z)).length ≤ n + 1
  have h3 : (mdig (-z)).length ≤ n := by
    have : (mag (-z)).size = (mdig (-z)).length := rfl
    omega
  rcases itoa_cases (-z) with ⟨_, e⟩ | ⟨_, e⟩
  · rw [e]; omega
  · rw [e, List.length_cons]; omega

end Go.Proofs.YtajkeoapfkkjbaaGreatDoor

/- The walk of integer.Compare. -/
namespace Go.Proofs.YtajkeoapfkkjbaaGreatDoor
open Go.RowKit

/-- The order of two integers of one sign, out of their digits. -/
def cmpD (a b : Int) : Int := if (mdig a).length < (mdig b).length then -1 else if (mdig b).length < (mdig a).length then 1 else Lib.compareBytes (mdig a) (mdig b)

theorem cmpD_abs (a b : Int) : cmpD a b = if a.natAbs < b.natAbs then -1 else if b.natAbs < a.natAbs then 1 else 0 := by
  have key : ∀ x y : Nat, (Lib.decDigits x).length < (Lib.decDigits y).length → x < y := fun x y h => by
    rcases Nat.lt_or_ge x y with h1 | h1
    · exact h1
    · have := decDigits_len_mono h1; omega
  unfold cmpD
  by_cases h1 : (mdig a).length < (mdig b).length
  · rw [if_pos h1, if_pos (key _ _ h1)]
  · rw [if_neg h1]
    by_cases h2 : (mdig b).length < (mdig a).length
    · have h3 := key _ _ h2
      rw [if_pos h2, if_neg (by omega), if_pos h3]
    · rw [if_neg h2, compare_digits _ _ (by omega) (mdig_all a) (mdig_all b), mdig_val, mdig_val]

theorem cmp_same (a b s : Int) (ha : a.sign = s) (hb : b.sign = s) : (a - b).sign = s * cmpD a b := by
  rw [cmpD_abs]
  rcases Int.lt_trichotomy a 0 with h | h | h
  · have h1 := Int.sign_eq_neg_one_of_neg h
    have h2 : b < 0 := Int.neg_of_sign_eq_neg_one (by omega)
    have e : s = -1 := by omega
    subst e
    by_cases h3 : a.natAbs < b.natAbs
    · rw [if_pos h3, Int.sign_eq_one_of_pos (by omega)]; rfl
    · rw [if_neg h3]
      by_cases h4 : b.natAbs < a.natAbs
      · rw [if_pos h4, Int.sign_eq_neg_one_of_neg (by omega)]; rfl
      · rw [if_neg h4, show a - b = 0 by omega]; rfl
  · subst h
    have e : s = 0 := by rw [← ha]; rfl
    subst e
    have h2 : b = 0 := Int.eq_zero_of_sign_eq_zero hb
    subst h2
    simp
  · have h1 := Int.sign_eq_one_of_pos h
    have h2 : 0 < b := Int.pos_of_sign_eq_one (by omega)
    have e : s = 1 := by omega
    subst e
    by_cases h3 : a.natAbs < b.natAbs
    · rw [if_pos h3, Int.sign_eq_neg_one_of_neg (by omega)]; rfl
    · rw [if_neg h3]
      by_cases h4 : b.natAbs < a.natAbs
      · rw [if_pos h4, Int.sign_eq_one_of_pos (by omega)]; rfl
      · rw [if_neg h4, show a - b = 0 by omega]; rfl

theorem cmp_lt (a b : Int) (h : a.sign < b.sign) : (a - b).sign = -1 := by
  have key : a < b := by
    rcases Int.lt_trichotomy a 0 with h1 | h1 | h1 <;> rcases Int.lt_trichotomy b 0 with h2 | h2 | h2
    · rw [Int.sign_eq_neg_one_of_neg h1, Int.sign_eq_neg_one_of_neg h2] at h; omega
    · omega
    · omega
    · rw [h1, Int.sign_eq_neg_one_of_neg h2] at h; simp at h
    · rw [h1, h2] at h; omega
    · omega
    · rw [Int.sign_eq_one_of_pos h1, Int.sign_eq_neg_one_of_neg h2] at h; omega
    · rw [Int.sign_eq_one_of_pos h1, h2] at h; simp at h
    · rw [Int.sign_eq_one_of_pos h1, Int.sign_eq_one_of_pos h2] at h; omega
  exact Int.sign_eq_neg_one_of_neg (by omega)

theorem cmp_gt (a b : Int) (h : b.sign < a.sign) : (a - b).sign = 1 := by
  have h1 := cmp_lt b a h
  have h2 : a - b = -(b - a) := by omega
  rw [h2, Int.sign_neg, h1]; rfl

theorem sign_range (z : Int) : z.sign = -1 ∨ z.sign = 0 ∨ z.sign = 1 := by
  rcases Int.lt_trichotomy z 0 with h | h | h
  · exact .inl (Int.sign_eq_neg_one_of_neg h)
  · exact .inr (.inl (by rw [h]; rfl))
  · exact .inr (.inr (Int.sign_eq_one_of_pos h))

theorem cmpD_range (a b : Int) : cmpD a b = -1 ∨ cmpD a b = 0 ∨ cmpD a b = 1 := by
  rw [cmpD_abs]
  split
  · exact .inl rfl
  · split
    · exact .inr (.inr rfl)
    · exact .inr (.inl rfl)

set_option maxHeartbeats 2000000 in
theorem compare_any (a b : Int) (w : World) :
    Calls Tryz.prog 54 #[.string (canon a), .string (canon b)] w fun e w' => e = .returned (.int .i64 (a - b).sign) ∧ w = w' := by
  have h1 := fun W => sign_any a W
  have h2 := fun W => sign_any b W
  have h3 := fun W => trimMinus a W
  have h4 := fun W => trimMinus b W
  obtain ⟨s, hs⟩ : ∃ s, a.sign = s := ⟨_, rfl⟩
  obtain ⟨t, ht⟩ : ∃ t, b.sign = t := ⟨_, rfl⟩
  obtain ⟨r, hr⟩ : ∃ r, (a - b).sign = r := ⟨_, rfl⟩
  have rs : s = -1 ∨ s = 0 ∨ s = 1 := hs ▸ sign_range a
  have rt : t = -1 ∨ t = 0 ∨ t = 1 := ht ▸ sign_range b
  rw [hs] at h1
  rw [ht] at h2
  rw [hr]
  have H1 := Lib.hid h1
  have H2 := Lib.hid h2
  have H3 := Lib.hid h3
  have H4 := Lib.hid h4
  clear h1 h2 h3 h4
  by_cases he : s = t
  · subst he
    have hc := cmp_same a b s hs ht
    rw [hr] at hc
    have rd := cmpD_range a b
    have hl : ∀ W, Calls Tryz.prog 76 #[.string (mag a), .string (mag b)] W fun e w' => e = .returned (.int .i64 (Lib.compareBytes (mdig a) (mdig b))) ∧ W = w' := fun W => (Tryz.strings_Compare (mag a) (mag b) W).mono fun e w' h => ⟨h.1, h.2.symm⟩
    by_cases l1 : (mdig a).length < (mdig b).length
    · have e1 : cmpD a b = -1 := by unfold cmpD; rw [if_pos l1]
      have n1 : (mag a).size < (mag b).size := l1
      rw [e1] at hc
      have e2 : r = -s := by omega
      subst e2
      clear hc hl rd e1 l1 hs ht hr rt
      go_enter Tryz.func54, Tryz.ntmps54
      go_wp2_with (first
        | (go_at_call_of 74 (Value.string (canon a)); refine (H1.out _).mono ?_; rintro e w' ⟨rfl, rfl⟩)
        | (go_at_call_of 74 (Value.string (canon b)); refine (H2.out _).mono ?_; rintro e w' ⟨rfl, rfl⟩)
        | (go_at_call_of 75 (Value.string (canon a)); refine (H3.out _).mono ?_; rintro e w' ⟨rfl, rfl⟩)
        | (go_at_call_of 75 (Value.string (canon b)); refine (H4.out _).mono ?_; rintro e w' ⟨rfl, rfl⟩))
      go_ret
      exact ⟨rfl, rfl⟩
    · by_cases l2 : (mdig b).length < (mdig a).length
      · have e1 : cmpD a b = 1 := by unfold cmpD; rw [if_neg l1, if_pos l2]
        have n1 : decide (((mag a).size : Int) < ((mag b).size : Int)) = false := decide_eq_false (by
          have : (mag a).size = (mdig a).length := rfl
          have : (mag b).size = (mdig b).length := rfl
          omega)
        have n3 : decide ((mag a).size < (mag b).size) = false := decide_eq_false l1
        have n2 : (mag a).size ≠ (mag b).size := fun h => by
          have : (mag a).size = (mdig a).length := rfl
          have : (mag b).size = (mdig b).length := rfl
          omega
        rw [e1] at hc
        have e2 : r = s := by omega
        subst e2
        clear hc hl rd e1 l1 l2 hs ht hr rt
        go_enter Tryz.func54, Tryz.ntmps54
        go_wp2_with (first
          | (go_at_call_of 74 (Value.string (canon a)); refine (H1.out _).mono ?_; rintro e w' ⟨rfl, rfl⟩)
          | (go_at_call_of 74 (Value.string (canon b)); refine (H2.out _).mono ?_; rintro e w' ⟨rfl, rfl⟩)
          | (go_at_call_of 75 (Value.string (canon a)); refine (H3.out _).mono ?_; rintro e w' ⟨rfl, rfl⟩)
          | (go_at_call_of 75 (Value.string (canon b)); refine (H4.out _).mono ?_; rintro e w' ⟨rfl, rfl⟩))
        go_ret
        exact ⟨rfl, rfl⟩
      · have e1 : cmpD a b = Lib.compareBytes (mdig a) (mdig b) := by unfold cmpD; rw [if_neg l1, if_neg l2]
        have n1 : (mag a).size = (mag b).size := by
          have : (mag a).size = (mdig a).length := rfl
          have : (mag b).size = (mdig b).length := rfl
          omega
        rw [← e1] at hl
        generalize cmpD a b = d at hl hc rd
        have HL := Lib.hid hl
        have HE := Lib.hid hc
        clear hl hc e1 l1 l2 hs ht hr rt
        go_enter Tryz.func54, Tryz.ntmps54
        go_wp2_with (first
          | (go_at_call_of 74 (Value.string (canon a)); refine (H1.out _).mono ?_; rintro e w' ⟨rfl, rfl⟩)
          | (go_at_call_of 74 (Value.string (canon b)); refine (H2.out _).mono ?_; rintro e w' ⟨rfl, rfl⟩)
          | (go_at_call_of 75 (Value.string (canon a)); refine (H3.out _).mono ?_; rintro e w' ⟨rfl, rfl⟩)
          | (go_at_call_of 75 (Value.string (canon b)); refine (H4.out _).mono ?_; rintro e w' ⟨rfl, rfl⟩)
          | (go_at_call 76; refine (HL.out _).mono ?_; rintro e w' ⟨rfl, rfl⟩))
        go_ret
        refine ⟨?_, rfl⟩
        show Ending.returned (.int .i64 (wrap64 (s * d))) = _
        rw [HE.out]
        rcases rs with rfl | rfl | rfl <;> rcases rd with rfl | rfl | rfl <;> kernel_rfl
  · have hne : s ≠ t := he
    by_cases hlt : s < t
    · have e2 : r = -1 := by rw [← hr]; exact cmp_lt a b (by rw [hs, ht]; exact hlt)
      subst e2
      clear hs ht hr he
      go_enter Tryz.func54, Tryz.ntmps54
      go_wp2_with (first
        | (go_at_call_of 74 (Value.string (canon a)); refine (H1.out _).mono ?_; rintro e w' ⟨rfl, rfl⟩)
        | (go_at_call_of 74 (Value.string (canon b)); refine (H2.out _).mono ?_; rintro e w' ⟨rfl, rfl⟩))
      go_ret
      exact ⟨rfl, rfl⟩
    · have e2 : r = 1 := by rw [← hr]; exact cmp_gt a b (by rw [hs, ht]; omega)
      subst e2
      clear hs ht hr he
      go_enter Tryz.func54, Tryz.ntmps54
      go_wp2_with (first
        | (go_at_call_of 74 (Value.string (canon a)); refine (H1.out _).mono ?_; rintro e w' ⟨rfl, rfl⟩)
        | (go_at_call_of 74 (Value.string (canon b)); refine (H2.out _).mono ?_; rintro e w' ⟨rfl, rfl⟩))
      go_ret
      exact ⟨rfl, rfl⟩

end Go.Proofs.YtajkeoapfkkjbaaGreatDoor

/- The walks of klipperef01.brief, Sign, Abs and Neg at any integer. -/
namespace Go.Proofs.YtajkeoapfkkjbaaGreatDoor
open Go.RowKit

theorem mag_canon (z : Int) : mag z = canon (z.natAbs : Int) := by rw [canon_nat]; rfl

end Go.Proofs.YtajkeoapfkkjbaaGreatDoor

/- The walks of klipperef01.Add, Sub and Compare. -/
namespace Go.Proofs.YtajkeoapfkkjbaaGreatDoor
open Go.RowKit

theorem brief_abs (z : Int) (h : (mag z).size ≤ 17) : z.natAbs < 100000000000000000 := by
  have h1 := dval_lt (mdig_all z)
  rw [mdig_val] at h1
  have h2 : (10 : Nat) ^ (mag z).size ≤ 10 ^ 17 := Nat.pow_le_pow_right (by omega) h
  have h3 : (mag z).size = (mdig z).length := rfl
  rw [h3] at h2
  omega

theorem lim4_add_len (x y M : Nat) (hx : (lim4 x).length ≤ M) (hy : (lim4 y).length ≤ M) : (lim4 (x + y)).length ≤ M + 1 := by
  have h1 : x < 10000 ^ (lim4 x).length := lim_lt_pow 10000 (by omega) x
  have h2 : y < 10000 ^ (lim4 y).length := lim_lt_pow 10000 (by omega) y
  have h3 : (10000 : Nat) ^ (lim4 x).length ≤ 10000 ^ M := Nat.pow_le_pow_right (by omega) hx
  have h4 : (10000 : Nat) ^ (lim4 y).length ≤ 10000 ^ M := Nat.pow_le_pow_right (by omega) hy
  refine lim_len_le 10000 (by omega) _ _ ?_
  rw [Nat.pow_succ]
  generalize (10000 : Nat) ^ M = s at *
  omega

theorem canon_sub_size (a b : Int) (n : Nat) (ha : (canon a).size ≤ n) (hb : (canon b).size ≤ n) : (canon (a - b)).size ≤ n + 2 := by
  have h1 := itoa_len_small (z := a) (k := n) ha
  have h2 := itoa_len_small (z := b) (k := n) hb
  have h3 : (a - b).natAbs < 10 ^ (n + 1) := by
    rw [Nat.pow_succ]
    generalize (10 : Nat) ^ n = s at *
    omega
  have := canon_size_lt (a - b) (n + 1) h3 (by omega)
  omega

end Go.Proofs.YtajkeoapfkkjbaaGreatDoor

/- The walk of klipperef01.DivMod: quotient and remainder. -/
namespace Go.Proofs.YtajkeoapfkkjbaaGreatDoor
open Go.RowKit

theorem lim4_unit : lim4 1 = [1] := by
  rw [← trim_eq4 [1] 1 (by intro x hx; simp at hx; omega) (by simp [valB])]
  exact trimL_snoc_ne [] 1 (by omega)

theorem slI_one {W : World} {g : Nat} {r : Int} (hc : W.cell? ⟨g, 0, none⟩ = some (.int .i64 r)) (hg : g < W.heap.size) : Sl W .i64 (some ⟨g, 0, none⟩) 1 [r] :=
  ⟨by simp, by simp only [maxLen]; omega, fun _ => ⟨g, 0, rfl, hg, fun j hj => by
    have : j = 0 := by simpa using hj
    subst this
    exact hc⟩⟩

end Go.Proofs.YtajkeoapfkkjbaaGreatDoor

/- The walk of klipperef01.Gcd. -/
namespace Go.Proofs.YtajkeoapfkkjbaaGreatDoor
open Go.RowKit

theorem canon_nat_size (n N : Nat) (h : n < 10 ^ N) (h0 : 0 < N) : (canon (n : Int)).size ≤ N + 1 := canon_size_lt (n : Int) N (by rw [Int.natAbs_natCast]; exact h) h0

theorem nat_lt_of_size (n N : Nat) (h : (canon (n : Int)).size ≤ N) : n < 10 ^ N := by
  have := itoa_len_small (z := (n : Int)) (k := N) h
  rw [Int.natAbs_natCast] at this
  exact this

theorem canon_size_mono (m n N : Nat) (hm : m ≤ n) (h : (canon (n : Int)).size ≤ N) (h0 : 0 < N) : (canon (m : Int)).size ≤ N + 1 :=
  canon_nat_size m N (Nat.lt_of_le_of_lt hm (nat_lt_of_size n N h)) h0

end Go.Proofs.YtajkeoapfkkjbaaGreatDoor

/- The walk of integer.Power: the power of an integer. -/
namespace Go.Proofs.YtajkeoapfkkjbaaGreatDoor
open Go.RowKit

theorem sq_abs (z : Int) : z * z = ((z.natAbs * z.natAbs : Nat) : Int) := by
  rcases Int.lt_or_le z 0 with h | h
  · have e : z = -(z.natAbs : Int) := by omega
    conv => lhs; rw [e]
    rw [Int.neg_mul_neg]; simp
  · have e : z = (z.natAbs : Int) := by omega
    conv => lhs; rw [e]
    simp

theorem pow_even (z : Int) (h : Nat) : z ^ (2 * h) = ((z.natAbs ^ (2 * h) : Nat) : Int) := by
  rw [Int.pow_mul, Nat.pow_mul]
  have e1 : z ^ 2 = z * z := by rw [Int.pow_succ, Int.pow_succ, Int.pow_zero, Int.one_mul]
  have e2 : z.natAbs ^ 2 = z.natAbs * z.natAbs := by rw [Nat.pow_succ, Nat.pow_succ, Nat.pow_zero, Nat.one_mul]
  rw [e1, e2, sq_abs]
  simp

theorem pow_sign (z : Int) (n : Nat) : (if (decide (z < 0) && decide (n % 2 = 1)) = true then -((z.natAbs ^ n : Nat) : Int) else ((z.natAbs ^ n : Nat) : Int)) = z ^ n := by
  rcases Nat.mod_two_eq_zero_or_one n with h | h
  · obtain ⟨m, rfl⟩ : ∃ m, n = 2 * m := ⟨n / 2, by omega⟩
    rw [if_neg (by simp), pow_even]
  · obtain ⟨m, rfl⟩ : ∃ m, n = 2 * m + 1 := ⟨n / 2, by omega⟩
    rw [decide_eq_true h, Bool.and_true, Int.pow_succ, pow_even, Nat.pow_succ]
    generalize z.natAbs ^ (2 * m) = p
    by_cases hz : z < 0
    · rw [if_pos (decide_eq_true hz), Int.natCast_mul, ← Int.mul_neg]
      congr 1
      omega
    · rw [if_neg (by simp [hz]), Int.natCast_mul]
      congr 1
      omega

theorem pow_len (X L j : Nat) (h : X < 10 ^ L) : (lim9 (X ^ j)).length ≤ L * j + 1 := by
  refine lim_len_le 1000000000 (by omega) _ _ ?_
  have h1 : X ^ j ≤ (10 ^ L) ^ j := Nat.pow_le_pow_left (by omega) j
  rw [← Nat.pow_mul] at h1
  have h3 : (10 : Nat) ^ (L * j) ≤ 1000000000 ^ (L * j) := Nat.pow_le_pow_left (by omega) _
  have h4 : (1000000000 : Nat) ^ (L * j) < 1000000000 ^ (L * j + 1) := Nat.pow_lt_pow_right (by omega) (by omega)
  omega

/-- What the rounds of Power keep. -/
def PowR (X n k o y : Nat) : Prop := ∃ e m, o = X ^ e ∧ y = X ^ m ∧ e + k * m = n

theorem powR_start (X n : Nat) : PowR X n n 1 X := ⟨0, 1, by simp, by simp, by simp⟩
theorem powR_odd {X n h o y : Nat} (hp : PowR X n (2 * h + 1) o y) : PowR X n h (o * y) (y * y) := by
  obtain ⟨e, m, rfl, rfl, h3⟩ := hp
  refine ⟨e + m, m + m, (Nat.pow_add ..).symm, (Nat.pow_add ..).symm, ?_⟩
  rw [← h3, Nat.add_mul, Nat.mul_assoc, Nat.mul_add, Nat.two_mul]
  omega
theorem powR_even {X n h o y : Nat} (hp : PowR X n (2 * h) o y) : PowR X n h o (y * y) := by
  obtain ⟨e, m, rfl, rfl, h3⟩ := hp
  refine ⟨e, m + m, rfl, (Nat.pow_add ..).symm, ?_⟩
  rw [← h3, Nat.mul_assoc, Nat.mul_add, Nat.two_mul]
theorem powR_end {X n o y : Nat} (hp : PowR X n 0 o y) : o = X ^ n := by
  obtain ⟨e, m, rfl, rfl, h3⟩ := hp
  rw [Nat.zero_mul, Nat.add_zero] at h3
  rw [h3]
theorem powR_len {X n k o y L : Nat} (hp : PowR X n k o y) (hX : X < 10 ^ L) (hn : L * n ≤ 5000) : (lim9 o).length ≤ 5001 ∧ (0 < k → (lim9 y).length ≤ 5001) := by
  obtain ⟨e, m, rfl, rfl, h3⟩ := hp
  have h1 := pow_len X L e hX
  have h2 := pow_len X L m hX
  have h4 : L * e ≤ L * n := Nat.mul_le_mul_left _ (by omega)
  refine ⟨by omega, fun hk => ?_⟩
  have h5 : m ≤ k * m := Nat.le_mul_of_pos_left m hk
  have h6 : L * m ≤ L * n := Nat.mul_le_mul_left _ (by omega)
  omega

theorem canon_pos (z : Int) : 0 < (canon z).size := by
  show 0 < (Lib.itoa z).length
  rcases itoa_cases z with ⟨_, e⟩ | ⟨_, e⟩
  · rw [e]
    obtain ⟨_, _, c, l, h3, _⟩ := decDigits_facts z.natAbs
    show 0 < (Lib.decDigits z.natAbs).length
    rw [h3]; simp
  · rw [e]; simp

end Go.Proofs.YtajkeoapfkkjbaaGreatDoor

/- The walk of integer.Check: the right texts of an integer. -/
namespace Go.Proofs.YtajkeoapfkkjbaaGreatDoor
open Go.RowKit

/-- The digits of a right integer: at least one, at most 200, no leading zero, and no minus ahead of a zero. -/
def headB (neg : Bool) (t : List UInt8) : Bool := !t.isEmpty && decide (t.length ≤ 200) && !(t.head? == some 48 && (neg || decide (1 < t.length)))
def rightL (neg : Bool) (t : List UInt8) : Bool := headB neg t && allDigB t

theorem allDig_succ (T : ByteArray) (k : Nat) (h : k < T.size) (ha : AllDig (T.data.toList.take k)) (hd : 48 ≤ T[k].toNat ∧ T[k].toNat ≤ 57) : AllDig (T.data.toList.take (k + 1)) := by
  have hl : k < T.data.toList.length := by rw [← Lib.size_eq]; exact h
  rw [List.take_succ_eq_append_getElem hl]
  intro c hc
  rcases List.mem_append.1 hc with h1 | h1
  · exact ha c h1
  · have e : c = T[k] := by
      have h2 : c = T.data.toList[k] := by simpa using h1
      exact h2
    rw [e]
    exact hd

theorem allDig_whole (T : ByteArray) (ha : AllDig (T.data.toList.take T.size)) : allDigB T.data.toList = true := by
  rw [Lib.size_eq, List.take_length] at ha
  exact (allDigB_iff _).2 ha

theorem ret_int {a b : Int} (h : a = b) : Ending.returned (.int .i64 a) = .returned (.int .i64 b) := by rw [h]

theorem head_of (T : ByteArray) (h : 0 < T.size) : T.data.toList.head? = some T[0] := by rw [head_get T h]; rfl

set_option maxHeartbeats 2000000 in
theorem check_of (s T : ByteArray) (neg : Bool) (w : World) (hT : T.size ≤ 1000000)
    (hcut : ∀ W, Calls Tryz.prog 96 #[.string s, .string ⟨#[45]⟩] W fun e w' => e = .returned (.tuple #[.string T, .bool neg]) ∧ W = w') :
    Calls Tryz.prog 86 #[.string s] w fun e w' => e = .returned (.int .i64 (if rightL neg T.data.toList = true then 0 else 2)) ∧ w = w' := by
  have HC := Lib.hid hcut
  clear hcut
  have hl : T.data.toList.length = T.size := (Lib.size_eq T).symm
  have hbad : headB neg T.data.toList = false → (if rightL neg T.data.toList = true then (0 : Int) else 2) = 2 := fun h => by rw [if_neg]; unfold rightL; rw [h]; simp
  have hgood : headB neg T.data.toList = true → allDigB T.data.toList = true → (if rightL neg T.data.toList = true then (0 : Int) else 2) = 0 := fun h k => by rw [if_pos]; unfold rightL; rw [h, k]; rfl
  have hdig : allDigB T.data.toList = false → (if rightL neg T.data.toList = true then (0 : Int) else 2) = 2 := fun h => by rw [if_neg]; unfold rightL; rw [h]; simp
  obtain ⟨Z, hZ⟩ : ∃ Z, (if rightL neg T.data.toList = true then (0 : Int) else 2) = Z := ⟨_, rfl⟩
  rw [hZ] at hbad hgood hdig ⊢
  have HB := Lib.hid hdig
  clear hdig hZ
  by_cases hne : T.size = 0
  · have hn : T.data.toList = [] := List.length_eq_zero_iff.1 (by omega)
    have HV := Lib.hid (hbad (by rw [hn]; rfl))
    have hTn : T.toList = [] := by rw [ByteArray.toList_eq, hn]
    have hTe : T.toList.isEmpty = true := by rw [hTn]; rfl
    clear hbad hgood HB hn hl hne
    go_enter Tryz.func86, Tryz.ntmps86
    go_wp2_with (go_at_call 96; refine (HC.out _).mono ?_; rintro e w' ⟨rfl, rfl⟩)
    go_ret
    exact ⟨ret_int HV.out.symm, rfl⟩
  have hTe : T.toList.isEmpty = false := by
    rw [ByteArray.toList_eq]
    cases h : T.data.toList with
    | nil => rw [h] at hl; exact absurd hl.symm hne
    | cons c l => rfl
  have hTb : (T.toList == []) = false := by rw [List.isEmpty_eq_false_iff] at hTe; exact beq_eq_false_iff_ne.2 hTe
  have hne1 : T.data.toList.isEmpty = false := by rw [← ByteArray.toList_eq]; exact hTe
  have h0 : 0 < T.size := by omega
  by_cases hlong : 200 < T.size
  · have HV := Lib.hid (hbad (by unfold headB; rw [hl, decide_eq_false (by omega)]; simp))
    have hli : (200 : Int) < (T.size : Int) := by omega
    clear hbad hgood HB hne1
    go_enter Tryz.func86, Tryz.ntmps86
    go_wp2_with (go_at_call 96; refine (HC.out _).mono ?_; rintro e w' ⟨rfl, rfl⟩)
    go_ret
    exact ⟨ret_int HV.out.symm, rfl⟩
  have hl1 : decide ((200 : Int) < (T.size : Int)) = false := decide_eq_false (by omega)
  have hl2 : decide (200 < T.size) = false := decide_eq_false hlong
  have hh := head_of T h0
  have hle : decide (T.data.toList.length ≤ 200) = true := decide_eq_true (by omega)
  by_cases h48 : T[0].toNat = 48
  · have hc : ((T[0].toNat : Int) == 48) = true := by rw [h48]; rfl
    have h8 : T[0] = 48 := UInt8.toNat_inj.1 h48
    by_cases hone : 1 < T.size
    · have HV := Lib.hid (hbad (by unfold headB; rw [hh, h8, hl, decide_eq_true hone]; simp))
      have hoi : (1 : Int) < (T.size : Int) := by omega
      clear hbad hgood HB hne1 hh hle hlong hne h8
      go_enter Tryz.func86, Tryz.ntmps86
      go_wp2_with (go_at_call 96; refine (HC.out _).mono ?_; rintro e w' ⟨rfl, rfl⟩)
      go_ret
      exact ⟨ret_int HV.out.symm, rfl⟩
    have ho1 : decide ((1 : Int) < (T.size : Int)) = false := decide_eq_false (by omega)
    have ho2 : decide (1 < T.size) = false := decide_eq_false hone
    cases neg with
    | true =>
      have HV := Lib.hid (hbad (by unfold headB; rw [hh, h8]; simp))
      clear hbad hgood HB hne1 hh hle hlong hne h8
      go_enter Tryz.func86, Tryz.ntmps86
      go_wp2_with (go_at_call 96; refine (HC.out _).mono ?_; rintro e w' ⟨rfl, rfl⟩)
      go_ret
      exact ⟨ret_int HV.out.symm, rfl⟩
    | false =>
      have HG := Lib.hid (hgood (by unfold headB; rw [hh, h8, hle, hne1, hl, ho2]; simp))
      clear hbad hgood hne1 hh hle hlong hne h8
      go_enter Tryz.func86, Tryz.ntmps86
      go_wp2_with (go_at_call 96; refine (HC.out _).mono ?_; rintro e w' ⟨rfl, rfl⟩)
      go_loop [5, 33] (fun _ iv => ∃ k : Nat, k ≤ T.size ∧ iv = .int .i64 k ∧ Hid (AllDig (T.data.toList.take k))) (fun _ iv => T.size - (intOf iv).toNat)
      case atStart => exact ⟨0, Nat.zero_le _, rfl, Lib.hid (by intro c hc; simp at hc)⟩
      case round =>
        obtain ⟨k, hk, rfl, HK⟩ := hrel
        by_cases hlt : k < T.size
        · by_cases hlo : T[k].toNat < 48
          · have HV := Lib.hid (HB.out (notDig_of_get T k hlt (by omega)))
            go_wp2
            go_ret
            exact ⟨ret_int HV.out.symm, rfl⟩
          · have hlo' : decide ((T[k].toNat : Int) < 48) = false := decide_eq_false (by omega)
            by_cases hhi : 57 < T[k].toNat
            · have HV := Lib.hid (HB.out (notDig_of_get T k hlt (by omega)))
              go_wp2
              go_ret
              exact ⟨ret_int HV.out.symm, rfl⟩
            · have hhi' : decide ((57 : Int) < (T[k].toNat : Int)) = false := decide_eq_false (by omega)
              have HN : Hid (AllDig (T.data.toList.take (k + 1))) := Lib.hid (allDig_succ T k hlt HK.out ⟨by omega, by omega⟩)
              clear hlo hhi
              go_wp2
              go_round
              case rel => exact ⟨k + 1, by omega, by go_num, HN⟩
              case measure => simp [intOf]; omega
        · obtain rfl : k = T.size := by omega
          have HV := Lib.hid (HG.out (allDig_whole T HK.out))
          go_wp2
          go_ret
          exact ⟨ret_int HV.out.symm, rfl⟩
  · have hc : ((T[0].toNat : Int) == 48) = false := beq_eq_false_iff_ne.2 (by omega)
    have hc2 : (T[0] == 48) = false := beq_eq_false_iff_ne.2 (fun e => h48 (by rw [e]; rfl))
    have HG := Lib.hid (hgood (by
      unfold headB
      rw [hh, hle, hne1]
      have : (some T[0] == some (48 : UInt8)) = false := by simpa using hc2
      rw [this]; rfl))
    clear hbad hgood hne1 hh hle hlong hne hc2
    go_enter Tryz.func86, Tryz.ntmps86
    go_wp2_with (go_at_call 96; refine (HC.out _).mono ?_; rintro e w' ⟨rfl, rfl⟩)
    go_loop [5, 33] (fun _ iv => ∃ k : Nat, k ≤ T.size ∧ iv = .int .i64 k ∧ Hid (AllDig (T.data.toList.take k))) (fun _ iv => T.size - (intOf iv).toNat)
    case atStart => exact ⟨0, Nat.zero_le _, rfl, Lib.hid (by intro c hc; simp at hc)⟩
    case round =>
      obtain ⟨k, hk, rfl, HK⟩ := hrel
      by_cases hlt : k < T.size
      · by_cases hlo : T[k].toNat < 48
        · have HV := Lib.hid (HB.out (notDig_of_get T k hlt (by omega)))
          go_wp2
          go_ret
          exact ⟨ret_int HV.out.symm, rfl⟩
        · have hlo' : decide ((T[k].toNat : Int) < 48) = false := decide_eq_false (by omega)
          by_cases hhi : 57 < T[k].toNat
          · have HV := Lib.hid (HB.out (notDig_of_get T k hlt (by omega)))
            go_wp2
            go_ret
            exact ⟨ret_int HV.out.symm, rfl⟩
          · have hhi' : decide ((57 : Int) < (T[k].toNat : Int)) = false := decide_eq_false (by omega)
            have HN : Hid (AllDig (T.data.toList.take (k + 1))) := Lib.hid (allDig_succ T k hlt HK.out ⟨by omega, by omega⟩)
            clear hlo hhi
            go_wp2
            go_round
            case rel => exact ⟨k + 1, by omega, by go_num, HN⟩
            case measure => simp [intOf]; omega
      · obtain rfl : k = T.size := by omega
        have HV := Lib.hid (HG.out (allDig_whole T HK.out))
        go_wp2
        go_ret
        exact ⟨ret_int HV.out.symm, rfl⟩

/-- Which texts are right. -/
def rightS : List UInt8 → Bool
  | [] => false
  | c :: m => if c = 45 then rightL true m else rightL false (c :: m)

theorem check_any (s : ByteArray) (w : World) (hs : s.size ≤ 1000000) :
    Calls Tryz.prog 86 #[.string s] w fun e w' => e = .returned (.int .i64 (if rightS s.data.toList = true then 0 else 2)) ∧ w = w' := by
  have hl : s.data.toList.length = s.size := (Lib.size_eq s).symm
  have e45 : (⟨#[45]⟩ : ByteArray).data.toList = [45] := rfl
  cases hsl : s.data.toList with
  | nil =>
    have hcut : ∀ W, Calls Tryz.prog 96 #[.string s, .string ⟨#[45]⟩] W fun e w' => e = .returned (.tuple #[.string s, .bool false]) ∧ W = w' := fun W => by
      refine (Tryz.strings_CutPrefix s ⟨#[45]⟩ W).mono ?_
      rintro e w' ⟨rfl, rfl⟩
      have es : (⟨([] : List UInt8).toArray⟩ : ByteArray) = s := by rw [← hsl]
      rw [hsl, e45, show Lib.trimPrefix ([] : List UInt8) [45] = [] from rfl, show Lib.hasPrefix ([] : List UInt8) [45] = false from rfl, es]
      exact ⟨rfl, rfl⟩
    have h := check_of s s false w hs hcut
    rw [hsl] at h
    exact h
  | cons c m =>
    have hm : m.length ≤ 1000000 := by rw [hsl] at hl; simp at hl; omega
    have es : (⟨(c :: m).toArray⟩ : ByteArray) = s := by rw [← hsl]
    by_cases h45 : c = 45
    · subst h45
      have h := check_of s ⟨m.toArray⟩ true w hm (fun W => by
        refine (Tryz.strings_CutPrefix s ⟨#[45]⟩ W).mono ?_
        rintro e w' ⟨rfl, rfl⟩
        rw [hsl, e45, (pre_cons 45 45 m).1, (pre_cons 45 45 m).2, if_pos rfl]
        exact ⟨rfl, rfl⟩)
      exact h
    · have h := check_of s s false w hs (fun W => by
        refine (Tryz.strings_CutPrefix s ⟨#[45]⟩ W).mono ?_
        rintro e w' ⟨rfl, rfl⟩
        have hb : ((45 : UInt8) == c) = false := beq_eq_false_iff_ne.2 (fun e => h45 e.symm)
        rw [hsl, e45, (pre_cons c 45 m).1, (pre_cons c 45 m).2, if_neg (fun e => h45 e.symm), es, hb]
        exact ⟨rfl, rfl⟩)
      rw [hsl] at h
      have e : rightS (c :: m) = rightL false (c :: m) := by simp only [rightS, if_neg h45]
      rw [e]
      exact h

end Go.Proofs.YtajkeoapfkkjbaaGreatDoor

/- The walks of klipperef01.Canonical and Right at whatever text. -/
namespace Go.Proofs.YtajkeoapfkkjbaaGreatDoor
open Go.RowKit

/-- The digits of a canonical integer. -/
def canonL (neg : Bool) (t : List UInt8) : Bool := !t.isEmpty && allDigB t && !(t.head? == some 48 && (neg || decide (1 < t.length)))

theorem rightL_eq (neg : Bool) (t : List UInt8) : rightL neg t = (canonL neg t && decide (t.length ≤ 200)) := by
  unfold rightL headB canonL
  cases t.isEmpty <;> cases allDigB t <;> cases decide (t.length ≤ 200) <;> simp

theorem ret_bl {a b : Bool} (h : a = b) : Ending.returned (.bool a) = .returned (.bool b) := by rw [h]

end Go.Proofs.YtajkeoapfkkjbaaGreatDoor

/- strconv.ParseInt at the numeral of any integer, and the walk of integer.Small. -/
namespace Go.Proofs.YtajkeoapfkkjbaaGreatDoor
open Go.RowKit

theorem parse10_big : ∀ (l : List UInt8) (acc : Nat), AllDig l → acc < 18446744073709551616 → 18446744073709551616 ≤ acc * 10 ^ l.length + dval l → Lib.parseUint10 acc l = .range := by
  intro l
  induction l with
  | nil =>
    intro acc _ h1 h2
    simp [dval] at h2
    omega
  | cons c l ih =>
    intro acc hd ha hb
    have h1 := hd.head
    rw [dval_cons, List.length_cons, Nat.pow_succ] at hb
    have e : acc * (10 ^ l.length * 10) + ((c.toNat - 48) * 10 ^ l.length + dval l) = (acc * 10 + (c.toNat - 48)) * 10 ^ l.length + dval l := by
      rw [Nat.add_mul, Nat.mul_comm (10 ^ l.length) 10, ← Nat.mul_assoc, Nat.add_assoc]
    rw [e] at hb
    rw [Lib.parseUint10, if_pos h1]
    by_cases h2 : 1844674407370955162 ≤ acc
    · rw [if_pos h2]
    · rw [if_neg h2]
      by_cases h3 : 18446744073709551616 ≤ acc * 10 + (c.toNat - 48)
      · rw [if_pos h3]
      · rw [if_neg h3]
        exact ih _ hd.tail (by omega) hb

theorem parseMag_big {l : List UInt8} (hne : l ≠ []) (hd : AllDig l) (hb : 18446744073709551616 ≤ dval l) : Lib.parseMag l = .range := by
  unfold Lib.parseMag
  rw [if_neg hne, parse10_big l 0 hd (by omega) (by simpa using hb)]

theorem atoi_in (z : Int) (h0 : -9223372036854775808 ≤ z) (h1 : z < 9223372036854775808) : Lib.atoiAll (Lib.itoa z) = .ok z := by
  by_cases h : z.natAbs < 9223372036854775808
  · exact atoi_itoa z h
  · have hz : z = -9223372036854775808 := by omega
    rcases itoa_cases z with ⟨hp, _⟩ | ⟨_, e⟩
    · omega
    · rw [e, Lib.atoiAll_minus, parseMag_digits (l := mdig z) (decDigits_ne _) (mdig_all z) (by rw [mdig_val]; omega), mdig_val]
      simp only [Lib.signed]
      rw [if_neg (by omega)]
      congr 1
      omega

theorem atoi_out (z : Int) (h : z < -9223372036854775808 ∨ 9223372036854775808 ≤ z) : Lib.atoiAll (Lib.itoa z) = .range := by
  have key : Lib.parseMag (mdig z) = .range ∨ Lib.parseMag (mdig z) = .ok z.natAbs := by
    by_cases hb : 18446744073709551616 ≤ z.natAbs
    · exact .inl (parseMag_big (decDigits_ne _) (mdig_all z) (by rw [mdig_val]; exact hb))
    · exact .inr (by rw [parseMag_digits (l := mdig z) (decDigits_ne _) (mdig_all z) (by rw [mdig_val]; omega), mdig_val])
  rcases itoa_cases z with ⟨hz, e⟩ | ⟨hz, e⟩
  · rw [e]
    obtain ⟨c, l, hcl⟩ : ∃ c l, mdig z = c :: l := by
      obtain ⟨_, _, c, l, h3, _⟩ := decDigits_facts z.natAbs
      exact ⟨c, l, h3⟩
    have hh := (hcl ▸ mdig_all z : AllDig (c :: l)).head
    rw [hcl, Lib.atoiAll_plain c l (by omega) (by omega), ← hcl]
    rcases key with k | k
    · rw [k]; rfl
    · rw [k]
      simp only [Lib.signless]
      rw [if_pos (by omega)]
  · rw [e, Lib.atoiAll_minus]
    rcases key with k | k
    · rw [k]; rfl
    · rw [k]
      simp only [Lib.signed]
      rw [if_pos (by omega)]

/-- The int of an integer, if there is one; and 0 if there is none. -/
def smallV (z : Int) : Int := if -9223372036854775808 ≤ z ∧ z < 9223372036854775808 then z else 0
def smallB (z : Int) : Bool := decide (-9223372036854775808 ≤ z ∧ z < 9223372036854775808)

end Go.Proofs.YtajkeoapfkkjbaaGreatDoor

/- The walk of klipperef01.Small at an integer of at most 1000 digits. -/
namespace Go.Proofs.YtajkeoapfkkjbaaGreatDoor
open Go.RowKit

theorem dval_take_le {l : List UInt8} (k : Nat) : dval (l.take k) ≤ dval l := by
  have h := dval_append (l.take k) (l.drop k)
  rw [List.take_append_drop] at h
  rw [h]
  have h1 : dval (l.take k) * 1 ≤ dval (l.take k) * 10 ^ (l.drop k).length := Nat.mul_le_mul_left _ (Nat.one_le_pow _ _ (by omega))
  omega

theorem small_far (z : Int) (h : 9223372036854775808 < z.natAbs) : smallV z = 0 ∧ smallB z = false :=
  ⟨if_neg (by omega), decide_eq_false (by omega)⟩

end Go.Proofs.YtajkeoapfkkjbaaGreatDoor
