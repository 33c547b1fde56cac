/- The walks of integer.Neg, Abs, Sub and Compare. -/
import Derived.Test.YtmkeigfckfkifaaDoorAdd
import Derived.Test.YtmkeigfckfkifaaDoorRefH
namespace Go.Proofs.YtmkeigfckfkifaaDoor
open Go.RowKit

theorem abs_any (z : Int) (w : World) :
    Calls Tryd.prog 26 #[.string (canon z)] w fun e w' => e = .returned (.string (canon (z.natAbs : Int))) ∧ Below w.heap.size w w' := by
  have h := fun W => trimMinus z W
  have e : mag z = canon (z.natAbs : Int) := by rw [canon_nat]; rfl
  rw [e] at h
  have H := Lib.hid h
  clear h e
  go_enter Tryd.func26, Tryd.ntmps26
  go_wp2_with (go_at_call 30; refine (H.out _).mono ?_; rintro e w' ⟨rfl, rfl⟩)
  go_ret
  exact ⟨rfl, Below.refl _ _⟩

set_option maxHeartbeats 1000000 in
theorem neg_any (z : Int) (w : World) (hs : (canon z).size ≤ 100000) :
    Calls Tryd.prog 52 #[.string (canon z)] w fun e w' => e = .returned (.string (canon (-z))) ∧ Below w.heap.size w w' := by
  have h := fun W => sign_any z W
  rcases Int.lt_trichotomy z 0 with hz | hz | hz
  · rw [Int.sign_eq_neg_one_of_neg hz] at h
    have H := Lib.hid h
    have hd : (canon z).data.toList = 45 :: mdig z := by rw [canon_neg_eq z hz]
    have h0 : 1 ≤ (canon z).size := by rw [Lib.size_eq, hd]; simp
    have HE : Hid (canon (-z) = (canon z).extract 1 (canon z).size) := ba_ext (by
      rw [Lib.extract_to_end, hd, canon_nn_eq (-z) (by omega)]
      show mdig (-z) = _
      unfold mdig
      rw [Int.natAbs_neg]; rfl)
    clear h hd hz
    go_enter Tryd.func52, Tryd.ntmps52
    go_wp2_with (go_at_call 21; refine (H.out _).mono ?_; rintro e w' ⟨rfl, rfl⟩)
    go_ret
    rw [HE.out]
    exact ⟨rfl, Below.refl _ _⟩
  · subst hz
    rw [show (0 : Int).sign = 0 from rfl] at h
    have H := Lib.hid h
    clear h
    go_enter Tryd.func52, Tryd.ntmps52
    go_wp2_with (go_at_call 21; refine (H.out _).mono ?_; rintro e w' ⟨rfl, rfl⟩)
    go_ret
    exact ⟨rfl, Below.refl _ _⟩
  · rw [Int.sign_eq_one_of_pos hz] at h
    have H := Lib.hid h
    have HE : Hid (canon (-z) = (⟨#[45]⟩ : ByteArray) ++ canon z) := by
      rw [canon_neg_eq (-z) (by omega), minus_app]
      show (⟨(45 :: mdig (-z)).toArray⟩ : ByteArray) = _
      rw [canon_nn_eq z (by omega)]
      unfold mdig mag mdig
      rw [Int.natAbs_neg]
    clear h hz
    go_enter Tryd.func52, Tryd.ntmps52
    go_wp2_with (go_at_call 21; refine (H.out _).mono ?_; rintro e w' ⟨rfl, rfl⟩)
    go_ret
    rw [HE.out]
    exact ⟨rfl, Below.refl _ _⟩

theorem canon_neg_size (z : Int) (n : Nat) (h : (canon z).size ≤ n) : (canon (-z)).size ≤ n + 1 := by
  have h1 := mag_le z n h
  have h2 : (mag (-z)).size = (mag z).size := by
    show (mdig (-z)).length = (mdig z).length
    unfold mdig
    rw [Int.natAbs_neg]
  show (Lib.itoa (-z)).length ≤ n + 1
  have h3 : (mdig (-z)).length ≤ n := by
    have : (mag (-z)).size = (mdig (-z)).length := rfl
    omega
  rcases itoa_cases (-z) with ⟨_, e⟩ | ⟨_, e⟩
  · rw [e]; omega
  · rw [e, List.length_cons]; omega

set_option maxHeartbeats 1000000 in
theorem sub_any (a b : Int) (w : World) (ht : Pow10 w) (ha : (canon a).size ≤ 9999) (hb : (canon b).size ≤ 9999) :
    Calls Tryd.prog 27 #[.string (canon a), .string (canon b)] w fun e w' => e = .returned (.string (canon (a - b))) ∧ Below w.heap.size w w' := by
  have h1 := neg_any b w (by omega)
  have h2 := fun W (hW : Below w.heap.size w W) => add_any a (-b) W (ht.below hW) (by omega) (canon_neg_size b 9999 hb)
  rw [show a + -b = a - b from (Int.sub_eq_add_neg).symm] at h2
  have H1 := Lib.hid h1
  have H2 := Lib.hid h2
  clear h1 h2 ha hb ht
  go_enter Tryd.func27, Tryd.ntmps27
  go_wp2_with (first
    | (go_at_call 52; refine H1.out.mono ?_; rintro e w1 ⟨rfl, b1⟩; have B1 := Lib.hid b1; clear b1)
    | (go_at_call 23; refine (H2.out _ B1.out).mono ?_; rintro e w2 ⟨rfl, b2⟩; have B2 := Lib.hid (B1.out.trans (b2.mono B1.out.size)); clear b2))
  go_ret
  exact ⟨rfl, B2.out⟩

/-- The order of two integers of one sign, out of their digits. -/
def cmpD (a b : Int) : Int := if (mdig a).length < (mdig b).length then -1 else if (mdig b).length < (mdig a).length then 1 else Lib.compareBytes (mdig a) (mdig b)

theorem cmpD_abs (a b : Int) : cmpD a b = if a.natAbs < b.natAbs then -1 else if b.natAbs < a.natAbs then 1 else 0 := by
  have key : ∀ x y : Nat, (Lib.decDigits x).length < (Lib.decDigits y).length → x < y := fun x y h => by
    rcases Nat.lt_or_ge x y with h1 | h1
    · exact h1
    · have := decDigits_len_mono h1; omega
  unfold cmpD
  by_cases h1 : (mdig a).length < (mdig b).length
  · rw [if_pos h1, if_pos (key _ _ h1)]
  · rw [if_neg h1]
    by_cases h2 : (mdig b).length < (mdig a).length
    · have h3 := key _ _ h2
      rw [if_pos h2, if_neg (by omega), if_pos h3]
    · rw [if_neg h2, compare_digits _ _ (by omega) (mdig_all a) (mdig_all b), mdig_val, mdig_val]

theorem cmp_same (a b s : Int) (ha : a.sign = s) (hb : b.sign = s) : (a - b).sign = s * cmpD a b := by
  rw [cmpD_abs]
  rcases Int.lt_trichotomy a 0 with h | h | h
  · have h1 := Int.sign_eq_neg_one_of_neg h
    have h2 : b < 0 := Int.neg_of_sign_eq_neg_one (by omega)
    have e : s = -1 := by omega
    subst e
    by_cases h3 : a.natAbs < b.natAbs
    · rw [if_pos h3, Int.sign_eq_one_of_pos (by omega)]; rfl
    · rw [if_neg h3]
      by_cases h4 : b.natAbs < a.natAbs
      · rw [if_pos h4, Int.sign_eq_neg_one_of_neg (by omega)]; rfl
      · rw [if_neg h4, show a - b = 0 by omega]; rfl
  · subst h
    have e : s = 0 := by rw [← ha]; rfl
    subst e
    have h2 : b = 0 := Int.eq_zero_of_sign_eq_zero hb
    subst h2
    simp
  · have h1 := Int.sign_eq_one_of_pos h
    have h2 : 0 < b := Int.pos_of_sign_eq_one (by omega)
    have e : s = 1 := by omega
    subst e
    by_cases h3 : a.natAbs < b.natAbs
    · rw [if_pos h3, Int.sign_eq_neg_one_of_neg (by omega)]; rfl
    · rw [if_neg h3]
      by_cases h4 : b.natAbs < a.natAbs
      · rw [if_pos h4, Int.sign_eq_one_of_pos (by omega)]; rfl
      · rw [if_neg h4, show a - b = 0 by omega]; rfl

theorem cmp_lt (a b : Int) (h : a.sign < b.sign) : (a - b).sign = -1 := by
  have key : a < b := by
    rcases Int.lt_trichotomy a 0 with h1 | h1 | h1 <;> rcases Int.lt_trichotomy b 0 with h2 | h2 | h2
    · rw [Int.sign_eq_neg_one_of_neg h1, Int.sign_eq_neg_one_of_neg h2] at h; omega
    · omega
    · omega
    · rw [h1, Int.sign_eq_neg_one_of_neg h2] at h; simp at h
    · rw [h1, h2] at h; omega
    · omega
    · rw [Int.sign_eq_one_of_pos h1, Int.sign_eq_neg_one_of_neg h2] at h; omega
    · rw [Int.sign_eq_one_of_pos h1, h2] at h; simp at h
    · rw [Int.sign_eq_one_of_pos h1, Int.sign_eq_one_of_pos h2] at h; omega
  exact Int.sign_eq_neg_one_of_neg (by omega)

theorem cmp_gt (a b : Int) (h : b.sign < a.sign) : (a - b).sign = 1 := by
  have h1 := cmp_lt b a h
  have h2 : a - b = -(b - a) := by omega
  rw [h2, Int.sign_neg, h1]; rfl

theorem sign_range (z : Int) : z.sign = -1 ∨ z.sign = 0 ∨ z.sign = 1 := by
  rcases Int.lt_trichotomy z 0 with h | h | h
  · exact .inl (Int.sign_eq_neg_one_of_neg h)
  · exact .inr (.inl (by rw [h]; rfl))
  · exact .inr (.inr (Int.sign_eq_one_of_pos h))

theorem cmpD_range (a b : Int) : cmpD a b = -1 ∨ cmpD a b = 0 ∨ cmpD a b = 1 := by
  rw [cmpD_abs]
  split
  · exact .inl rfl
  · split
    · exact .inr (.inr rfl)
    · exact .inr (.inl rfl)

set_option maxHeartbeats 2000000 in
theorem compare_any (a b : Int) (w : World) :
    Calls Tryd.prog 24 #[.string (canon a), .string (canon b)] w fun e w' => e = .returned (.int .i64 (a - b).sign) ∧ w = w' := by
  have h1 := fun W => sign_any a W
  have h2 := fun W => sign_any b W
  have h3 := fun W => trimMinus a W
  have h4 := fun W => trimMinus b W
  obtain ⟨s, hs⟩ : ∃ s, a.sign = s := ⟨_, rfl⟩
  obtain ⟨t, ht⟩ : ∃ t, b.sign = t := ⟨_, rfl⟩
  obtain ⟨r, hr⟩ : ∃ r, (a - b).sign = r := ⟨_, rfl⟩
  have rs : s = -1 ∨ s = 0 ∨ s = 1 := hs ▸ sign_range a
  have rt : t = -1 ∨ t = 0 ∨ t = 1 := ht ▸ sign_range b
  rw [hs] at h1
  rw [ht] at h2
  rw [hr]
  have H1 := Lib.hid h1
  have H2 := Lib.hid h2
  have H3 := Lib.hid h3
  have H4 := Lib.hid h4
  clear h1 h2 h3 h4
  by_cases he : s = t
  · subst he
    have hc := cmp_same a b s hs ht
    rw [hr] at hc
    have rd := cmpD_range a b
    have hl : ∀ W, Calls Tryd.prog 51 #[.string (mag a), .string (mag b)] W fun e w' => e = .returned (.int .i64 (Lib.compareBytes (mdig a) (mdig b))) ∧ W = w' := fun W => (Tryd.strings_Compare (mag a) (mag b) W).mono fun e w' h => ⟨h.1, h.2.symm⟩
    by_cases l1 : (mdig a).length < (mdig b).length
    · have e1 : cmpD a b = -1 := by unfold cmpD; rw [if_pos l1]
      have n1 : (mag a).size < (mag b).size := l1
      rw [e1] at hc
      have e2 : r = -s := by omega
      subst e2
      clear hc hl rd e1 l1 hs ht hr rt
      go_enter Tryd.func24, Tryd.ntmps24
      go_wp2_with (first
        | (go_at_call_of 21 (Value.string (canon a)); refine (H1.out _).mono ?_; rintro e w' ⟨rfl, rfl⟩)
        | (go_at_call_of 21 (Value.string (canon b)); refine (H2.out _).mono ?_; rintro e w' ⟨rfl, rfl⟩)
        | (go_at_call_of 30 (Value.string (canon a)); refine (H3.out _).mono ?_; rintro e w' ⟨rfl, rfl⟩)
        | (go_at_call_of 30 (Value.string (canon b)); refine (H4.out _).mono ?_; rintro e w' ⟨rfl, rfl⟩))
      go_ret
      exact ⟨rfl, rfl⟩
    · by_cases l2 : (mdig b).length < (mdig a).length
      · have e1 : cmpD a b = 1 := by unfold cmpD; rw [if_neg l1, if_pos l2]
        have n1 : decide (((mag a).size : Int) < ((mag b).size : Int)) = false := decide_eq_false (by
          have : (mag a).size = (mdig a).length := rfl
          have : (mag b).size = (mdig b).length := rfl
          omega)
        have n3 : decide ((mag a).size < (mag b).size) = false := decide_eq_false l1
        have n2 : (mag a).size ≠ (mag b).size := fun h => by
          have : (mag a).size = (mdig a).length := rfl
          have : (mag b).size = (mdig b).length := rfl
          omega
        rw [e1] at hc
        have e2 : r = s := by omega
        subst e2
        clear hc hl rd e1 l1 l2 hs ht hr rt
        go_enter Tryd.func24, Tryd.ntmps24
        go_wp2_with (first
          | (go_at_call_of 21 (Value.string (canon a)); refine (H1.out _).mono ?_; rintro e w' ⟨rfl, rfl⟩)
          | (go_at_call_of 21 (Value.string (canon b)); refine (H2.out _).mono ?_; rintro e w' ⟨rfl, rfl⟩)
          | (go_at_call_of 30 (Value.string (canon a)); refine (H3.out _).mono ?_; rintro e w' ⟨rfl, rfl⟩)
          | (go_at_call_of 30 (Value.string (canon b)); refine (H4.out _).mono ?_; rintro e w' ⟨rfl, rfl⟩))
        go_ret
        exact ⟨rfl, rfl⟩
      · have e1 : cmpD a b = Lib.compareBytes (mdig a) (mdig b) := by unfold cmpD; rw [if_neg l1, if_neg l2]
        have n1 : (mag a).size = (mag b).size := by
          have : (mag a).size = (mdig a).length := rfl
          have : (mag b).size = (mdig b).length := rfl
          omega
        rw [← e1] at hl
        generalize cmpD a b = d at hl hc rd
        have HL := Lib.hid hl
        have HE := Lib.hid hc
        clear hl hc e1 l1 l2 hs ht hr rt
        go_enter Tryd.func24, Tryd.ntmps24
        go_wp2_with (first
          | (go_at_call_of 21 (Value.string (canon a)); refine (H1.out _).mono ?_; rintro e w' ⟨rfl, rfl⟩)
          | (go_at_call_of 21 (Value.string (canon b)); refine (H2.out _).mono ?_; rintro e w' ⟨rfl, rfl⟩)
          | (go_at_call_of 30 (Value.string (canon a)); refine (H3.out _).mono ?_; rintro e w' ⟨rfl, rfl⟩)
          | (go_at_call_of 30 (Value.string (canon b)); refine (H4.out _).mono ?_; rintro e w' ⟨rfl, rfl⟩)
          | (go_at_call 51; refine (HL.out _).mono ?_; rintro e w' ⟨rfl, rfl⟩))
        go_ret
        refine ⟨?_, rfl⟩
        show Ending.returned (.int .i64 (wrap64 (s * d))) = _
        rw [HE.out]
        rcases rs with rfl | rfl | rfl <;> rcases rd with rfl | rfl | rfl <;> kernel_rfl
  · have hne : s ≠ t := he
    by_cases hlt : s < t
    · have e2 : r = -1 := by rw [← hr]; exact cmp_lt a b (by rw [hs, ht]; exact hlt)
      subst e2
      clear hs ht hr he
      go_enter Tryd.func24, Tryd.ntmps24
      go_wp2_with (first
        | (go_at_call_of 21 (Value.string (canon a)); refine (H1.out _).mono ?_; rintro e w' ⟨rfl, rfl⟩)
        | (go_at_call_of 21 (Value.string (canon b)); refine (H2.out _).mono ?_; rintro e w' ⟨rfl, rfl⟩))
      go_ret
      exact ⟨rfl, rfl⟩
    · have e2 : r = 1 := by rw [← hr]; exact cmp_gt a b (by rw [hs, ht]; omega)
      subst e2
      clear hs ht hr he
      go_enter Tryd.func24, Tryd.ntmps24
      go_wp2_with (first
        | (go_at_call_of 21 (Value.string (canon a)); refine (H1.out _).mono ?_; rintro e w' ⟨rfl, rfl⟩)
        | (go_at_call_of 21 (Value.string (canon b)); refine (H2.out _).mono ?_; rintro e w' ⟨rfl, rfl⟩))
      go_ret
      exact ⟨rfl, rfl⟩

end Go.Proofs.YtmkeigfckfkifaaDoor
