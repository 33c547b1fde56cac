/- The walks of the reference on integers; Sub, Compare, Power; descriptions. -/
import Derived.Test.YtmkeigfckfkifaaGreatDoorGRefA
import Derived.Test.YtmkeigfckfkifaaGreatDoorGInt
import Derived.Laws.BytesArg
import Derived.Deep.QuietTactic
import Derived.BigQuiet
/- The walk of klipperef01.Mul: the product of two integers. -/
namespace Go.Proofs.YtmkeigfckfkifaaGreatDoor
open Go.RowKit

theorem ofR_any (n : Int) (h0 : -9223372036854775808 ≤ n) (h1 : n ≤ 9223372036854775807) (w : World) (ht : Pow10 w) :
    Calls Tryz.prog 17 #[.int .i64 n] w fun e w' => e = .returned (.string (canon n)) ∧ Below w.heap.size w w' := by
  have hi := itoa_any n h0 h1 w ht
  have HI := Lib.hid hi
  clear hi h0 h1
  go_enter Tryz.func17, Tryz.ntmps17
  go_wp2_with (go_at_call 52; refine HI.out.mono ?_; rintro e w' ⟨rfl, h1⟩; have H1 := Lib.hid h1; clear h1)
  go_ret
  exact ⟨rfl, H1.out⟩

theorem takeR_mag (z : Int) (w : World) (hs : (mag z).size ≤ 100000) :
    Calls Tryz.prog 44 #[.string (mag z)] w fun e w' => ∃ A c, e = .returned (.slice A (lim4 z.natAbs).length c) ∧ Sl w' .i64 A c (lim4 z.natAbs) ∧ Below w.heap.size w w' := by
  have h := take_any (mag z) w (mdig_all z) hs
  rw [show dval (mag z).data.toList = z.natAbs from mdig_val z] at h
  exact h

theorem lim4_len_digits (z : Int) (n : Nat) (h : (canon z).size ≤ n) : (lim4 z.natAbs).length ≤ n := by
  have h1 := itoa_len_small (z := z) (k := n) h
  refine lim_len_le 10000 (by omega) _ _ ?_
  exact Nat.lt_of_lt_of_le h1 (Nat.pow_le_pow_left (by omega) n)

theorem lim4_mul_len (x y M : Nat) (hx : (lim4 x).length ≤ M) (hy : (lim4 y).length ≤ M) : (lim4 (x * y)).length ≤ M + M := by
  have h1 : x < 10000 ^ (lim4 x).length := lim_lt_pow 10000 (by omega) x
  have h2 : y < 10000 ^ (lim4 y).length := lim_lt_pow 10000 (by omega) y
  have h3 : (10000 : Nat) ^ (lim4 x).length ≤ 10000 ^ M := Nat.pow_le_pow_right (by omega) hx
  have h4 : (10000 : Nat) ^ (lim4 y).length ≤ 10000 ^ M := Nat.pow_le_pow_right (by omega) hy
  refine lim_len_le 10000 (by omega) _ _ ?_
  rw [Nat.pow_add]
  exact Nat.mul_lt_mul'' (by omega) (by omega)

theorem chain2 {w W w3 w4 : World} (h0 : Below w.heap.size w W) (h1 : Below W.heap.size W w3) (h2 : Below w3.heap.size w3 w4) : Below w.heap.size w w4 :=
  (h0.trans (h1.mono h0.size)).trans (h2.mono (h0.trans (h1.mono h0.size)).size)
theorem chain3 {w W w3 w4 w5 : World} (h0 : Below w.heap.size w W) (h1 : Below W.heap.size W w3) (h2 : Below w3.heap.size w3 w4) (h3 : Below w4.heap.size w4 w5) : Below w.heap.size w w5 :=
  (chain2 h0 h1 h2).trans (h3.mono (chain2 h0 h1 h2).size)
theorem drew2 (w : World) (n m : Nat) : Below w.heap.size w ((w.drewN n).drewN m) := ((Drew.of _ _).below _).trans ((Drew.of _ _).below _)

set_option maxRecDepth 100000 in
set_option maxHeartbeats 2000000 in
theorem mulR_any (a b : Int) (w : World) (ht : Pow10 w) (ha : (canon a).size ≤ 10000) (hb : (canon b).size ≤ 10000) :
    Calls Tryz.prog 13 #[.string (canon a), .string (canon b)] w fun e w' => e = .returned (.string (canon (a * b))) ∧ Below w.heap.size w w' := by
  have p1 := fun W => splitR_canon a W (by omega)
  have p2 := fun W => splitR_canon b W (by omega)
  have hma := mag_le a 10000 ha
  have hmb := mag_le b 10000 hb
  have P1 := Lib.hid p1
  have P2 := Lib.hid p2
  clear p1 p2
  rcases Nat.lt_or_ge 18 ((mag a).size + (mag b).size) with hq | hq
  · have d1 : decide (((mag a).size : Int) + ((mag b).size : Int) ≤ 18) = false := by simp; omega
    have t1 := fun W => takeR_mag a W (by omega)
    have t2 := fun W => takeR_mag b W (by omega)
    have hla := lim4_len_digits a 10000 ha
    have hlb := lim4_len_digits b 10000 hb
    have hms := mul_sign a b
    have hlm := lim4_mul_len a.natAbs b.natAbs 10000 hla hlb
    have P1' := P1.out
    have P2' := P2.out
    generalize decide (a < 0) = sa at *
    generalize decide (b < 0) = sb at *
    generalize a.natAbs = x at *
    generalize b.natAbs = y at *
    have tm := fun A1 c1 A2 c2 W h1 h2 => timesR_any A1 A2 c1 c2 x y W h1 h2 (by omega) (by omega)
    have md := fun A c W (h1 : Sl W .i64 A c (lim4 (x * y))) (h2 : Below w.heap.size w W) => made_any (sa != sb) A c (x * y) W h1 (by omega) (ht.below h2)
    rw [hms] at md
    have P1 := Lib.hid P1'
    have P2 := Lib.hid P2'
    have T1 := Lib.hid t1
    have T2 := Lib.hid t2
    have TM := Lib.hid tm
    have MD := Lib.hid md
    clear P1' P2' t1 t2 tm md hms ht ha hb hq
    go_enter Tryz.func13, Tryz.ntmps13
    go_wp2_with (first
      | (go_at_call_of 42 (Value.string (canon a)); refine (P1.out _).mono ?_; rintro e w1 ⟨rfl, nd1, rfl⟩)
      | (go_at_call_of 42 (Value.string (canon b)); refine (P2.out _).mono ?_; rintro e w2 ⟨rfl, nd2, rfl⟩)
      | (go_at_call_of 44 (Value.string (mag a)); refine (T1.out _).mono ?_; rintro e w3 ⟨A1, c1, rfl, s1, b1⟩; have S1 := Lib.hid s1; have B1 := Lib.hid b1; clear s1 b1)
      | (go_at_call_of 44 (Value.string (mag b)); refine (T2.out _).mono ?_; rintro e w4 ⟨A2, c2, rfl, s2, b2⟩; have S2 := Lib.hid s2; have S1' := Lib.hid (S1.out.below b2); have B2 := Lib.hid b2; clear s2 b2)
      | (go_at_call 48; refine (TM.out _ _ _ _ _ S1'.out S2.out).mono ?_; rintro e w5 ⟨A5, c5, rfl, s5, b5⟩; have S5 := Lib.hid s5; have B5 := Lib.hid b5; clear s5 b5)
      | (go_at_call 46; refine (MD.out _ _ _ S5.out (chain3 (by first | exact (Drew.of _ _).below _ | exact drew2 _ _ _) B1.out B2.out B5.out)).mono ?_; rintro e w6 ⟨rfl, b6⟩; have B6 := Lib.hid b6; clear b6)
      | fail "arm")
    go_ret
    exact ⟨rfl, (chain3 (by first | exact (Drew.of _ _).below _ | exact drew2 _ _ _) B1.out B2.out B5.out).trans (B6.out.mono (chain3 (by first | exact (Drew.of _ _).below _ | exact drew2 _ _ _) B1.out B2.out B5.out).size)⟩
  · have d1 : ((mag a).size : Int) + ((mag b).size : Int) ≤ 18 := by omega
    have s1 := fun W => smallR_small a W (by omega)
    have s2 := fun W => smallR_small b W (by omega)
    have hmm : (a * b).natAbs < 1000000000000000000 := by
      have h1 : a.natAbs < 10 ^ (mag a).size := by
        have := dval_lt (mdig_all a)
        rw [mdig_val] at this
        exact this
      have h2 : b.natAbs < 10 ^ (mag b).size := by
        have := dval_lt (mdig_all b)
        rw [mdig_val] at this
        exact this
      have h3 := Nat.mul_lt_mul'' h1 h2
      rw [← Nat.pow_add] at h3
      have h4 : (10 : Nat) ^ ((mag a).size + (mag b).size) ≤ 10 ^ 18 := Nat.pow_le_pow_right (by omega) (by omega)
      rw [Int.natAbs_mul]
      omega
    have hm1 : -1000000000000000000 ≤ a * b := by omega
    have hm2 : a * b ≤ 1000000000000000000 := by omega
    have ho := fun W (hW : Below w.heap.size w W) => ofR_any (a * b) (by omega) (by omega) W (ht.below hW)
    have S1 := Lib.hid s1
    have S2 := Lib.hid s2
    have HO := Lib.hid ho
    clear s1 s2 ho hmm ht ha hb hma hmb
    go_enter Tryz.func13, Tryz.ntmps13
    go_wp2_with (first
      | (go_at_call_of 42 (Value.string (canon a)); refine (P1.out _).mono ?_; rintro e w1 ⟨rfl, nd1, rfl⟩)
      | (go_at_call_of 42 (Value.string (canon b)); refine (P2.out _).mono ?_; rintro e w2 ⟨rfl, nd2, rfl⟩)
      | (go_at_call_of 47 (Value.string (canon a)); refine (S1.out _).mono ?_; rintro e w3 ⟨rfl, b1⟩; have B1 := Lib.hid b1; clear b1)
      | (go_at_call_of 47 (Value.string (canon b)); refine (S2.out _).mono ?_; rintro e w4 ⟨rfl, b2⟩; have B2 := Lib.hid b2; clear b2)
      | (go_at_call 17; refine (HO.out _ (chain2 (by first | exact (Drew.of _ _).below _ | exact drew2 _ _ _) B1.out B2.out)).mono ?_; rintro e w5 ⟨rfl, b5⟩; have B5 := Lib.hid b5; clear b5)
      | fail "arm")
    go_ret
    exact ⟨rfl, (chain2 (by first | exact (Drew.of _ _).below _ | exact drew2 _ _ _) B1.out B2.out).trans (B5.out.mono (chain2 (by first | exact (Drew.of _ _).below _ | exact drew2 _ _ _) B1.out B2.out).size)⟩

end Go.Proofs.YtmkeigfckfkifaaGreatDoor

/- The walks of integer.Neg, Abs, Sub and Compare. -/
namespace Go.Proofs.YtmkeigfckfkifaaGreatDoor
open Go.RowKit

theorem abs_any (z : Int) (w : World) :
    Calls Tryz.prog 32 #[.string (canon z)] w fun e w' => e = .returned (.string (canon (z.natAbs : Int))) ∧ Below w.heap.size w w' := by
  have h := fun W => trimMinus z W
  have e : mag z = canon (z.natAbs : Int) := by rw [canon_nat]; rfl
  rw [e] at h
  have H := Lib.hid h
  clear h e
  go_enter Tryz.func32, Tryz.ntmps32
  go_wp2_with (go_at_call 56; refine (H.out _).mono ?_; rintro e w' ⟨rfl, rfl⟩)
  go_ret
  exact ⟨rfl, Below.refl _ _⟩

set_option maxHeartbeats 1000000 in
theorem neg_any (z : Int) (w : World) (hs : (canon z).size ≤ 100000) :
    Calls Tryz.prog 30 #[.string (canon z)] w fun e w' => e = .returned (.string (canon (-z))) ∧ Below w.heap.size w w' := by
  have h := fun W => sign_any z W
  rcases Int.lt_trichotomy z 0 with hz | hz | hz
  · rw [Int.sign_eq_neg_one_of_neg hz] at h
    have H := Lib.hid h
    have hd : (canon z).data.toList = 45 :: mdig z := by rw [canon_neg_eq z hz]
    have h0 : 1 ≤ (canon z).size := by rw [Lib.size_eq, hd]; simp
    have HE : Hid (canon (-z) = (canon z).extract 1 (canon z).size) := ba_ext (by
      rw [Lib.extract_to_end, hd, canon_nn_eq (-z) (by omega)]
      show mdig (-z) = _
      unfold mdig
      rw [Int.natAbs_neg]; rfl)
    clear h hd hz
    go_enter Tryz.func30, Tryz.ntmps30
    go_wp2_with (go_at_call 27; refine (H.out _).mono ?_; rintro e w' ⟨rfl, rfl⟩)
    go_ret
    rw [HE.out]
    exact ⟨rfl, Below.refl _ _⟩
  · subst hz
    rw [show (0 : Int).sign = 0 from rfl] at h
    have H := Lib.hid h
    clear h
    go_enter Tryz.func30, Tryz.ntmps30
    go_wp2_with (go_at_call 27; refine (H.out _).mono ?_; rintro e w' ⟨rfl, rfl⟩)
    go_ret
    exact ⟨rfl, Below.refl _ _⟩
  · rw [Int.sign_eq_one_of_pos hz] at h
    have H := Lib.hid h
    have HE : Hid (canon (-z) = (⟨#[45]⟩ : ByteArray) ++ canon z) := by
      rw [canon_neg_eq (-z) (by omega), minus_app]
      show (⟨(45 :: mdig (-z)).toArray⟩ : ByteArray) = _
      rw [canon_nn_eq z (by omega)]
      unfold mdig mag mdig
      rw [Int.natAbs_neg]
    clear h hz
    go_enter Tryz.func30, Tryz.ntmps30
    go_wp2_with (go_at_call 27; refine (H.out _).mono ?_; rintro e w' ⟨rfl, rfl⟩)
    go_ret
    rw [HE.out]
    exact ⟨rfl, Below.refl _ _⟩

theorem canon_neg_size (z : Int) (n : Nat) (h : (canon z).size ≤ n) : (canon (-z)).size ≤ n + 1 := by
  have h1 := mag_le z n h
  have h2 : (mag (-z)).size = (mag z).size := by
    show (mdig (-z)).length = (mdig z).length
    unfold mdig
    rw [Int.natAbs_neg]
  show (Lib.itoa (-z)).length ≤ n + 1
  have h3 : (mdig (-z)).length ≤ n := by
    have : (mag (-z)).size = (mdig (-z)).length := rfl
    omega
  rcases itoa_cases (-z) with ⟨_, e⟩ | ⟨_, e⟩
  · rw [e]; omega
  · rw [e, List.length_cons]; omega

set_option maxHeartbeats 1000000 in
theorem sub_any (a b : Int) (w : World) (ht : Pow10 w) (ha : (canon a).size ≤ 9999) (hb : (canon b).size ≤ 9999) :
    Calls Tryz.prog 25 #[.string (canon a), .string (canon b)] w fun e w' => e = .returned (.string (canon (a - b))) ∧ Below w.heap.size w w' := by
  have h1 := neg_any b w (by omega)
  have h2 := fun W (hW : Below w.heap.size w W) => add_any a (-b) W (ht.below hW) (by omega) (canon_neg_size b 9999 hb)
  rw [show a + -b = a - b from (Int.sub_eq_add_neg).symm] at h2
  have H1 := Lib.hid h1
  have H2 := Lib.hid h2
  clear h1 h2 ha hb ht
  go_enter Tryz.func25, Tryz.ntmps25
  go_wp2_with (first
    | (go_at_call 30; refine H1.out.mono ?_; rintro e w1 ⟨rfl, b1⟩; have B1 := Lib.hid b1; clear b1)
    | (go_at_call 24; refine (H2.out _ B1.out).mono ?_; rintro e w2 ⟨rfl, b2⟩; have B2 := Lib.hid (B1.out.trans (b2.mono B1.out.size)); clear b2))
  go_ret
  exact ⟨rfl, B2.out⟩

/-- The order of two integers of one sign, out of their digits. -/
def cmpD (a b : Int) : Int := if (mdig a).length < (mdig b).length then -1 else if (mdig b).length < (mdig a).length then 1 else Lib.compareBytes (mdig a) (mdig b)

theorem cmpD_abs (a b : Int) : cmpD a b = if a.natAbs < b.natAbs then -1 else if b.natAbs < a.natAbs then 1 else 0 := by
  have key : ∀ x y : Nat, (Lib.decDigits x).length < (Lib.decDigits y).length → x < y := fun x y h => by
    rcases Nat.lt_or_ge x y with h1 | h1
    · exact h1
    · have := decDigits_len_mono h1; omega
  unfold cmpD
  by_cases h1 : (mdig a).length < (mdig b).length
  · rw [if_pos h1, if_pos (key _ _ h1)]
  · rw [if_neg h1]
    by_cases h2 : (mdig b).length < (mdig a).length
    · have h3 := key _ _ h2
      rw [if_pos h2, if_neg (by omega), if_pos h3]
    · rw [if_neg h2, compare_digits _ _ (by omega) (mdig_all a) (mdig_all b), mdig_val, mdig_val]

theorem cmp_same (a b s : Int) (ha : a.sign = s) (hb : b.sign = s) : (a - b).sign = s * cmpD a b := by
  rw [cmpD_abs]
  rcases Int.lt_trichotomy a 0 with h | h | h
  · have h1 := Int.sign_eq_neg_one_of_neg h
    have h2 : b < 0 := Int.neg_of_sign_eq_neg_one (by omega)
    have e : s = -1 := by omega
    subst e
    by_cases h3 : a.natAbs < b.natAbs
    · rw [if_pos h3, Int.sign_eq_one_of_pos (by omega)]; rfl
    · rw [if_neg h3]
      by_cases h4 : b.natAbs < a.natAbs
      · rw [if_pos h4, Int.sign_eq_neg_one_of_neg (by omega)]; rfl
      · rw [if_neg h4, show a - b = 0 by omega]; rfl
  · subst h
    have e : s = 0 := by rw [← ha]; rfl
    subst e
    have h2 : b = 0 := Int.eq_zero_of_sign_eq_zero hb
    subst h2
    simp
  · have h1 := Int.sign_eq_one_of_pos h
    have h2 : 0 < b := Int.pos_of_sign_eq_one (by omega)
    have e : s = 1 := by omega
    subst e
    by_cases h3 : a.natAbs < b.natAbs
    · rw [if_pos h3, Int.sign_eq_neg_one_of_neg (by omega)]; rfl
    · rw [if_neg h3]
      by_cases h4 : b.natAbs < a.natAbs
      · rw [if_pos h4, Int.sign_eq_one_of_pos (by omega)]; rfl
      · rw [if_neg h4, show a - b = 0 by omega]; rfl

theorem cmp_lt (a b : Int) (h : a.sign < b.sign) : (a - b).sign = -1 := by
  have key : a < b := by
    rcases Int.lt_trichotomy a 0 with h1 | h1 | h1 <;> rcases Int.lt_trichotomy b 0 with h2 | h2 | h2
    · rw [Int.sign_eq_neg_one_of_neg h1, Int.sign_eq_neg_one_of_neg h2] at h; omega
    · omega
    · omega
    · rw [h1, Int.sign_eq_neg_one_of_neg h2] at h; simp at h
    · rw [h1, h2] at h; omega
    · omega
    · rw [Int.sign_eq_one_of_pos h1, Int.sign_eq_neg_one_of_neg h2] at h; omega
    · rw [Int.sign_eq_one_of_pos h1, h2] at h; simp at h
    · rw [Int.sign_eq_one_of_pos h1, Int.sign_eq_one_of_pos h2] at h; omega
  exact Int.sign_eq_neg_one_of_neg (by omega)

theorem cmp_gt (a b : Int) (h : b.sign < a.sign) : (a - b).sign = 1 := by
  have h1 := cmp_lt b a h
  have h2 : a - b = -(b - a) := by omega
  rw [h2, Int.sign_neg, h1]; rfl

theorem sign_range (z : Int) : z.sign = -1 ∨ z.sign = 0 ∨ z.sign = 1 := by
  rcases Int.lt_trichotomy z 0 with h | h | h
  · exact .inl (Int.sign_eq_neg_one_of_neg h)
  · exact .inr (.inl (by rw [h]; rfl))
  · exact .inr (.inr (Int.sign_eq_one_of_pos h))

theorem cmpD_range (a b : Int) : cmpD a b = -1 ∨ cmpD a b = 0 ∨ cmpD a b = 1 := by
  rw [cmpD_abs]
  split
  · exact .inl rfl
  · split
    · exact .inr (.inr rfl)
    · exact .inr (.inl rfl)

set_option maxHeartbeats 2000000 in
theorem compare_any (a b : Int) (w : World) :
    Calls Tryz.prog 28 #[.string (canon a), .string (canon b)] w fun e w' => e = .returned (.int .i64 (a - b).sign) ∧ w = w' := by
  have h1 := fun W => sign_any a W
  have h2 := fun W => sign_any b W
  have h3 := fun W => trimMinus a W
  have h4 := fun W => trimMinus b W
  obtain ⟨s, hs⟩ : ∃ s, a.sign = s := ⟨_, rfl⟩
  obtain ⟨t, ht⟩ : ∃ t, b.sign = t := ⟨_, rfl⟩
  obtain ⟨r, hr⟩ : ∃ r, (a - b).sign = r := ⟨_, rfl⟩
  have rs : s = -1 ∨ s = 0 ∨ s = 1 := hs ▸ sign_range a
  have rt : t = -1 ∨ t = 0 ∨ t = 1 := ht ▸ sign_range b
  rw [hs] at h1
  rw [ht] at h2
  rw [hr]
  have H1 := Lib.hid h1
  have H2 := Lib.hid h2
  have H3 := Lib.hid h3
  have H4 := Lib.hid h4
  clear h1 h2 h3 h4
  by_cases he : s = t
  · subst he
    have hc := cmp_same a b s hs ht
    rw [hr] at hc
    have rd := cmpD_range a b
    have hl : ∀ W, Calls Tryz.prog 57 #[.string (mag a), .string (mag b)] W fun e w' => e = .returned (.int .i64 (Lib.compareBytes (mdig a) (mdig b))) ∧ W = w' := fun W => (Tryz.strings_Compare (mag a) (mag b) W).mono fun e w' h => ⟨h.1, h.2.symm⟩
    by_cases l1 : (mdig a).length < (mdig b).length
    · have e1 : cmpD a b = -1 := by unfold cmpD; rw [if_pos l1]
      have n1 : (mag a).size < (mag b).size := l1
      rw [e1] at hc
      have e2 : r = -s := by omega
      subst e2
      clear hc hl rd e1 l1 hs ht hr rt
      go_enter Tryz.func28, Tryz.ntmps28
      go_wp2_with (first
        | (go_at_call_of 27 (Value.string (canon a)); refine (H1.out _).mono ?_; rintro e w' ⟨rfl, rfl⟩)
        | (go_at_call_of 27 (Value.string (canon b)); refine (H2.out _).mono ?_; rintro e w' ⟨rfl, rfl⟩)
        | (go_at_call_of 56 (Value.string (canon a)); refine (H3.out _).mono ?_; rintro e w' ⟨rfl, rfl⟩)
        | (go_at_call_of 56 (Value.string (canon b)); refine (H4.out _).mono ?_; rintro e w' ⟨rfl, rfl⟩))
      go_ret
      exact ⟨rfl, rfl⟩
    · by_cases l2 : (mdig b).length < (mdig a).length
      · have e1 : cmpD a b = 1 := by unfold cmpD; rw [if_neg l1, if_pos l2]
        have n1 : decide (((mag a).size : Int) < ((mag b).size : Int)) = false := decide_eq_false (by
          have : (mag a).size = (mdig a).length := rfl
          have : (mag b).size = (mdig b).length := rfl
          omega)
        have n3 : decide ((mag a).size < (mag b).size) = false := decide_eq_false l1
        have n2 : (mag a).size ≠ (mag b).size := fun h => by
          have : (mag a).size = (mdig a).length := rfl
          have : (mag b).size = (mdig b).length := rfl
          omega
        rw [e1] at hc
        have e2 : r = s := by omega
        subst e2
        clear hc hl rd e1 l1 l2 hs ht hr rt
        go_enter Tryz.func28, Tryz.ntmps28
        go_wp2_with (first
          | (go_at_call_of 27 (Value.string (canon a)); refine (H1.out _).mono ?_; rintro e w' ⟨rfl, rfl⟩)
          | (go_at_call_of 27 (Value.string (canon b)); refine (H2.out _).mono ?_; rintro e w' ⟨rfl, rfl⟩)
          | (go_at_call_of 56 (Value.string (canon a)); refine (H3.out _).mono ?_; rintro e w' ⟨rfl, rfl⟩)
          | (go_at_call_of 56 (Value.string (canon b)); refine (H4.out _).mono ?_; rintro e w' ⟨rfl, rfl⟩))
        go_ret
        exact ⟨rfl, rfl⟩
      · have e1 : cmpD a b = Lib.compareBytes (mdig a) (mdig b) := by unfold cmpD; rw [if_neg l1, if_neg l2]
        have n1 : (mag a).size = (mag b).size := by
          have : (mag a).size = (mdig a).length := rfl
          have : (mag b).size = (mdig b).length := rfl
          omega
        rw [← e1] at hl
        generalize cmpD a b = d at hl hc rd
        have HL := Lib.hid hl
        have HE := Lib.hid hc
        clear hl hc e1 l1 l2 hs ht hr rt
        go_enter Tryz.func28, Tryz.ntmps28
        go_wp2_with (first
          | (go_at_call_of 27 (Value.string (canon a)); refine (H1.out _).mono ?_; rintro e w' ⟨rfl, rfl⟩)
          | (go_at_call_of 27 (Value.string (canon b)); refine (H2.out _).mono ?_; rintro e w' ⟨rfl, rfl⟩)
          | (go_at_call_of 56 (Value.string (canon a)); refine (H3.out _).mono ?_; rintro e w' ⟨rfl, rfl⟩)
          | (go_at_call_of 56 (Value.string (canon b)); refine (H4.out _).mono ?_; rintro e w' ⟨rfl, rfl⟩)
          | (go_at_call 57; refine (HL.out _).mono ?_; rintro e w' ⟨rfl, rfl⟩))
        go_ret
        refine ⟨?_, rfl⟩
        show Ending.returned (.int .i64 (wrap64 (s * d))) = _
        rw [HE.out]
        rcases rs with rfl | rfl | rfl <;> rcases rd with rfl | rfl | rfl <;> kernel_rfl
  · have hne : s ≠ t := he
    by_cases hlt : s < t
    · have e2 : r = -1 := by rw [← hr]; exact cmp_lt a b (by rw [hs, ht]; exact hlt)
      subst e2
      clear hs ht hr he
      go_enter Tryz.func28, Tryz.ntmps28
      go_wp2_with (first
        | (go_at_call_of 27 (Value.string (canon a)); refine (H1.out _).mono ?_; rintro e w' ⟨rfl, rfl⟩)
        | (go_at_call_of 27 (Value.string (canon b)); refine (H2.out _).mono ?_; rintro e w' ⟨rfl, rfl⟩))
      go_ret
      exact ⟨rfl, rfl⟩
    · have e2 : r = 1 := by rw [← hr]; exact cmp_gt a b (by rw [hs, ht]; omega)
      subst e2
      clear hs ht hr he
      go_enter Tryz.func28, Tryz.ntmps28
      go_wp2_with (first
        | (go_at_call_of 27 (Value.string (canon a)); refine (H1.out _).mono ?_; rintro e w' ⟨rfl, rfl⟩)
        | (go_at_call_of 27 (Value.string (canon b)); refine (H2.out _).mono ?_; rintro e w' ⟨rfl, rfl⟩))
      go_ret
      exact ⟨rfl, rfl⟩

end Go.Proofs.YtmkeigfckfkifaaGreatDoor

/- The walk of klippelaw01.Make: a description becomes an integer. -/
namespace Go.Proofs.YtmkeigfckfkifaaGreatDoor
open Go.RowKit

theorem trimB_val (l : List UInt8) : dval (Lib.trimLeftB l 48) = dval l ∧ (Lib.trimLeftB l 48 = [] ∨ ∃ c m, Lib.trimLeftB l 48 = c :: m ∧ c ≠ 48) ∧ (Lib.trimLeftB l 48).length ≤ l.length ∧ (AllDig l → AllDig (Lib.trimLeftB l 48)) := by
  induction l with
  | nil => exact ⟨rfl, .inl rfl, Nat.le_refl _, fun h => h⟩
  | cons c l ih =>
    rw [trimLeftB_cons]
    by_cases h : c = 48
    · rw [if_pos h]
      refine ⟨?_, ih.2.1, Nat.le_succ_of_le ih.2.2.1, fun hd => ih.2.2.2 hd.tail⟩
      rw [ih.1, dval_cons, h]
      simp
    · rw [if_neg h]
      exact ⟨rfl, .inr ⟨c, l, rfl, h⟩, Nat.le_refl _, fun hd => hd⟩

/-- A text of digits is read as its value. -/
theorem parse_digits (l : List UInt8) (hd : AllDig l) (hne : l ≠ []) (hl : l.length ≤ 200) : parseSpec l = (Lib.itoa (dval l : Int), 0) := by
  have hs : parseSpec l = parseTail false l := by
    cases l with
    | nil => exact absurd rfl hne
    | cons c m =>
      have hc := hd.head
      have h1 : c ≠ 45 := by rintro rfl; simp at hc
      have h2 : c ≠ 43 := by rintro rfl; simp at hc
      simp only [parseSpec, if_neg h1, if_neg h2]
  obtain ⟨h1, h2, h3, h4⟩ := trimB_val l
  rw [hs]
  rcases h2 with h2 | ⟨c, m, h2, hc⟩
  · rw [tail_zero false l hd hne h2, ← h1, h2]
    rw [show (dval [] : Nat) = 0 from rfl, itoa_of_nat, decDigits_lt 0 (by omega)]
    rfl
  · rw [tail_good false l _ hd hne rfl (by rw [h2]; simp) (by omega)]
    have h5 := h4 hd
    rw [h2] at h5
    have h6 := eq_dec h5 (fun e => hc (UInt8.toNat_inj.1 e))
    rw [if_neg (by simp), itoa_of_nat, ← h1, h2, ← h6]

theorem ElemU8 : IntElem Tryz.prog 22 5 .u8 1 := ⟨Tryz.underlying22, by kernel_rfl, by omega⟩

/-- 'append(out, x)' at a slice of bytes of the call's own. -/
theorem pushB {ops : Array Oper} {rest : List Oper} {o : Oper} {a : Act} {Q : Exit → Act → World → Prop} (hgd : o.guard = none) (s x : Operand)
    (ho : o.op = .call { callee := .builtin .append, args := #[s, x], argTypes := #[22, 22] })
    (base : Nat) (A : Option Addr) (n c : Nat) (l : List Int) (W : World) (hs : a.eval s = .slice A n c) (hown : Own W base 5 .u8 A n c l) (y : Int)
    (hx : a.eval x = .slice (some ⟨W.heap.size, 0, none⟩) 1 1) (h63 : n ≤ 1000000) (hbase : base ≤ W.heap.size)
    (h : ∀ A' c' w', Own w' base 5 .u8 A' (n + 1) c' (l ++ [y]) → W.grownBy w' (Value.slice A n c).ownBlock → wpList Tryz.prog ops Q rest (a.put o.dst (.slice A' (n + 1) c')) w') :
    wpList Tryz.prog ops Q (o :: rest) a (W.alloc (.cells #[.int .u8 y] 5)) :=
  wpList_push ElemU8 hgd s x ho base A n c l W hs hown y hx h63 hbase h

/-- The digits so far, as bytes. -/
def Bytes10 (l : List Int) : Prop := ∀ x ∈ l, 48 ≤ x ∧ x ≤ 57

theorem strOf_facts (l : List Int) (h : Bytes10 l) : (strOfNums l).data.toList.length = l.length ∧ AllDig (strOfNums l).data.toList := by
  have e : (strOfNums l).data.toList = l.map fun n => UInt8.ofNat n.toNat := rfl
  refine ⟨by rw [e]; simp, ?_⟩
  rw [e]
  intro c hc
  obtain ⟨x, hx, rfl⟩ := List.mem_map.1 hc
  have := h x hx
  have e2 : (UInt8.ofNat x.toNat).toNat = x.toNat := by
    simp
    omega
  rw [e2]
  omega

/-- The text that Make reads, and what it reads. -/
theorem made_text (l : List Int) (h : Bytes10 l) (N : Nat) (hN : N ≤ 200) (hl : l.length ≤ N) :
    ∃ (v : Nat) (r : List UInt8) (k : Int), parseSpec (strOfNums l).data.toList = (r, k) ∧ v < 10 ^ N ∧ ((k = 0 ∧ r = Lib.itoa (v : Int)) ∨ (k = 13 ∧ v = 0)) := by
  obtain ⟨h1, h2⟩ := strOf_facts l h
  have hp : (0 : Nat) < 10 ^ N := Nat.pow_pos (by omega)
  cases hs : (strOfNums l).data.toList with
  | nil => exact ⟨0, [], 13, rfl, hp, .inr ⟨rfl, rfl⟩⟩
  | cons c m =>
    rw [hs] at h1 h2
    have h3 := parse_digits (c :: m) h2 (by simp) (by omega)
    have h4 := dval_lt h2
    have h5 : (10 : Nat) ^ (c :: m).length ≤ 10 ^ N := Nat.pow_le_pow_right (by omega) (by omega)
    exact ⟨dval (c :: m), _, 0, h3, by omega, .inl ⟨rfl, rfl⟩⟩

theorem canon_size_lt (z : Int) (N : Nat) (h : z.natAbs < 10 ^ N) (h0 : 0 < N) : (canon z).size ≤ N + 1 := by
  have h1 : (mdig z).length ≤ N := decDigits_len_le N z.natAbs h h0
  show (Lib.itoa z).length ≤ N + 1
  rcases itoa_cases z with ⟨_, e⟩ | ⟨_, e⟩
  · rw [e]; omega
  · rw [e, List.length_cons]; omega

set_option maxRecDepth 100000 in
set_option maxHeartbeats 4000000 in
theorem make_any (mn : Bool) (A : Option Addr) (cap : Nat) (ds : List Int) (N : Int) (w : World) (h : Sl w .u8 A cap ds) (hb : ∀ x ∈ ds, 0 ≤ x ∧ x < 256) (hN0 : 0 < N) (hN : N ≤ 200) :
    Calls Tryz.prog 10 #[.agg #[.bool mn, .slice A ds.length cap], .int .i64 N] w fun e w' => (∃ z : Int, z.natAbs < 10 ^ N.toNat ∧ e = .returned (.string (canon z))) ∧ Below w.heap.size w w' := by
  obtain ⟨n, rfl⟩ := Int.eq_ofNat_of_zero_le (Int.le_of_lt hN0)
  rw [Int.toNat_natCast]
  have hcm := h.capMax
  have hcp := h.cap
  unfold maxLen at hcm
  have HBD := Lib.hid hb
  clear hb
  go_enter Tryz.func10, Tryz.ntmps10
  go_wp2
  have hown0 : Own (w.alloc (.cells #[.bool mn, .slice A ds.length cap] 24)) (w.heap.size + 1) 5 .u8 none 0 0 [] := Own.nil_ _ _ _ _
  have hblk0 : (w.alloc (.cells #[.bool mn, .slice A ds.length cap] 24)).heap[w.heap.size]? = some (.cells #[.bool mn, .slice A ds.length cap] 24 (0, 0)) := heap_alloc_new w _
  have hbel0 : Below w.heap.size w (w.alloc (.cells #[.bool mn, .slice A ds.length cap] 24)) := (Below.refl _ _).alloc (Nat.le_refl _) _
  go_loopw [5, 6] (fun sv iv wr => ∃ (k : Nat) (l : List Int) (Ao : Option Addr) (co : Nat), k ≤ ds.length ∧ k ≤ n ∧ iv = .int .i64 k ∧ sv = .slice Ao k co ∧ Own wr (w.heap.size + 1) 5 .u8 Ao k co l ∧ Hid (Bytes10 l) ∧
      wr.heap[w.heap.size]? = some (.cells #[.bool mn, .slice A ds.length cap] 24 (0, 0)) ∧ Below w.heap.size w wr) (fun _ iv _ => n - (intOf iv).toNat)
  case atStart => exact ⟨0, [], none, 0, Nat.zero_le _, Nat.zero_le _, rfl, rfl, hown0, fun x hx => by simp at hx, hblk0, hbel0⟩
  case round =>
    clear hown0 hblk0 hbel0
    obtain ⟨k, l, Ao, co, hk, hkn, rfl, rfl, hown, HL, hblk, hbel⟩ := hrel
    have hlt := (Array.getElem?_eq_some_iff.1 hblk).1
    have cM : wr.cell? ⟨w.heap.size, 0, none⟩ = some (.bool mn) := by rw [Lib.cell_of_heap hblk]; rfl
    have cD : wr.cell? ⟨w.heap.size, 1, none⟩ = some (.slice A ds.length cap) := by rw [Lib.cell_of_heap hblk]; rfl
    have HO := Lib.hid hown
    have HK := Lib.hid hblk
    have HB := Lib.hid hbel
    clear hown hblk hbel
    by_cases h1 : k < ds.length
    · by_cases h2 : k < n
      · have hx1 := h.below HB.out
        obtain ⟨bx, ox, rfl, hbx, hcx⟩ := hx1.at_ (by omega)
        have gx := hcx k h1
        have hbd := HBD.out (ds[k]) (List.getElem_mem h1)
        rw [List.getElem?_eq_getElem h1, Option.getD_some] at gx
        generalize ds[k] = x at *
        have x0 := hbd.1
        have x1 := hbd.2
        have HL2 : Hid (Bytes10 (l ++ [48 + x % 10])) := fun y hy => by
          rcases List.mem_append.1 hy with hy | hy
          · exact HL.out y hy
          · rw [List.mem_singleton.1 hy]; omega
        have r0 : 0 ≤ x % 10 := by omega
        have r1 : x % 10 < 10 := by omega
        clear hcx hx1 h hbd
        go_wp2_with (at_builtin; refine pushB rfl (.tmp 21) (.tmp 29) rfl (w.heap.size + 1) Ao k co l wr rfl HO.out (48 + x % 10) rfl (by omega) hlt ?_; intro A' c' w' hown' hg'; have HO' := Lib.hid hown'; have HG' := Lib.hid hg'; clear hown' hg')
        go_roundw
        case rel =>
          refine ⟨k + 1, _, A', c', by omega, by omega, by go_num, rfl, HO'.out, HL2.out, ?_, ?_⟩
          · refine (HG'.out.block _ hlt (fun e => ?_)).trans HK.out
            have := HO.out.2.lt _ e.symm
            omega
          · exact HO.out.grownBelow HG'.out HB.out (by omega) (by omega)
        case measure => simp [intOf]; omega
      · have kc : (convert 22 9 (.slice Ao k co)).run Tryz.prog wr = .ok (.string (strOfNums l)) wr := by
          have hl := HO.out.len
          rcases HO.out.form with ⟨rfl, rfl, rfl⟩ | ⟨g, cur, rfl, _⟩
          · have : l = [] := List.length_eq_zero_iff.1 hl
            subst this
            exact run_convert_bytes_nil wr 22 5 Tryz.underlying22 Tryz.underlying5 0 0 9 Tryz.underlying9
          · refine run_convert_bytes_arg wr 22 5 Tryz.underlying22 Tryz.underlying5 g 0 k co l hl (fun i hi => ?_) 9 Tryz.underlying9
            obtain ⟨b, o, e, _, hc⟩ := HO.out.sl.at_ (by omega)
            injection e with e
            injection e with e1 e2
            subst e1 e2
            have := hc i (by omega)
            rw [List.getElem?_eq_getElem (by omega), Option.getD_some] at this
            rw [this, List.getD, List.getElem?_eq_getElem (by omega)]
            rfl
        have hsl : (strOfNums l).size ≤ 1000000 := by
          have := (strOf_facts l HL.out).1
          rw [Lib.size_eq, this, HO.out.len]; omega
        obtain ⟨v, r, ke, hps, hv, hca⟩ := made_text l HL.out n (by omega) (by rw [HO.out.len]; omega)
        have hpar := fun W => parseR_any (strOfNums l) W hsl
        rw [hps] at hpar
        have hvn : ((v : Int)).natAbs < 10 ^ n := by simpa using hv
        have hng := fun W => negR_nat v W (by have := canon_size_lt (v : Int) n hvn (by omega); omega)
        have hvm : ((-(v : Int))).natAbs < 10 ^ n := by rw [Int.natAbs_neg]; exact hvn
        have HNG := Lib.hid hng
        have HV := Lib.hid hvn
        have HVM := Lib.hid hvm
        clear hps hng hv hvn hvm h
        rcases hca with ⟨rfl, rfl⟩ | ⟨rfl, rfl⟩
        · have HPAR : Hid (∀ W, Calls Tryz.prog 35 #[.string (strOfNums l)] W fun e w' => e = .returned (.tuple #[.string (canon (v : Int)), .int .i64 0]) ∧ Below W.heap.size W w') := hpar
          clear hpar
          cases mn
          · go_wp2_with (go_at_call 35; refine (HPAR.out _).mono ?_; rintro e w2 ⟨rfl, b2⟩; have cM2 := (b2.cell (p := ⟨w.heap.size, 0, none⟩) hlt).trans cM; have B2 := Lib.hid (HB.out.trans (b2.mono (Nat.le_of_lt hlt))); clear b2)
            go_ret
            exact ⟨⟨(v : Int), HV.out, rfl⟩, B2.out⟩
          · go_wp2_with (first
              | (go_at_call 35; refine (HPAR.out _).mono ?_; rintro e w2 ⟨rfl, b2⟩; have cM2 := (b2.cell (p := ⟨w.heap.size, 0, none⟩) hlt).trans cM; have B2 := Lib.hid (HB.out.trans (b2.mono (Nat.le_of_lt hlt))); clear b2)
              | (go_at_call 31; refine (HNG.out _).mono ?_; rintro e w3 ⟨rfl, b3⟩; have B3 := Lib.hid (B2.out.trans (b3.mono B2.out.size)); clear b3))
            go_ret
            exact ⟨⟨-(v : Int), HVM.out, rfl⟩, B3.out⟩
        · have HPAR := Lib.hid hpar
          have hng0 := HNG.out
          rw [show canon ((0 : Nat) : Int) = ⟨#[48]⟩ from canon_zero] at hng0
          have HN0 := Lib.hid hng0
          have HC0 : Hid (canon ((0 : Nat) : Int) = ⟨#[48]⟩) := canon_zero
          clear hpar hng0
          cases mn
          · go_wp2_with (go_at_call 35; refine (HPAR.out _).mono ?_; rintro e w2 ⟨rfl, b2⟩; have cM2 := (b2.cell (p := ⟨w.heap.size, 0, none⟩) hlt).trans cM; have B2 := Lib.hid (HB.out.trans (b2.mono (Nat.le_of_lt hlt))); clear b2)
            go_ret
            exact ⟨⟨((0 : Nat) : Int), HV.out, by rw [HC0.out]; rfl⟩, B2.out⟩
          · go_wp2_with (first
              | (go_at_call 35; refine (HPAR.out _).mono ?_; rintro e w2 ⟨rfl, b2⟩; have cM2 := (b2.cell (p := ⟨w.heap.size, 0, none⟩) hlt).trans cM; have B2 := Lib.hid (HB.out.trans (b2.mono (Nat.le_of_lt hlt))); clear b2)
              | (go_at_call 31; refine (HN0.out _).mono ?_; rintro e w3 ⟨rfl, b3⟩; have B3 := Lib.hid (B2.out.trans (b3.mono B2.out.size)); clear b3))
            go_ret
            exact ⟨⟨-((0 : Nat) : Int), HVM.out, rfl⟩, B3.out⟩
    · have kc : (convert 22 9 (.slice Ao k co)).run Tryz.prog wr = .ok (.string (strOfNums l)) wr := by
        have hl := HO.out.len
        rcases HO.out.form with ⟨rfl, rfl, rfl⟩ | ⟨g, cur, rfl, _⟩
        · have : l = [] := List.length_eq_zero_iff.1 hl
          subst this
          exact run_convert_bytes_nil wr 22 5 Tryz.underlying22 Tryz.underlying5 0 0 9 Tryz.underlying9
        · refine run_convert_bytes_arg wr 22 5 Tryz.underlying22 Tryz.underlying5 g 0 k co l hl (fun i hi => ?_) 9 Tryz.underlying9
          obtain ⟨b, o, e, _, hc⟩ := HO.out.sl.at_ (by omega)
          injection e with e
          injection e with e1 e2
          subst e1 e2
          have := hc i (by omega)
          rw [List.getElem?_eq_getElem (by omega), Option.getD_some] at this
          rw [this, List.getD, List.getElem?_eq_getElem (by omega)]
          rfl
      have hsl : (strOfNums l).size ≤ 1000000 := by
        have := (strOf_facts l HL.out).1
        rw [Lib.size_eq, this, HO.out.len]; omega
      obtain ⟨v, r, ke, hps, hv, hca⟩ := made_text l HL.out n (by omega) (by rw [HO.out.len]; omega)
      have hpar := fun W => parseR_any (strOfNums l) W hsl
      rw [hps] at hpar
      have hvn : ((v : Int)).natAbs < 10 ^ n := by simpa using hv
      have hng := fun W => negR_nat v W (by have := canon_size_lt (v : Int) n hvn (by omega); omega)
      have hvm : ((-(v : Int))).natAbs < 10 ^ n := by rw [Int.natAbs_neg]; exact hvn
      have HNG := Lib.hid hng
      have HV := Lib.hid hvn
      have HVM := Lib.hid hvm
      clear hps hng hv hvn hvm h
      rcases hca with ⟨rfl, rfl⟩ | ⟨rfl, rfl⟩
      · have HPAR : Hid (∀ W, Calls Tryz.prog 35 #[.string (strOfNums l)] W fun e w' => e = .returned (.tuple #[.string (canon (v : Int)), .int .i64 0]) ∧ Below W.heap.size W w') := hpar
        clear hpar
        cases mn
        · go_wp2_with (go_at_call 35; refine (HPAR.out _).mono ?_; rintro e w2 ⟨rfl, b2⟩; have cM2 := (b2.cell (p := ⟨w.heap.size, 0, none⟩) hlt).trans cM; have B2 := Lib.hid (HB.out.trans (b2.mono (Nat.le_of_lt hlt))); clear b2)
          go_ret
          exact ⟨⟨(v : Int), HV.out, rfl⟩, B2.out⟩
        · go_wp2_with (first
            | (go_at_call 35; refine (HPAR.out _).mono ?_; rintro e w2 ⟨rfl, b2⟩; have cM2 := (b2.cell (p := ⟨w.heap.size, 0, none⟩) hlt).trans cM; have B2 := Lib.hid (HB.out.trans (b2.mono (Nat.le_of_lt hlt))); clear b2)
            | (go_at_call 31; refine (HNG.out _).mono ?_; rintro e w3 ⟨rfl, b3⟩; have B3 := Lib.hid (B2.out.trans (b3.mono B2.out.size)); clear b3))
          go_ret
          exact ⟨⟨-(v : Int), HVM.out, rfl⟩, B3.out⟩
      · have HPAR := Lib.hid hpar
        have hng0 := HNG.out
        rw [show canon ((0 : Nat) : Int) = ⟨#[48]⟩ from canon_zero] at hng0
        have HN0 := Lib.hid hng0
        have HC0 : Hid (canon ((0 : Nat) : Int) = ⟨#[48]⟩) := canon_zero
        clear hpar hng0
        cases mn
        · go_wp2_with (go_at_call 35; refine (HPAR.out _).mono ?_; rintro e w2 ⟨rfl, b2⟩; have cM2 := (b2.cell (p := ⟨w.heap.size, 0, none⟩) hlt).trans cM; have B2 := Lib.hid (HB.out.trans (b2.mono (Nat.le_of_lt hlt))); clear b2)
          go_ret
          exact ⟨⟨((0 : Nat) : Int), HV.out, by rw [HC0.out]; rfl⟩, B2.out⟩
        · go_wp2_with (first
            | (go_at_call 35; refine (HPAR.out _).mono ?_; rintro e w2 ⟨rfl, b2⟩; have cM2 := (b2.cell (p := ⟨w.heap.size, 0, none⟩) hlt).trans cM; have B2 := Lib.hid (HB.out.trans (b2.mono (Nat.le_of_lt hlt))); clear b2)
            | (go_at_call 31; refine (HN0.out _).mono ?_; rintro e w3 ⟨rfl, b3⟩; have B3 := Lib.hid (B2.out.trans (b3.mono B2.out.size)); clear b3))
          go_ret
          exact ⟨⟨-((0 : Nat) : Int), HVM.out, rfl⟩, B3.out⟩

end Go.Proofs.YtmkeigfckfkifaaGreatDoor

/- The walks of klipperef01.brief, Sign, Abs and Neg at any integer. -/
namespace Go.Proofs.YtmkeigfckfkifaaGreatDoor
open Go.RowKit

theorem brief_yes (z : Int) (w : World) (hz : (mag z).size ≤ 17) (hs : (canon z).size ≤ 100000) :
    Calls Tryz.prog 41 #[.string (canon z)] w fun e w' => e = .returned (.tuple #[.int .i64 z, .bool true]) ∧ Below w.heap.size w w' := by
  have h1 := splitR_canon z w (by omega)
  have h2 := fun W => smallR_small z W (by omega)
  have d1 : decide ((17 : Int) < ((mag z).size : Int)) = false := decide_eq_false (by omega)
  have d2 : decide (17 < (mag z).size) = false := decide_eq_false (by omega)
  have H1 := Lib.hid h1
  have H2 := Lib.hid h2
  clear h1 h2 hz hs
  go_enter Tryz.func41, Tryz.ntmps41
  go_wp2_with (first
    | (go_at_call 42; (with_reducible refine H1.out.mono ?_); rintro e w1 ⟨rfl, nd, rfl⟩)
    | (go_at_call 47; (with_reducible refine (H2.out _).mono ?_); rintro e w2 ⟨rfl, b2⟩; have B2 := Lib.hid b2; clear b2))
  go_ret2
  exact ⟨rfl, ((Drew.of _ _).below _).trans (B2.out.mono ((Drew.of _ _).below w.heap.size).size)⟩

theorem brief_no (z : Int) (w : World) (hz : 17 < (mag z).size) (hs : (canon z).size ≤ 100000) :
    Calls Tryz.prog 41 #[.string (canon z)] w fun e w' => e = .returned (.tuple #[.int .i64 0, .bool false]) ∧ Below w.heap.size w w' := by
  have h1 := splitR_canon z w (by omega)
  have d1 : decide ((17 : Int) < ((mag z).size : Int)) = true := decide_eq_true (by omega)
  have d2 : decide (17 < (mag z).size) = true := decide_eq_true (by omega)
  have H1 := Lib.hid h1
  clear h1 hs
  go_enter Tryz.func41, Tryz.ntmps41
  go_wp2_with (go_at_call 42; (with_reducible refine H1.out.mono ?_); rintro e w1 ⟨rfl, nd, rfl⟩)
  go_ret2
  exact ⟨rfl, (Drew.of _ _).below _⟩

theorem signR_any (z : Int) (w : World) (hs : (canon z).size ≤ 100000) :
    Calls Tryz.prog 19 #[.string (canon z)] w fun e w' => e = .returned (.int .i64 z.sign) ∧ Below w.heap.size w w' := by
  have h1 := splitR_canon z w (by omega)
  have hb := canon_beq0 z
  rcases Int.lt_trichotomy z 0 with hz | hz | hz
  · rw [decide_eq_true hz] at h1
    rw [Int.sign_eq_neg_one_of_neg hz]
    have H1 := Lib.hid h1
    clear h1 hs hb hz
    go_enter Tryz.func19, Tryz.ntmps19
    go_wp2_with (go_at_call 42; (with_reducible refine H1.out.mono ?_); rintro e w1 ⟨rfl, nd, rfl⟩)
    go_ret
    exact ⟨rfl, (Drew.of _ _).below _⟩
  · rw [decide_eq_false (by omega)] at h1
    rw [decide_eq_true hz] at hb
    have HS := Lib.hid (show z.sign = 0 by rw [hz]; rfl)
    rw [HS.out]
    have H1 := Lib.hid h1
    clear h1 hs hz HS
    go_enter Tryz.func19, Tryz.ntmps19
    go_wp2_with (go_at_call 42; (with_reducible refine H1.out.mono ?_); rintro e w1 ⟨rfl, nd, rfl⟩)
    go_ret
    exact ⟨rfl, (Drew.of _ _).below _⟩
  · rw [decide_eq_false (by omega)] at h1
    rw [decide_eq_false (by omega)] at hb
    rw [Int.sign_eq_one_of_pos hz]
    have H1 := Lib.hid h1
    clear h1 hs hz
    go_enter Tryz.func19, Tryz.ntmps19
    go_wp2_with (go_at_call 42; (with_reducible refine H1.out.mono ?_); rintro e w1 ⟨rfl, nd, rfl⟩)
    go_ret
    exact ⟨rfl, (Drew.of _ _).below _⟩

theorem mag_canon (z : Int) : mag z = canon (z.natAbs : Int) := by rw [canon_nat]; rfl

theorem absR_any (z : Int) (w : World) (hs : (canon z).size ≤ 100000) :
    Calls Tryz.prog 22 #[.string (canon z)] w fun e w' => e = .returned (.string (canon (z.natAbs : Int))) ∧ Below w.heap.size w w' := by
  have h1 := splitR_canon z w (by omega)
  rw [mag_canon z] at h1
  have H1 := Lib.hid h1
  clear h1 hs
  go_enter Tryz.func22, Tryz.ntmps22
  go_wp2_with (go_at_call 42; (with_reducible refine H1.out.mono ?_); rintro e w1 ⟨rfl, nd, rfl⟩)
  go_ret
  exact ⟨rfl, (Drew.of _ _).below _⟩

theorem negR_any (z : Int) (w : World) (hs : (canon z).size ≤ 100000) :
    Calls Tryz.prog 31 #[.string (canon z)] w fun e w' => e = .returned (.string (canon (-z))) ∧ Below w.heap.size w w' := by
  by_cases hz : z < 0
  · have h1 := splitR_canon z w (by omega)
    rw [decide_eq_true hz, mag_canon z, show ((z.natAbs : Nat) : Int) = -z by omega] at h1
    have H1 := Lib.hid h1
    clear h1 hs hz
    go_enter Tryz.func31, Tryz.ntmps31
    go_wp2_with (go_at_call 42; (with_reducible refine H1.out.mono ?_); rintro e w1 ⟨rfl, nd, rfl⟩)
    go_ret
    exact ⟨rfl, (Drew.of _ _).below _⟩
  · obtain ⟨n, rfl⟩ := Int.eq_ofNat_of_zero_le (show 0 ≤ z by omega)
    exact negR_nat n w (by have : (canon (n : Int)).size ≤ 100000 := hs; omega)

end Go.Proofs.YtmkeigfckfkifaaGreatDoor

/- The walks of klipperef01.Add, Sub and Compare. -/
namespace Go.Proofs.YtmkeigfckfkifaaGreatDoor
open Go.RowKit

theorem takeR_own (z : Int) (w : World) (hs : (mag z).size ≤ 100000) :
    Calls Tryz.prog 44 #[.string (mag z)] w fun e w' => ∃ A c, e = .returned (.slice A (lim4 z.natAbs).length c) ∧ Sl w' .i64 A c (lim4 z.natAbs) ∧ Below w.heap.size w w' ∧ (A = none → c = 0) := by
  have h := take_own (mag z) w (mdig_all z) hs
  rw [show dval (mag z).data.toList = z.natAbs from mdig_val z] at h
  exact h

theorem brief_abs (z : Int) (h : (mag z).size ≤ 17) : z.natAbs < 100000000000000000 := by
  have h1 := dval_lt (mdig_all z)
  rw [mdig_val] at h1
  have h2 : (10 : Nat) ^ (mag z).size ≤ 10 ^ 17 := Nat.pow_le_pow_right (by omega) h
  have h3 : (mag z).size = (mdig z).length := rfl
  rw [h3] at h2
  omega

set_option maxRecDepth 100000 in
set_option maxHeartbeats 2000000 in
theorem addR_short (a b : Int) (w : World) (ht : Pow10 w) (ha : (mag a).size ≤ 17) (hb : (mag b).size ≤ 17) (ha' : (canon a).size ≤ 10000) (hb' : (canon b).size ≤ 10000) :
    Calls Tryz.prog 16 #[.string (canon a), .string (canon b)] w fun e w' => e = .returned (.string (canon (a + b))) ∧ Below w.heap.size w w' := by
  have h1 := fun W => brief_yes a W ha (by omega)
  have h2 := fun W => brief_yes b W hb (by omega)
  have la := brief_abs a ha
  have lb := brief_abs b hb
  have h3 := fun W (hW : Below w.heap.size w W) => ofR_any (a + b) (by omega) (by omega) W (ht.below hW)
  have q1 : -100000000000000000 ≤ a := by omega
  have q2 : a ≤ 100000000000000000 := by omega
  have q3 : -100000000000000000 ≤ b := by omega
  have q4 : b ≤ 100000000000000000 := by omega
  have H1 := Lib.hid h1
  have H2 := Lib.hid h2
  have H3 := Lib.hid h3
  clear h1 h2 h3 la lb ha hb ha' hb' ht
  go_enter Tryz.func16, Tryz.ntmps16
  go_wp2_with (first
    | (go_at_call_of 41 (Value.string (canon a)); (with_reducible refine (H1.out _).mono ?_); rintro e w1 ⟨rfl, q⟩; have B1 := Lib.hid q; clear q)
    | (go_at_call_of 41 (Value.string (canon b)); (with_reducible refine (H2.out _).mono ?_); rintro e w2 ⟨rfl, q⟩; have B2 := Lib.hid (B1.out.trans (q.mono B1.out.size)); clear q)
    | (go_at_call 17; (with_reducible refine (H3.out _ B2.out).mono ?_); rintro e w3 ⟨rfl, q⟩; have B3 := Lib.hid (B2.out.trans (q.mono B2.out.size)); clear q))
  go_ret
  exact ⟨rfl, B3.out⟩

theorem lim4_add_len (x y M : Nat) (hx : (lim4 x).length ≤ M) (hy : (lim4 y).length ≤ M) : (lim4 (x + y)).length ≤ M + 1 := by
  have h1 : x < 10000 ^ (lim4 x).length := lim_lt_pow 10000 (by omega) x
  have h2 : y < 10000 ^ (lim4 y).length := lim_lt_pow 10000 (by omega) y
  have h3 : (10000 : Nat) ^ (lim4 x).length ≤ 10000 ^ M := Nat.pow_le_pow_right (by omega) hx
  have h4 : (10000 : Nat) ^ (lim4 y).length ≤ 10000 ^ M := Nat.pow_le_pow_right (by omega) hy
  refine lim_len_le 10000 (by omega) _ _ ?_
  rw [Nat.pow_succ]
  generalize (10000 : Nat) ^ M = s at *
  omega

/-- What the long way of Add wants of its two briefs: not both are short. -/
def Briefs (a b : Int) (xa xb : Int) (ua ub : Bool) : Prop :=
  (∀ W, Calls Tryz.prog 41 #[.string (canon a)] W fun e w' => e = .returned (.tuple #[.int .i64 xa, .bool ua]) ∧ Below W.heap.size W w') ∧
  (∀ W, Calls Tryz.prog 41 #[.string (canon b)] W fun e w' => e = .returned (.tuple #[.int .i64 xb, .bool ub]) ∧ Below W.heap.size W w')

theorem briefs_long (a b : Int) (ha : (canon a).size ≤ 100000) (hb : (canon b).size ≤ 100000) (h : ¬ ((mag a).size ≤ 17 ∧ (mag b).size ≤ 17)) :
    ∃ xa xb ua ub, (ua = false ∨ (ua = true ∧ ub = false)) ∧ Briefs a b xa xb ua ub := by
  by_cases h1 : (mag a).size ≤ 17
  · have h2 : 17 < (mag b).size := by omega
    exact ⟨a, 0, true, false, .inr ⟨rfl, rfl⟩, fun W => brief_yes a W h1 ha, fun W => brief_no b W h2 hb⟩
  · have h1' : 17 < (mag a).size := by omega
    by_cases h2 : (mag b).size ≤ 17
    · exact ⟨0, b, false, true, .inl rfl, fun W => brief_no a W h1' ha, fun W => brief_yes b W h2 hb⟩
    · exact ⟨0, 0, false, false, .inl rfl, fun W => brief_no a W h1' ha, fun W => brief_no b W (by omega) hb⟩

set_option maxRecDepth 100000 in
set_option maxHeartbeats 8000000 in
theorem addR_long (a b : Int) (w : World) (ht : Pow10 w) (ha : (canon a).size ≤ 10000) (hb : (canon b).size ≤ 10000) (xa xb : Int) (ua ub : Bool) (hu : ua = false ∨ (ua = true ∧ ub = false)) (hbr : Briefs a b xa xb ua ub) :
    Calls Tryz.prog 16 #[.string (canon a), .string (canon b)] w fun e w' => e = .returned (.string (canon (a + b))) ∧ Below w.heap.size w w' := by
  obtain ⟨h1, h2⟩ := hbr
  have hma := mag_le a 10000 ha
  have hmb := mag_le b 10000 hb
  have p1 := fun W => splitR_canon a W (by omega)
  have p2 := fun W => splitR_canon b W (by omega)
  have t1 := fun W => takeR_own a W (by omega)
  have t2 := fun W => takeR_own b W (by omega)
  have hla := lim4_len_digits a 10000 ha
  have hlb := lim4_len_digits b 10000 hb
  have hls := lim4_add_len a.natAbs b.natAbs 10000 hla hlb
  have hs1 := add_same a b
  have hs2 := add_left a b
  have hs3 := add_right a b
  generalize decide (a < 0) = sa at *
  generalize decide (b < 0) = sb at *
  generalize a.natAbs = x at *
  generalize b.natAbs = y at *
  have H1 := Lib.hid h1
  have H2 := Lib.hid h2
  have P1 := Lib.hid p1
  have P2 := Lib.hid p2
  have T1 := Lib.hid t1
  have T2 := Lib.hid t2
  have HS1 := Lib.hid hs1
  have HS2 := Lib.hid hs2
  have HS3 := Lib.hid hs3
  have HT := Lib.hid ht
  clear h1 h2 p1 p2 t1 t2 hs1 hs2 hs3 ht ha hb hma hmb
  by_cases hsame : sa = sb
  · subst hsame
    have jn := fun A1 c1 A2 c2 W (h1 : Sl W .i64 A1 c1 (lim4 x)) (h2 : Sl W .i64 A2 c2 (lim4 y)) (h0 : A1 = none → c1 = 0) => joined_any A1 A2 c1 c2 x y (x + y) 1 W h1 h2 h0 (by omega) (by omega) (by omega) (by omega) (by omega)
    have md := fun A c W (h1 : Sl W .i64 A c (lim4 (x + y))) (h2 : Below w.heap.size w W) => made_any sa A c (x + y) W h1 (by omega) (HT.out.below h2)
    rw [HS1.out rfl] at md
    have JN := Lib.hid jn
    have MD := Lib.hid md
    clear jn md HS1 HS2 HS3 HT
    generalize a + b = z at *
    generalize x + y = v at *
    rcases hu with rfl | ⟨rfl, rfl⟩ <;> cases sa
    all_goals
      go_enter Tryz.func16, Tryz.ntmps16
      go_wp2_with (first
        | (go_at_call_of 41 (Value.string (canon a)); (with_reducible refine (H1.out _).mono ?_); rintro e w1 ⟨rfl, q⟩; have B1 := Lib.hid q; clear q)
        | (go_at_call_of 41 (Value.string (canon b)); (with_reducible refine (H2.out _).mono ?_); rintro e w2 ⟨rfl, q⟩; have B2 := Lib.hid (B1.out.trans (q.mono B1.out.size)); clear q)
        | (go_at_call_of 42 (Value.string (canon a)); (with_reducible refine (P1.out _).mono ?_); rintro e w3 ⟨rfl, q⟩; have B3 := Lib.hid (B2.out.trans (q.below _)); clear q)
        | (go_at_call_of 42 (Value.string (canon b)); (with_reducible refine (P2.out _).mono ?_); rintro e w4 ⟨rfl, q⟩; have B4 := Lib.hid (B3.out.trans (q.below _)); clear q)
        | (go_at_call_of 44 (Value.string (mag a)); (with_reducible refine (T1.out _).mono ?_); rintro e w5 ⟨A1, c1, rfl, s1, q, hn1⟩; have S1 := Lib.hid s1; have N1 := Lib.hid hn1; have B5 := Lib.hid (B4.out.trans (q.mono B4.out.size)); clear s1 q hn1)
        | (go_at_call_of 44 (Value.string (mag b)); (with_reducible refine (T2.out _).mono ?_); rintro e w6 ⟨A2, c2, rfl, s2, q, hn2⟩; have S2 := Lib.hid s2; have N2 := Lib.hid hn2; have S1' := Lib.hid (S1.out.below q); have B6 := Lib.hid (B5.out.trans (q.mono B5.out.size)); clear s2 q hn2)
        | (go_at_call 45; (with_reducible refine (JN.out _ _ _ _ _ S1'.out S2.out N1.out).mono ?_); rintro e w7 ⟨A7, c7, rfl, s7, q, _⟩; have S7 := Lib.hid s7; have B7 := Lib.hid (B6.out.trans (q.mono B6.out.size)); clear s7 q)
        | (go_at_call 46; (with_reducible refine (MD.out _ _ _ S7.out B7.out).mono ?_); rintro e w8 ⟨rfl, q⟩; have B8 := Lib.hid (B7.out.trans (q.mono B7.out.size)); clear q)
        | fail "arm")
      go_ret
      exact ⟨rfl, B8.out⟩
  · by_cases hlt : x < y
    · have ls := fun A1 c1 A2 c2 W (h1 : Sl W .i64 A1 c1 (lim4 x)) (h2 : Sl W .i64 A2 c2 (lim4 y)) => less_any A1 A2 c1 c2 x y W h1 h2 (by omega) (by omega)
      rw [decide_eq_true hlt] at ls
      have jn := fun A1 c1 A2 c2 W (h1 : Sl W .i64 A1 c1 (lim4 y)) (h2 : Sl W .i64 A2 c2 (lim4 x)) (h0 : A1 = none → c1 = 0) => joined_any A1 A2 c1 c2 y x (y - x) (-1) W h1 h2 h0 (by omega) (by omega) (by omega) (by omega) (by omega)
      have hlm := lim4_len_mono (y - x) y (by omega)
      have md := fun A c W (h1 : Sl W .i64 A c (lim4 (y - x))) (h2 : Below w.heap.size w W) => made_any sb A c (y - x) W h1 (by omega) (HT.out.below h2)
      rw [HS3.out hsame hlt] at md
      have JN := Lib.hid jn
      have MD := Lib.hid md
      have LS := Lib.hid ls
      clear jn md ls HS1 HS2 HS3 HT hlm
      generalize a + b = z at *
      generalize y - x = v at *
      rcases hu with rfl | ⟨rfl, rfl⟩ <;> cases sa <;> cases sb
      all_goals first | (exact absurd rfl hsame) | skip
      all_goals
        clear hsame
        go_enter Tryz.func16, Tryz.ntmps16
        go_wp2_with (first
          | (go_at_call_of 41 (Value.string (canon a)); (with_reducible refine (H1.out _).mono ?_); rintro e w1 ⟨rfl, q⟩; have B1 := Lib.hid q; clear q)
          | (go_at_call_of 41 (Value.string (canon b)); (with_reducible refine (H2.out _).mono ?_); rintro e w2 ⟨rfl, q⟩; have B2 := Lib.hid (B1.out.trans (q.mono B1.out.size)); clear q)
          | (go_at_call_of 42 (Value.string (canon a)); (with_reducible refine (P1.out _).mono ?_); rintro e w3 ⟨rfl, q⟩; have B3 := Lib.hid (B2.out.trans (q.below _)); clear q)
          | (go_at_call_of 42 (Value.string (canon b)); (with_reducible refine (P2.out _).mono ?_); rintro e w4 ⟨rfl, q⟩; have B4 := Lib.hid (B3.out.trans (q.below _)); clear q)
          | (go_at_call_of 44 (Value.string (mag a)); (with_reducible refine (T1.out _).mono ?_); rintro e w5 ⟨A1, c1, rfl, s1, q, hn1⟩; have S1 := Lib.hid s1; have N1 := Lib.hid hn1; have B5 := Lib.hid (B4.out.trans (q.mono B4.out.size)); clear s1 q hn1)
          | (go_at_call_of 44 (Value.string (mag b)); (with_reducible refine (T2.out _).mono ?_); rintro e w6 ⟨A2, c2, rfl, s2, q, hn2⟩; have S2 := Lib.hid s2; have N2 := Lib.hid hn2; have S1' := Lib.hid (S1.out.below q); have B6 := Lib.hid (B5.out.trans (q.mono B5.out.size)); clear s2 q hn2)
          | (go_at_call 51; (with_reducible refine (LS.out _ _ _ _ _ S1'.out S2.out).mono ?_); rintro e w9 ⟨rfl, nd, rfl⟩)
          | (go_at_call 45; (with_reducible refine (JN.out _ _ _ _ _ (S2.out.drewN _) (S1'.out.drewN _) N2.out).mono ?_); rintro e w7 ⟨A7, c7, rfl, s7, q, _⟩; have S7 := Lib.hid s7; have B7 := Lib.hid ((B6.out.trans ((Drew.of _ _).below _)).trans (q.mono B6.out.size)); clear s7 q)
          | (go_at_call 46; (with_reducible refine (MD.out _ _ _ S7.out B7.out).mono ?_); rintro e w8 ⟨rfl, q⟩; have B8 := Lib.hid (B7.out.trans (q.mono B7.out.size)); clear q)
          | fail "arm")
        go_ret
        exact ⟨rfl, B8.out⟩
    · have ls := fun A1 c1 A2 c2 W (h1 : Sl W .i64 A1 c1 (lim4 x)) (h2 : Sl W .i64 A2 c2 (lim4 y)) => less_any A1 A2 c1 c2 x y W h1 h2 (by omega) (by omega)
      rw [decide_eq_false hlt] at ls
      have jn := fun A1 c1 A2 c2 W (h1 : Sl W .i64 A1 c1 (lim4 x)) (h2 : Sl W .i64 A2 c2 (lim4 y)) (h0 : A1 = none → c1 = 0) => joined_any A1 A2 c1 c2 x y (x - y) (-1) W h1 h2 h0 (by omega) (by omega) (by omega) (by omega) (by omega)
      have hlm := lim4_len_mono (x - y) x (by omega)
      have md := fun A c W (h1 : Sl W .i64 A c (lim4 (x - y))) (h2 : Below w.heap.size w W) => made_any sa A c (x - y) W h1 (by omega) (HT.out.below h2)
      rw [HS2.out hsame (by omega)] at md
      have JN := Lib.hid jn
      have MD := Lib.hid md
      have LS := Lib.hid ls
      clear jn md ls HS1 HS2 HS3 HT hlm
      generalize a + b = z at *
      generalize x - y = v at *
      rcases hu with rfl | ⟨rfl, rfl⟩ <;> cases sa <;> cases sb
      all_goals first | (exact absurd rfl hsame) | skip
      all_goals
        clear hsame
        go_enter Tryz.func16, Tryz.ntmps16
        go_wp2_with (first
          | (go_at_call_of 41 (Value.string (canon a)); (with_reducible refine (H1.out _).mono ?_); rintro e w1 ⟨rfl, q⟩; have B1 := Lib.hid q; clear q)
          | (go_at_call_of 41 (Value.string (canon b)); (with_reducible refine (H2.out _).mono ?_); rintro e w2 ⟨rfl, q⟩; have B2 := Lib.hid (B1.out.trans (q.mono B1.out.size)); clear q)
          | (go_at_call_of 42 (Value.string (canon a)); (with_reducible refine (P1.out _).mono ?_); rintro e w3 ⟨rfl, q⟩; have B3 := Lib.hid (B2.out.trans (q.below _)); clear q)
          | (go_at_call_of 42 (Value.string (canon b)); (with_reducible refine (P2.out _).mono ?_); rintro e w4 ⟨rfl, q⟩; have B4 := Lib.hid (B3.out.trans (q.below _)); clear q)
          | (go_at_call_of 44 (Value.string (mag a)); (with_reducible refine (T1.out _).mono ?_); rintro e w5 ⟨A1, c1, rfl, s1, q, hn1⟩; have S1 := Lib.hid s1; have N1 := Lib.hid hn1; have B5 := Lib.hid (B4.out.trans (q.mono B4.out.size)); clear s1 q hn1)
          | (go_at_call_of 44 (Value.string (mag b)); (with_reducible refine (T2.out _).mono ?_); rintro e w6 ⟨A2, c2, rfl, s2, q, hn2⟩; have S2 := Lib.hid s2; have N2 := Lib.hid hn2; have S1' := Lib.hid (S1.out.below q); have B6 := Lib.hid (B5.out.trans (q.mono B5.out.size)); clear s2 q hn2)
          | (go_at_call 51; (with_reducible refine (LS.out _ _ _ _ _ S1'.out S2.out).mono ?_); rintro e w9 ⟨rfl, nd, rfl⟩)
          | (go_at_call 45; (with_reducible refine (JN.out _ _ _ _ _ (S1'.out.drewN _) (S2.out.drewN _) N1.out).mono ?_); rintro e w7 ⟨A7, c7, rfl, s7, q, _⟩; have S7 := Lib.hid s7; have B7 := Lib.hid ((B6.out.trans ((Drew.of _ _).below _)).trans (q.mono B6.out.size)); clear s7 q)
          | (go_at_call 46; (with_reducible refine (MD.out _ _ _ S7.out B7.out).mono ?_); rintro e w8 ⟨rfl, q⟩; have B8 := Lib.hid (B7.out.trans (q.mono B7.out.size)); clear q)
          | fail "arm")
        go_ret
        exact ⟨rfl, B8.out⟩

theorem addR_any (a b : Int) (w : World) (ht : Pow10 w) (ha : (canon a).size ≤ 10000) (hb : (canon b).size ≤ 10000) :
    Calls Tryz.prog 16 #[.string (canon a), .string (canon b)] w fun e w' => e = .returned (.string (canon (a + b))) ∧ Below w.heap.size w w' := by
  by_cases h : (mag a).size ≤ 17 ∧ (mag b).size ≤ 17
  · exact addR_short a b w ht h.1 h.2 ha hb
  · obtain ⟨xa, xb, ua, ub, hu, hbr⟩ := briefs_long a b (by omega) (by omega) h
    exact addR_long a b w ht ha hb xa xb ua ub hu hbr

set_option maxHeartbeats 1000000 in
theorem subR_any (a b : Int) (w : World) (ht : Pow10 w) (ha : (canon a).size ≤ 9999) (hb : (canon b).size ≤ 9999) :
    Calls Tryz.prog 26 #[.string (canon a), .string (canon b)] w fun e w' => e = .returned (.string (canon (a - b))) ∧ Below w.heap.size w w' := by
  have h1 := negR_any b w (by omega)
  have h2 := fun W (hW : Below w.heap.size w W) => addR_any a (-b) W (ht.below hW) (by omega) (canon_neg_size b 9999 hb)
  rw [show a + -b = a - b from (Int.sub_eq_add_neg).symm] at h2
  have H1 := Lib.hid h1
  have H2 := Lib.hid h2
  clear h1 h2 ha hb ht
  go_enter Tryz.func26, Tryz.ntmps26
  go_wp2_with (first
    | (go_at_call 31; (with_reducible refine H1.out.mono ?_); rintro e w1 ⟨rfl, b1⟩; have B1 := Lib.hid b1; clear b1)
    | (go_at_call 16; (with_reducible refine (H2.out _ B1.out).mono ?_); rintro e w2 ⟨rfl, b2⟩; have B2 := Lib.hid (B1.out.trans (b2.mono B1.out.size)); clear b2))
  go_ret
  exact ⟨rfl, B2.out⟩

theorem canon_sub_size (a b : Int) (n : Nat) (ha : (canon a).size ≤ n) (hb : (canon b).size ≤ n) : (canon (a - b)).size ≤ n + 2 := by
  have h1 := itoa_len_small (z := a) (k := n) ha
  have h2 := itoa_len_small (z := b) (k := n) hb
  have h3 : (a - b).natAbs < 10 ^ (n + 1) := by
    rw [Nat.pow_succ]
    generalize (10 : Nat) ^ n = s at *
    omega
  have := canon_size_lt (a - b) (n + 1) h3 (by omega)
  omega

set_option maxHeartbeats 1000000 in
theorem compareR_any (a b : Int) (w : World) (ht : Pow10 w) (ha : (canon a).size ≤ 9000) (hb : (canon b).size ≤ 9000) :
    Calls Tryz.prog 29 #[.string (canon a), .string (canon b)] w fun e w' => e = .returned (.int .i64 (a - b).sign) ∧ Below w.heap.size w w' := by
  have h1 := subR_any a b w ht (by omega) (by omega)
  have h2 := fun W => signR_any (a - b) W (by have := canon_sub_size a b 9000 ha hb; omega)
  generalize (a - b).sign = s at *
  generalize a - b = d at *
  have H1 := Lib.hid h1
  have H2 := Lib.hid h2
  clear h1 h2 ha hb ht
  go_enter Tryz.func29, Tryz.ntmps29
  go_wp2_with (first
    | (go_at_call 26; (with_reducible refine H1.out.mono ?_); rintro e w1 ⟨rfl, b1⟩; have B1 := Lib.hid b1; clear b1)
    | (go_at_call 19; (with_reducible refine (H2.out _).mono ?_); rintro e w2 ⟨rfl, b2⟩; have B2 := Lib.hid (B1.out.trans (b2.mono B1.out.size)); clear b2))
  go_ret
  exact ⟨rfl, B2.out⟩

end Go.Proofs.YtmkeigfckfkifaaGreatDoor

/- The walk of klipperef01.DivMod: quotient and remainder. -/
namespace Go.Proofs.YtmkeigfckfkifaaGreatDoor
open Go.RowKit

theorem lim4_unit : lim4 1 = [1] := by
  rw [← trim_eq4 [1] 1 (by intro x hx; simp at hx; omega) (by simp [valB])]
  exact trimL_snoc_ne [] 1 (by omega)

theorem slI_one {W : World} {g : Nat} {r : Int} (hc : W.cell? ⟨g, 0, none⟩ = some (.int .i64 r)) (hg : g < W.heap.size) : Sl W .i64 (some ⟨g, 0, none⟩) 1 [r] :=
  ⟨by simp, by simp only [maxLen]; omega, fun _ => ⟨g, 0, rfl, hg, fun j hj => by
    have : j = 0 := by simpa using hj
    subst this
    exact hc⟩⟩

set_option maxRecDepth 100000 in
set_option maxHeartbeats 4000000 in
theorem divmodR_short (a b : Int) (w : World) (ht : Pow10 w) (ha : (mag a).size ≤ 17) (hb : (mag b).size ≤ 17) (ha' : (canon a).size ≤ 10000) (hb' : (canon b).size ≤ 10000) (hb0 : b ≠ 0) :
    Calls Tryz.prog 12 #[.string (canon a), .string (canon b)] w fun e w' => e = .returned (.tuple #[.string (canon (a / b)), .string (canon (a % b))]) ∧ Below w.heap.size w w' := by
  have h1 := fun W => brief_yes a W ha (by omega)
  have h2 := fun W => brief_yes b W hb (by omega)
  have la := brief_abs a ha
  have lb := brief_abs b hb
  have ho := fun (n : Int) (hn0 : -1000000000000000000 ≤ n) (hn1 : n ≤ 1000000000000000000) W (hW : Below w.heap.size w W) => ofR_any n (by omega) (by omega) W (ht.below hW)
  have q1 : -100000000000000000 ≤ a := by omega
  have q2 : a ≤ 100000000000000000 := by omega
  have q3 : -100000000000000000 ≤ b := by omega
  have q4 : b ≤ 100000000000000000 := by omega
  have t2 : (b == 0) = false := beq_eq_false_iff_ne.2 hb0
  have hqb : (a / b).natAbs ≤ a.natAbs := Int.natAbs_ediv_le_natAbs a b
  have hrb0 := Int.emod_nonneg a hb0
  have hrb1 := Int.emod_lt a hb0
  have htq : (a.tdiv b).natAbs ≤ a.natAbs := by rw [Int.natAbs_tdiv]; exact Nat.div_le_self _ _
  have htm : (a.tmod b).natAbs ≤ a.natAbs := by rw [Int.natAbs_tmod]; exact Nat.mod_le _ _
  have e1 := ediv_of_tdiv a b
  have e2 := ediv_of_tneg a b hb0
  obtain ⟨qz, hqz⟩ : ∃ q, a / b = q := ⟨_, rfl⟩
  obtain ⟨rz, hrz⟩ : ∃ q, a % b = q := ⟨_, rfl⟩
  rw [hqz] at hqb e1 e2 ⊢
  rw [hrz] at hrb0 hrb1 e1 e2 ⊢
  have o1 := ho qz (by omega) (by omega)
  have o2 := ho rz (by omega) (by omega)
  have H1 := Lib.hid h1
  have H2 := Lib.hid h2
  have O1 := Lib.hid o1
  have O2 := Lib.hid o2
  clear h1 h2 ho o1 o2 ha hb ha' hb' ht hqz hrz
  by_cases hneg : a.tmod b < 0
  · obtain ⟨e3, e4⟩ := e2 hneg
    obtain ⟨n, hn⟩ : ∃ n : Nat, b.natAbs = n := ⟨_, rfl⟩
    rw [hn] at e3 hrb1
    have hmx : max b (-b) = (n : Int) := by omega
    obtain ⟨m0, hm0⟩ : ∃ m, a.tmod b = m := ⟨_, rfl⟩
    obtain ⟨q0, hq0⟩ : ∃ m, a.tdiv b = m := ⟨_, rfl⟩
    rw [hm0] at e3 hneg htm
    rw [hq0] at htq
    have l1 : -100000000000000000 ≤ m0 := by omega
    have l2 : m0 ≤ 100000000000000000 := by omega
    have l3 : -100000000000000000 ≤ q0 := by omega
    have l4 : q0 ≤ 100000000000000000 := by omega
    have l5 : -100000000000000000 ≤ qz := by omega
    have l6 : qz ≤ 100000000000000000 := by omega
    have l7 : (n : Int) ≤ 100000000000000000 := by omega
    clear e1 e2 hn hqb htq htm la lb
    go_enter Tryz.func12, Tryz.ntmps12
    go_wp2_with (first
      | (go_at_call_of 41 (Value.string (canon a)); (with_reducible refine (H1.out _).mono ?_); rintro e w1 ⟨rfl, q⟩; have B1 := Lib.hid q; clear q)
      | (go_at_call_of 41 (Value.string (canon b)); (with_reducible refine (H2.out _).mono ?_); rintro e w2 ⟨rfl, q⟩; have B2 := Lib.hid (B1.out.trans (q.mono B1.out.size)); clear q))
    go_quiet (fail)
    go_wp2_with (first
      | (go_at_call_of 17 (Value.int .i64 qz); (with_reducible refine (O1.out _ ?_).mono ?_); exact B2.out.trans ((Drew.of _ _).below _); rintro e w3 ⟨rfl, q⟩; have B3 := Lib.hid ((B2.out.trans ((Drew.of _ _).below _)).trans (q.mono B2.out.size)); clear q)
      | (go_at_call_of 17 (Value.int .i64 rz); (with_reducible refine (O2.out _ B3.out).mono ?_); rintro e w4 ⟨rfl, q⟩; have B4 := Lib.hid (B3.out.trans (q.mono B3.out.size)); clear q))
    go_ret2
    exact ⟨rfl, B4.out⟩
  · obtain ⟨e3, e4⟩ := e1 (by omega)
    have l5 : -100000000000000000 ≤ qz := by omega
    have l6 : qz ≤ 100000000000000000 := by omega
    have l7 : rz ≤ 100000000000000000 := by omega
    have d1 : decide (rz < 0) = false := decide_eq_false (by omega)
    clear e1 e2 hqb htq htm la lb hneg
    go_enter Tryz.func12, Tryz.ntmps12
    go_wp2_with (first
      | (go_at_call_of 41 (Value.string (canon a)); (with_reducible refine (H1.out _).mono ?_); rintro e w1 ⟨rfl, q⟩; have B1 := Lib.hid q; clear q)
      | (go_at_call_of 41 (Value.string (canon b)); (with_reducible refine (H2.out _).mono ?_); rintro e w2 ⟨rfl, q⟩; have B2 := Lib.hid (B1.out.trans (q.mono B1.out.size)); clear q))
    go_quiet (fail)
    go_wp2_with (first
      | (go_at_call_of 17 (Value.int .i64 qz); (with_reducible refine (O1.out _ ?_).mono ?_); exact B2.out.trans ((Drew.of _ _).below _); rintro e w3 ⟨rfl, q⟩; have B3 := Lib.hid ((B2.out.trans ((Drew.of _ _).below _)).trans (q.mono B2.out.size)); clear q)
      | (go_at_call_of 17 (Value.int .i64 rz); (with_reducible refine (O2.out _ B3.out).mono ?_); rintro e w4 ⟨rfl, q⟩; have B4 := Lib.hid (B3.out.trans (q.mono B3.out.size)); clear q))
    go_ret2
    exact ⟨rfl, B4.out⟩

/- long -/

/-- An arm's order of arguments: slices first. -/
theorem parts_at {x y : Nat} (hlx : (lim4 x).length ≤ 10000) (hly : (lim4 y).length ≤ 10000) (hy : 0 < y) (W : World) (A1 : Option Addr) (c1 : Nat) (A2 : Option Addr) (c2 : Nat) (h1 : Sl W .i64 A1 c1 (lim4 x)) (h2 : Sl W .i64 A2 c2 (lim4 y)) :
    Calls Tryz.prog 43 #[.slice A1 (lim4 x).length c1, .slice A2 (lim4 y).length c2] W fun e w' => ∃ B1 d1 B2 d2, e = .returned (.tuple #[.slice B1 (lim4 (x / y)).length d1, .slice B2 (lim4 (x % y)).length d2]) ∧
      Sl w' .i64 B1 d1 (lim4 (x / y)) ∧ Sl w' .i64 B2 d2 (lim4 (x % y)) ∧ Below W.heap.size W w' ∧ (B1 = none → d1 = 0) ∧ (B2 = none → d2 = 0) :=
  parts_any A1 A2 c1 c2 x y W h1 h2 (by omega) (by omega) hy

set_option maxRecDepth 100000 in
set_option maxHeartbeats 8000000 in
theorem divmodR_easy (a b : Int) (w : World) (ht : Pow10 w) (ha : (canon a).size ≤ 10000) (hb : (canon b).size ≤ 10000) (hb0 : b ≠ 0) (hm : 0 ≤ a ∨ a.natAbs % b.natAbs = 0) (xa xb : Int) (ua ub : Bool) (hu : ua = false ∨ (ua = true ∧ ub = false)) (hbr : Briefs a b xa xb ua ub) :
    Calls Tryz.prog 12 #[.string (canon a), .string (canon b)] w fun e w' => e = .returned (.tuple #[.string (canon (a / b)), .string (canon (a % b))]) ∧ Below w.heap.size w w' := by
  obtain ⟨h1, h2⟩ := hbr
  have hma := mag_le a 10000 ha
  have hmb := mag_le b 10000 hb
  have p1 := fun W => splitR_canon a W (by omega)
  have p2 := fun W => splitR_canon b W (by omega)
  have t1 := fun W => takeR_own a W (by omega)
  have t2 := fun W => takeR_own b W (by omega)
  have hla := lim4_len_digits a 10000 ha
  have hlb := lim4_len_digits b 10000 hb
  have hyp : 0 < b.natAbs := by omega
  obtain ⟨hd1, hd2⟩ := div_easy a b hb0 hm
  have hmz : decide (a < 0) = true → a.natAbs % b.natAbs = 0 := fun h => by
    have := of_decide_eq_true h
    omega
  generalize a / b = qz at *
  generalize a % b = rz at *
  generalize decide (a < 0) = sa at *
  generalize decide (b < 0) = sb at *
  generalize a.natAbs = x at *
  generalize b.natAbs = y at *
  have hql : (lim4 (x / y)).length ≤ 10000 := Nat.le_trans (lim4_len_mono _ _ (Nat.div_le_self x y)) hla
  have hrl : (lim4 (x % y)).length ≤ 10000 := Nat.le_trans (lim4_len_mono _ _ (Nat.mod_le x y)) hla
  have pt := parts_at hla hlb hyp
  obtain ⟨bb, hbb⟩ : ∃ bb, (sa != sb) = bb := ⟨_, rfl⟩
  have m1 := fun A c W (h1 : Sl W .i64 A c (lim4 (x / y))) (h2 : Below w.heap.size w W) => made_any bb A c (x / y) W h1 (by omega) (ht.below h2)
  have m2 := fun A c W (h1 : Sl W .i64 A c (lim4 (x % y))) (h2 : Below w.heap.size w W) => made_any false A c (x % y) W h1 (by omega) (ht.below h2)
  rw [hbb] at hd1
  rw [hd1] at m1
  rw [if_neg (by simp), hd2] at m2
  have hlz : sa = true → (lim4 (x % y)).length = 0 := fun h => by rw [hmz h]; rfl
  have H1 := Lib.hid h1
  have H2 := Lib.hid h2
  have P1 := Lib.hid p1
  have P2 := Lib.hid p2
  have T1 := Lib.hid t1
  have T2 := Lib.hid t2
  have PT := Lib.hid pt
  have M1 := Lib.hid m1
  have M2 := Lib.hid m2
  clear h1 h2 p1 p2 t1 t2 pt m1 m2 ht ha hb hma hmb hd1 hd2 hb0 hm hmz hyp
  rcases hu with rfl | ⟨rfl, rfl⟩ <;> cases sa <;> cases sb <;> cases bb
  all_goals first | (exact absurd hbb (by decide)) | skip
  all_goals
    clear hbb
    first
      | (have hl0 := hlz rfl; have d1 : decide ((0 : Int) < ((lim4 (x % y)).length : Int)) = false := decide_eq_false (by omega); have d2 : decide (0 < (lim4 (x % y)).length) = false := decide_eq_false (by omega); clear hlz hl0)
      | clear hlz
    go_enter Tryz.func12, Tryz.ntmps12
    go_wp2_with (first
          | (go_at_call_of 41 (Value.string (canon a)); (with_reducible refine (H1.out _).mono ?_); rintro e w1 ⟨rfl, q⟩; have B1 := Lib.hid q; clear q)
          | (go_at_call_of 41 (Value.string (canon b)); (with_reducible refine (H2.out _).mono ?_); rintro e w2 ⟨rfl, q⟩; have B2 := Lib.hid (B1.out.trans (q.mono B1.out.size)); clear q)
          | (go_at_call_of 42 (Value.string (canon a)); (with_reducible refine (P1.out _).mono ?_); rintro e w3 ⟨rfl, q⟩; have B3 := Lib.hid (B2.out.trans (q.below _)); clear q)
          | (go_at_call_of 42 (Value.string (canon b)); (with_reducible refine (P2.out _).mono ?_); rintro e w4 ⟨rfl, q⟩; have B4 := Lib.hid (B3.out.trans (q.below _)); clear q)
          | (go_at_call_of 44 (Value.string (mag a)); (with_reducible refine (T1.out _).mono ?_); rintro e w5 ⟨A1, c1, rfl, s1, q, hn1⟩; have S1 := Lib.hid s1; have B5 := Lib.hid (B4.out.trans (q.mono B4.out.size)); clear s1 q hn1)
          | (go_at_call_of 44 (Value.string (mag b)); (with_reducible refine (T2.out _).mono ?_); rintro e w6 ⟨A2, c2, rfl, s2, q, hn2⟩; have S2 := Lib.hid s2; have S1' := Lib.hid (S1.out.below q); have B6 := Lib.hid (B5.out.trans (q.mono B5.out.size)); clear s2 q hn2)
          | (go_at_call 43; (with_reducible refine (PT.out _ _ _ _ _ S1'.out S2.out).mono ?_); rintro e w7 ⟨A7, c7, A8, c8, rfl, s7, s8, q, n7, n8⟩; have S7 := Lib.hid s7; have S8 := Lib.hid s8; have N7 := Lib.hid n7; have N8 := Lib.hid n8; have B7 := Lib.hid (B6.out.trans (q.mono B6.out.size)); clear s7 s8 q n7 n8)
          | (go_at_call_of 46 (Value.slice A7 (lim4 (x / y)).length c7); (with_reducible refine (M1.out _ _ _ S7.out B7.out).mono ?_); rintro e w9 ⟨rfl, q⟩; have S9 := Lib.hid (S8.out.below q); have B9 := Lib.hid (B7.out.trans (q.mono B7.out.size)); clear q)
          | (go_at_call 46; (with_reducible refine (M2.out _ _ _ S9.out B9.out).mono ?_); rintro e w10 ⟨rfl, q⟩; have B10 := Lib.hid (B9.out.trans (q.mono B9.out.size)); clear q)
          | fail "arm")
    go_ret2
    exact ⟨rfl, B10.out⟩

set_option maxRecDepth 100000 in
set_option maxHeartbeats 8000000 in
theorem divmodR_hard (a b : Int) (w : World) (ht : Pow10 w) (ha : (canon a).size ≤ 10000) (hb : (canon b).size ≤ 10000) (hb0 : b ≠ 0) (ha0 : a < 0) (hm : a.natAbs % b.natAbs ≠ 0) (xa xb : Int) (ua ub : Bool) (hu : ua = false ∨ (ua = true ∧ ub = false)) (hbr : Briefs a b xa xb ua ub) :
    Calls Tryz.prog 12 #[.string (canon a), .string (canon b)] w fun e w' => e = .returned (.tuple #[.string (canon (a / b)), .string (canon (a % b))]) ∧ Below w.heap.size w w' := by
  obtain ⟨h1, h2⟩ := hbr
  have hma := mag_le a 10000 ha
  have hmb := mag_le b 10000 hb
  have p1 := fun W => splitR_canon a W (by omega)
  have p2 := fun W => splitR_canon b W (by omega)
  have t1 := fun W => takeR_own a W (by omega)
  have t2 := fun W => takeR_own b W (by omega)
  have hla := lim4_len_digits a 10000 ha
  have hlb := lim4_len_digits b 10000 hb
  have hyp : 0 < b.natAbs := by omega
  obtain ⟨hd1, hd2⟩ := div_hard a b hb0 ha0 hm
  have hsa : decide (a < 0) = true := decide_eq_true ha0
  generalize a / b = qz at *
  generalize a % b = rz at *
  generalize decide (a < 0) = sa at *
  generalize decide (b < 0) = sb at *
  generalize a.natAbs = x at *
  generalize b.natAbs = y at *
  have hql : (lim4 (x / y)).length ≤ 10000 := Nat.le_trans (lim4_len_mono _ _ (Nat.div_le_self x y)) hla
  have hrl : (lim4 (x % y)).length ≤ 10000 := Nat.le_trans (lim4_len_mono _ _ (Nat.mod_le x y)) hla
  have pt := parts_at hla hlb hyp
  subst hsa
  obtain ⟨bb, hbb⟩ : ∃ bb, (!sb) = bb := ⟨_, rfl⟩
  have hq1 : (lim4 (x / y + 1)).length ≤ 10001 := lim4_add_len (x / y) 1 10000 hql (by rw [lim4_unit]; simp)
  have hr1 : (lim4 (y - x % y)).length ≤ 10000 := Nat.le_trans (lim4_len_mono _ _ (Nat.sub_le y _)) hlb
  have hml := Nat.mod_lt x hyp
  have hpos : 0 < (lim4 (x % y)).length := by
    rcases Nat.eq_zero_or_pos (lim4 (x % y)).length with h | h
    · exact absurd ((lim4_len_zero _).1 h) hm
    · exact h
  have d1 : decide ((0 : Int) < ((lim4 (x % y)).length : Int)) = true := decide_eq_true (by omega)
  have d2 : decide (0 < (lim4 (x % y)).length) = true := decide_eq_true hpos
  have j1 := fun B d W (h1 : Sl W .i64 B d (lim4 (x / y))) (h2 : B = none → d = 0) => joined_any B (some ⟨W.heap.size, 0, none⟩) d 1 (x / y) 1 (x / y + 1) 1 (W.alloc (.cells #[.int .i64 1] 3)) (h1.below ((Below.refl _ _).alloc (Nat.le_refl _) _))
    (by rw [lim4_unit]; exact slI_one (by rw [Lib.cell_of_heap (heap_alloc_new W _)]; rfl) (by simp)) h2 (by omega) (by rw [lim4_unit]; simp) (by omega) (by omega) (by omega)
  rw [show (lim4 1).length = 1 by rw [lim4_unit]; rfl] at j1
  have j2 := fun B d B2 d2 W (h1 : Sl W .i64 B d (lim4 y)) (h2 : Sl W .i64 B2 d2 (lim4 (x % y))) (h3 : B = none → d = 0) => joined_any B B2 d d2 y (x % y) (y - x % y) (-1) W h1 h2 h3 (by omega) (by omega) (by omega) (by omega) (by omega)
  have m1 := fun A c W (h1 : Sl W .i64 A c (lim4 (x / y + 1))) (h2 : Below w.heap.size w W) => made_any bb A c (x / y + 1) W h1 (by omega) (ht.below h2)
  have m2 := fun A c W (h1 : Sl W .i64 A c (lim4 (y - x % y))) (h2 : Below w.heap.size w W) => made_any false A c (y - x % y) W h1 (by omega) (ht.below h2)
  rw [hbb] at hd1
  rw [hd1] at m1
  rw [if_neg (by simp), hd2] at m2
  have H1 := Lib.hid h1
  have H2 := Lib.hid h2
  have P1 := Lib.hid p1
  have P2 := Lib.hid p2
  have T1 := Lib.hid t1
  have T2 := Lib.hid t2
  have PT := Lib.hid pt
  have J1 := Lib.hid j1
  have J2 := Lib.hid j2
  have M1 := Lib.hid m1
  have M2 := Lib.hid m2
  clear h1 h2 p1 p2 t1 t2 pt m1 m2 j1 j2 ht ha hb hma hmb hd1 hd2 hb0 ha0 hm hyp hml hpos
  rcases hu with rfl | ⟨rfl, rfl⟩ <;> cases sb <;> cases bb
  all_goals first | (exact absurd hbb (by decide)) | skip
  all_goals
    clear hbb
    go_enter Tryz.func12, Tryz.ntmps12
    go_upto_region 13 with (first
          | (go_at_call_of 41 (Value.string (canon a)); (with_reducible refine (H1.out _).mono ?_); rintro e w1 ⟨rfl, q⟩; have B1 := Lib.hid q; clear q)
          | (go_at_call_of 41 (Value.string (canon b)); (with_reducible refine (H2.out _).mono ?_); rintro e w2 ⟨rfl, q⟩; have B2 := Lib.hid (B1.out.trans (q.mono B1.out.size)); clear q)
          | (go_at_call_of 42 (Value.string (canon a)); (with_reducible refine (P1.out _).mono ?_); rintro e w3 ⟨rfl, q⟩; have B3 := Lib.hid (B2.out.trans (q.below _)); clear q)
          | (go_at_call_of 42 (Value.string (canon b)); (with_reducible refine (P2.out _).mono ?_); rintro e w4 ⟨rfl, q⟩; have B4 := Lib.hid (B3.out.trans (q.below _)); clear q)
          | (go_at_call_of 44 (Value.string (mag a)); (with_reducible refine (T1.out _).mono ?_); rintro e w5 ⟨A1, c1, rfl, s1, q, hn1⟩; have S1 := Lib.hid s1; have B5 := Lib.hid (B4.out.trans (q.mono B4.out.size)); clear s1 q hn1)
          | (go_at_call_of 44 (Value.string (mag b)); (with_reducible refine (T2.out _).mono ?_); rintro e w6 ⟨A2, c2, rfl, s2, q, hn2⟩; have S2 := Lib.hid s2; have S1' := Lib.hid (S1.out.below q); have B6 := Lib.hid (B5.out.trans (q.mono B5.out.size)); clear s2 q hn2)
          | (go_at_call 43; (with_reducible refine (PT.out _ _ _ _ _ S1'.out S2.out).mono ?_); rintro e w7 ⟨A7, c7, A8, c8, rfl, s7, s8, q, n7, n8⟩; have S7 := Lib.hid s7; have S8 := Lib.hid s8; have N7 := Lib.hid n7; have N8 := Lib.hid n8; have B7 := Lib.hid (B6.out.trans (q.mono B6.out.size)); clear s7 s8 q n7 n8))
    have z7 : (w7.alloc (.cells #[.int .i64 1] 3)).heap.size = w7.heap.size + 1 := World.size_alloc ..
    have ba7 : Below w7.heap.size w7 (w7.alloc (.cells #[.int .i64 1] 3)) := (Below.refl _ _).alloc (Nat.le_refl _) _
    have Z7 := Lib.hid z7
    have BA7 := Lib.hid ba7
    clear z7 ba7
    go_wp2_with (first
          | (go_at_call_of 45 (Value.slice A7 (lim4 (x / y)).length c7); (with_reducible refine (J1.out _ _ _ S7.out N7.out).mono ?_); rintro e w9 ⟨A9, c9, rfl, s9, q, _⟩; have k9 := BA7.out.trans (q.mono BA7.out.size); have S9 := Lib.hid s9; have S8' := Lib.hid (S8.out.below k9); have B9 := Lib.hid (B7.out.trans (k9.mono B7.out.size)); clear s9 q k9)
          | (go_at_call_of 44 (Value.string (mag b)); (with_reducible refine (T2.out _).mono ?_); rintro e w10 ⟨A10, c10, rfl, s10, q, n10⟩; have S10 := Lib.hid s10; have N10 := Lib.hid n10; have S9' := Lib.hid (S9.out.below q); have S8'' := Lib.hid (S8'.out.below q); have B10 := Lib.hid (B9.out.trans (q.mono B9.out.size)); clear s10 q n10)
          | (go_at_call_of 45 (Value.slice A8 (lim4 (x % y)).length c8); (with_reducible refine (J2.out _ _ _ _ _ S10.out S8''.out N10.out).mono ?_); rintro e w11 ⟨A11, c11, rfl, s11, q, _⟩; have S11 := Lib.hid s11; have S9'' := Lib.hid (S9'.out.below q); have B11 := Lib.hid (B10.out.trans (q.mono B10.out.size)); clear s11 q)
          | (go_at_call 46; (with_reducible refine (M1.out _ _ _ S9''.out B11.out).mono ?_); rintro e w12 ⟨rfl, q⟩; have S12 := Lib.hid (S11.out.below q); have B12 := Lib.hid (B11.out.trans (q.mono B11.out.size)); clear q)
          | (go_at_call 46; (with_reducible refine (M2.out _ _ _ S12.out B12.out).mono ?_); rintro e w13 ⟨rfl, q⟩; have B13 := Lib.hid (B12.out.trans (q.mono B12.out.size)); clear q)
          | fail "arm")
    go_ret2
    exact ⟨rfl, B13.out⟩

theorem divmodR_any (a b : Int) (w : World) (ht : Pow10 w) (ha : (canon a).size ≤ 10000) (hb : (canon b).size ≤ 10000) (hb0 : b ≠ 0) :
    Calls Tryz.prog 12 #[.string (canon a), .string (canon b)] w fun e w' => e = .returned (.tuple #[.string (canon (a / b)), .string (canon (a % b))]) ∧ Below w.heap.size w w' := by
  by_cases h : (mag a).size ≤ 17 ∧ (mag b).size ≤ 17
  · exact divmodR_short a b w ht h.1 h.2 ha hb hb0
  · obtain ⟨xa, xb, ua, ub, hu, hbr⟩ := briefs_long a b (by omega) (by omega) h
    by_cases hm : 0 ≤ a ∨ a.natAbs % b.natAbs = 0
    · exact divmodR_easy a b w ht ha hb hb0 hm xa xb ua ub hu hbr
    · exact divmodR_hard a b w ht ha hb hb0 (by omega) (by omega) xa xb ua ub hu hbr

end Go.Proofs.YtmkeigfckfkifaaGreatDoor

/- The walks of klipperef01.Gcd, Power and Root. -/
namespace Go.Proofs.YtmkeigfckfkifaaGreatDoor
open Go.RowKit

theorem canon_nat_size (n N : Nat) (h : n < 10 ^ N) (h0 : 0 < N) : (canon (n : Int)).size ≤ N + 1 := canon_size_lt (n : Int) N (by rw [Int.natAbs_natCast]; exact h) h0

theorem nat_lt_of_size (n N : Nat) (h : (canon (n : Int)).size ≤ N) : n < 10 ^ N := by
  have := itoa_len_small (z := (n : Int)) (k := N) h
  rw [Int.natAbs_natCast] at this
  exact this

theorem canon_size_mono (m n N : Nat) (hm : m ≤ n) (h : (canon (n : Int)).size ≤ N) (h0 : 0 < N) : (canon (m : Int)).size ≤ N + 1 :=
  canon_nat_size m N (Nat.lt_of_le_of_lt hm (nat_lt_of_size n N h)) h0

set_option maxHeartbeats 2000000 in
theorem gcdR_any (a b : Int) (w : World) (ht : Pow10 w) (ha : (canon a).size ≤ 9000) (hb : (canon b).size ≤ 9000) :
    Calls Tryz.prog 15 #[.string (canon a), .string (canon b)] w fun e w' => e = .returned (.string (canon (Int.gcd a b : Int))) ∧ Below w.heap.size w w' := by
  have h1 := fun W => absR_any a W (by omega)
  have h2 := fun W => absR_any b W (by omega)
  have hx := itoa_len_small (z := a) (k := 9000) ha
  have hy := itoa_len_small (z := b) (k := 9000) hb
  have hgg : Int.gcd a b = Nat.gcd a.natAbs b.natAbs := rfl
  obtain ⟨M, hM⟩ : ∃ M, (10 : Nat) ^ 9000 = M := ⟨_, rfl⟩
  have hsz : ∀ n : Nat, n < M → (canon (n : Int)).size ≤ 9001 := fun n hn => canon_nat_size n 9000 (by rw [hM]; exact hn) (by omega)
  rw [hM] at hx hy
  clear hM
  rw [hgg]
  generalize a.natAbs = x0 at *
  generalize b.natAbs = y0 at *
  obtain ⟨G, hG⟩ : ∃ G, Nat.gcd x0 y0 = G := ⟨_, rfl⟩
  rw [hG]
  have HG0 := Lib.hid hG
  have H1 := Lib.hid h1
  have H2 := Lib.hid h2
  have HT := Lib.hid ht
  have HSZ := Lib.hid hsz
  clear h1 h2 ht hgg hG ha hb hsz
  go_enter Tryz.func15, Tryz.ntmps15
  go_wp2_with (first
    | (go_at_call_of 22 (Value.string (canon a)); (with_reducible refine (H1.out _).mono ?_); rintro e w1 ⟨rfl, q⟩; have B1 := Lib.hid q; clear q)
    | (go_at_call_of 22 (Value.string (canon b)); (with_reducible refine (H2.out _).mono ?_); rintro e w2 ⟨rfl, q⟩; have B2 := Lib.hid (B1.out.trans (q.mono B1.out.size)); clear q))
  go_loopg [0, 1] y0 (fun gy xv yv wr => ∃ (x : Nat), xv = .string (canon (x : Int)) ∧ yv = .string (canon (gy : Int)) ∧ x < M ∧ gy < M ∧ Below w.heap.size w wr ∧ Hid (Nat.gcd x gy = G))
  case atStart => exact ⟨x0, rfl, rfl, hx, hy, B2.out, HG0⟩
  case round =>
    clear HG0 B2 hx hy
    obtain ⟨x, rfl, rfl, hx, hy, hbl, HG⟩ := hrel
    have HB := Lib.hid hbl
    clear hbl
    have hzb := canon_beq0 (gk : Int)
    by_cases h0 : gk = 0
    · subst h0
      have hg : x = G := by rw [← HG.out]; simp
      subst hg
      rw [decide_eq_true (by rfl)] at hzb
      have hzb2 : ((canon 0).toList == [48]) = true := hzb
      have hzn : ((canon 0).toList != [48]) = false := by rw [bne, hzb2]; rfl
      go_wp2
      go_ret
      exact ⟨rfl, HB.out⟩
    · rw [decide_eq_false (by omega)] at hzb
      have hzn : ((canon (gk : Int)).toList != [48]) = true := by rw [bne, hzb]; rfl
      have dm := divmodR_any (x : Int) (gk : Int) wr (HT.out.below HB.out) (by have := HSZ.out x hx; omega) (by have := HSZ.out gk hy; omega) (by omega)
      rw [show (x : Int) % (gk : Int) = ((x % gk : Nat) : Int) by simp, show (x : Int) / (gk : Int) = ((x / gk : Nat) : Int) by simp] at dm
      have HN := Lib.hid (gcd_step x gk ▸ HG.out : Nat.gcd gk (x % gk) = G)
      have hm : x % gk < gk := Nat.mod_lt _ (by omega)
      have DM := Lib.hid dm
      clear dm
      go_wp2_with (go_at_call 12; (with_reducible refine DM.out.mono ?_); rintro e w4 ⟨rfl, q⟩; have B4 := Lib.hid (HB.out.trans (q.mono HB.out.size)); clear q)
      go_roundg (x % gk)
      case measure => exact hm
      case rel => exact ⟨gk, rfl, rfl, hy, by omega, B4.out, HN.out⟩

set_option maxHeartbeats 1000000 in
theorem powerR_any (z : Int) (k : Nat) (w : World) (ht : Pow10 w) (hk : k ≤ 1000000) (hz : (canon z).size ≤ 10000) (hs : ∀ j : Nat, j < k → (canon (z ^ j)).size ≤ 10000) :
    Calls Tryz.prog 23 #[.string (canon z), .int .i64 k] w fun e w' => e = .returned (.string (canon (z ^ k))) ∧ Below w.heap.size w w' := by
  have k1 := k_1
  have HT := Lib.hid ht
  have HS := Lib.hid hs
  have HZ := Lib.hid hz
  have H1 : Hid (Value.string (⟨#[49]⟩ : ByteArray) = Value.string (canon (z ^ 0))) := by rw [Int.pow_zero, k1]; rfl
  clear ht hs hz k1
  go_enter Tryz.func23, Tryz.ntmps23
  go_wp2
  go_loopw [5, 6] (fun ov iv wr => ∃ (j : Nat), j ≤ k ∧ ov = .string (canon (z ^ j)) ∧ iv = .int .i64 j ∧ Below w.heap.size w wr) (fun _ iv _ => k - (intOf iv).toNat)
  case atStart => exact ⟨0, Nat.zero_le _, H1.out, rfl, Below.refl _ _⟩
  case round =>
    clear H1
    obtain ⟨j, hj, rfl, rfl, hbl⟩ := hrel
    have HB := Lib.hid hbl
    clear hbl
    by_cases hlt : j < k
    · have mu := mulR_any (z ^ j) z wr (HT.out.below HB.out) (HS.out j hlt) HZ.out
      rw [← Int.pow_succ] at mu
      obtain ⟨y, hy⟩ : ∃ y, z ^ j = y := ⟨_, rfl⟩
      obtain ⟨y2, hy2⟩ : ∃ y, z ^ (j + 1) = y := ⟨_, rfl⟩
      rw [hy, hy2] at mu
      rw [hy]
      have MU := Lib.hid mu
      have HY2 := Lib.hid hy2
      clear mu hy hy2
      go_wp2_with (go_at_call 13; (with_reducible refine MU.out.mono ?_); rintro e w4 ⟨rfl, q⟩; have B4 := Lib.hid (HB.out.trans (q.mono HB.out.size)); clear q)
      go_roundw
      case rel => exact ⟨j + 1, by omega, by rw [HY2.out], by go_num, B4.out⟩
      case measure => simp [intOf]; omega
    · obtain rfl : j = k := by omega
      go_wp2
      go_ret
      exact ⟨rfl, HB.out⟩

theorem rootR_zero (w : World) :
    Calls Tryz.prog 20 #[.string (canon 0)] w fun e w' => e = .returned (.string (canon 0)) ∧ w = w' := by
  have hz : ((canon 0).toList == [48]) = true := by rw [canon_beq0]; rfl
  generalize canon 0 = s at *
  go_enter Tryz.func20, Tryz.ntmps20
  go_wp2
  go_ret
  exact ⟨rfl, rfl⟩

set_option maxRecDepth 100000 in
set_option maxHeartbeats 4000000 in
theorem rootR_pos (n : Nat) (w : World) (hn : 0 < n) (ht : Pow10 w) (hsz : (canon (n : Int)).size ≤ 200) :
    Calls Tryz.prog 20 #[.string (canon (n : Int))] w fun e w' => (∃ r, IsRoot n r ∧ e = .returned (.string (canon (r : Int)))) ∧ Below w.heap.size w w' := by
  have hz : ((canon (n : Int)).toList == [48]) = false := by rw [canon_beq0]; exact decide_eq_false (by omega)
  obtain ⟨L, hL⟩ : ∃ L, (canon (n : Int)).size = L := ⟨_, rfl⟩
  have hnl := nat_lt_of_size n L (by omega)
  obtain ⟨K, hK⟩ : ∃ K, (L + 1) / 2 = K := ⟨_, rfl⟩
  have eK : (((canon (n : Int)).size : Int) + 1) / 2 = (K : Int) := by omega
  have hK1 : K ≤ 101 := by omega
  have k10 : canon 10 = ⟨#[49, 48]⟩ := canon_two 10 (by omega) (by omega)
  have k2 : canon 2 = ⟨#[50]⟩ := canon_dig 2 (by omega)
  have hn2 : n < (10 ^ K + 1) * (10 ^ K + 1) := by
    have h2 : (10 : Nat) ^ L ≤ 10 ^ (2 * K) := Nat.pow_le_pow_right (by omega) (by omega)
    have h3 : (10 : Nat) ^ (2 * K) = 10 ^ K * 10 ^ K := by rw [Nat.two_mul, Nat.pow_add]
    generalize (10 : Nat) ^ K = s at *
    have h4 : s * s ≤ (s + 1) * (s + 1) := Nat.mul_le_mul (by omega) (by omega)
    omega
  have hxp : 0 < 10 ^ K := Nat.pow_pos (by omega)
  have hxs : 10 ^ K < 10 ^ 250 := Nat.pow_lt_pow_right (by omega) (by omega)
  have hns : n < 10 ^ 250 := Nat.lt_of_lt_of_le hnl (Nat.pow_le_pow_right (by omega) (by omega))
  have hpw := fun W (hW : Below w.heap.size w W) => powerR_any 10 K W (ht.below hW) (by omega) (by rw [k10]; decide) (fun j hj => by
    have h1 : (10 : Int) ^ j = ((10 ^ j : Nat) : Int) := by simp
    rw [h1]
    have h2 : (10 : Nat) ^ j < 10 ^ 250 := Nat.pow_lt_pow_right (by omega) (by omega)
    have := canon_nat_size (10 ^ j) 250 h2 (by omega)
    omega)
  rw [k10, show (10 : Int) ^ K = ((10 ^ K : Nat) : Int) by simp] at hpw
  generalize 10 ^ K = x0 at *
  have hsm : ∀ m : Nat, m < 10 ^ 250 + 10 ^ 250 → (canon (m : Int)).size ≤ 252 := fun m hm => by
    refine canon_nat_size m 251 ?_ (by omega)
    rw [Nat.pow_succ]
    generalize (10 : Nat) ^ 250 = s at *
    omega
  obtain ⟨M, hM⟩ : ∃ M, (10 : Nat) ^ 250 = M := ⟨_, rfl⟩
  rw [hM] at hsm hxs hns
  have HSM := Lib.hid hsm
  have HPW := Lib.hid hpw
  have HN2 := Lib.hid hn2
  have HT := Lib.hid ht
  have K2 := Lib.hid k2
  clear hsm hpw hn2 hM ht hnl hL hK k10 hsz k2
  go_enter Tryz.func20, Tryz.ntmps20
  go_wp2_with (go_at_call 23; (with_reducible refine (HPW.out _ (Below.refl _ _)).mono ?_); rintro e w1 ⟨rfl, q⟩; have B1 := Lib.hid q; clear q)
  clear HPW eK hz
  go_loopg [3] x0 (fun gx xv wr => xv = .string (canon (gx : Int)) ∧ 0 < gx ∧ gx ≤ x0 ∧ Below w.heap.size w wr ∧ Hid (n < (gx + 1) * (gx + 1)))
  case atStart => exact ⟨rfl, hxp, Nat.le_refl _, B1.out, HN2.out⟩
  case round =>
    clear B1 HN2
    obtain ⟨rfl, hgp, hgx, hbl, HG⟩ := hrel
    have HB := Lib.hid hbl
    clear hbl
    have d1 := divmodR_any (n : Int) (gk : Int) wr (HT.out.below HB.out) (by have := HSM.out n (by omega); omega) (by have := HSM.out gk (by omega); omega) (by omega)
    have hqn : n / gk ≤ n := Nat.div_le_self n gk
    have ha := newton_above n gk hgp
    have he := newton_end n gk
    have hpz := newton_pos n gk hn hgp
    rw [show (n : Int) % (gk : Int) = ((n % gk : Nat) : Int) by simp, show (n : Int) / (gk : Int) = ((n / gk : Nat) : Int) by simp] at d1
    obtain ⟨q, hq⟩ : ∃ q, n / gk = q := ⟨_, rfl⟩
    rw [hq] at d1 ha he hpz hqn
    have ad := fun W (hW : Below w.heap.size w W) => addR_any (gk : Int) (q : Int) W (HT.out.below hW) (by have := HSM.out gk (by omega); omega) (by have := HSM.out q (by omega); omega)
    rw [show (gk : Int) + (q : Int) = ((gk + q : Nat) : Int) by simp] at ad
    obtain ⟨y, hy⟩ : ∃ y, (gk + q) / 2 = y := ⟨_, rfl⟩
    have d2 := fun W (hW : Below w.heap.size w W) => divmodR_any ((gk + q : Nat) : Int) 2 W (HT.out.below hW) (by have := HSM.out (gk + q) (by omega); omega) (by rw [K2.out]; decide) (by omega)
    rw [K2.out, show ((gk + q : Nat) : Int) / 2 = (((gk + q) / 2 : Nat) : Int) by simp, hy] at d2
    rw [hy] at ha he hpz
    have hyb : y ≤ gk + q := by omega
    have cm := fun W (hW : Below w.heap.size w W) => compareR_any (y : Int) (gk : Int) W (HT.out.below hW) (by have := HSM.out y (by omega); omega) (by have := HSM.out gk (by omega); omega)
    have hcs : y < gk → ((y : Int) - (gk : Int)).sign = -1 := fun h => Int.sign_eq_neg_one_of_neg (by omega)
    have hcn : ¬ y < gk → 0 ≤ ((y : Int) - (gk : Int)).sign := fun h => by
      rcases Int.lt_or_eq_of_le (show 0 ≤ (y : Int) - (gk : Int) by omega) with h1 | h1
      · rw [Int.sign_eq_one_of_pos h1]; omega
      · rw [← h1]; exact Int.le_refl _
    obtain ⟨sg, hsg⟩ : ∃ sg, ((y : Int) - (gk : Int)).sign = sg := ⟨_, rfl⟩
    rw [hsg] at cm hcs hcn
    obtain ⟨rz, hrz⟩ : ∃ r, ((gk + q : Nat) : Int) % 2 = r := ⟨_, rfl⟩
    rw [hrz] at d2
    generalize n % gk = r1 at *
    generalize gk + q = sm at *
    have D1 := Lib.hid d1
    have D2 := Lib.hid d2
    have AD := Lib.hid ad
    have CM := Lib.hid cm
    have HA := Lib.hid ha
    have HE := Lib.hid he
    clear d1 d2 ad cm ha he hq hy hsg hrz
    by_cases hlt : y < gk
    · have := hcs hlt
      subst this
      clear hcs hcn
      go_wp2_with (first
        | (go_at_call_of 12 (Value.string (canon (n : Int))); (with_reducible refine D1.out.mono ?_); rintro e w4 ⟨rfl, q⟩; have B4 := Lib.hid (HB.out.trans (q.mono HB.out.size)); clear q)
        | (go_at_call 16; (with_reducible refine (AD.out _ B4.out).mono ?_); rintro e w5 ⟨rfl, q⟩; have B5 := Lib.hid (B4.out.trans (q.mono B4.out.size)); clear q)
        | (go_at_call 12; (with_reducible refine (D2.out _ B5.out).mono ?_); rintro e w6 ⟨rfl, q⟩; have B6 := Lib.hid (B5.out.trans (q.mono B5.out.size)); clear q)
        | (go_at_call 29; (with_reducible refine (CM.out _ B6.out).mono ?_); rintro e w7 ⟨rfl, q⟩; have B7 := Lib.hid (B6.out.trans (q.mono B6.out.size)); clear q))
      go_roundg y
      case measure => exact hlt
      case rel => exact ⟨rfl, hpz, by omega, B7.out, HA.out⟩
    · have hs0 := hcn hlt
      have HRT : Hid (IsRoot n gk) := ⟨HE.out (by omega), HG.out⟩
      clear hcs hcn
      go_wp2_with (first
        | (go_at_call_of 12 (Value.string (canon (n : Int))); (with_reducible refine D1.out.mono ?_); rintro e w4 ⟨rfl, q⟩; have B4 := Lib.hid (HB.out.trans (q.mono HB.out.size)); clear q)
        | (go_at_call 16; (with_reducible refine (AD.out _ B4.out).mono ?_); rintro e w5 ⟨rfl, q⟩; have B5 := Lib.hid (B4.out.trans (q.mono B4.out.size)); clear q)
        | (go_at_call 12; (with_reducible refine (D2.out _ B5.out).mono ?_); rintro e w6 ⟨rfl, q⟩; have B6 := Lib.hid (B5.out.trans (q.mono B5.out.size)); clear q)
        | (go_at_call 29; (with_reducible refine (CM.out _ B6.out).mono ?_); rintro e w7 ⟨rfl, q⟩; have B7 := Lib.hid (B6.out.trans (q.mono B6.out.size)); clear q))
      go_ret
      exact ⟨⟨gk, HRT.out, rfl⟩, B7.out⟩

end Go.Proofs.YtmkeigfckfkifaaGreatDoor

/- The walk of integer.Power: the power of an integer. -/
namespace Go.Proofs.YtmkeigfckfkifaaGreatDoor
open Go.RowKit

theorem sq_abs (z : Int) : z * z = ((z.natAbs * z.natAbs : Nat) : Int) := by
  rcases Int.lt_or_le z 0 with h | h
  · have e : z = -(z.natAbs : Int) := by omega
    conv => lhs; rw [e]
    rw [Int.neg_mul_neg]; simp
  · have e : z = (z.natAbs : Int) := by omega
    conv => lhs; rw [e]
    simp

theorem pow_even (z : Int) (h : Nat) : z ^ (2 * h) = ((z.natAbs ^ (2 * h) : Nat) : Int) := by
  rw [Int.pow_mul, Nat.pow_mul]
  have e1 : z ^ 2 = z * z := by rw [Int.pow_succ, Int.pow_succ, Int.pow_zero, Int.one_mul]
  have e2 : z.natAbs ^ 2 = z.natAbs * z.natAbs := by rw [Nat.pow_succ, Nat.pow_succ, Nat.pow_zero, Nat.one_mul]
  rw [e1, e2, sq_abs]
  simp

theorem pow_sign (z : Int) (n : Nat) : (if (decide (z < 0) && decide (n % 2 = 1)) = true then -((z.natAbs ^ n : Nat) : Int) else ((z.natAbs ^ n : Nat) : Int)) = z ^ n := by
  rcases Nat.mod_two_eq_zero_or_one n with h | h
  · obtain ⟨m, rfl⟩ : ∃ m, n = 2 * m := ⟨n / 2, by omega⟩
    rw [if_neg (by simp), pow_even]
  · obtain ⟨m, rfl⟩ : ∃ m, n = 2 * m + 1 := ⟨n / 2, by omega⟩
    rw [decide_eq_true h, Bool.and_true, Int.pow_succ, pow_even, Nat.pow_succ]
    generalize z.natAbs ^ (2 * m) = p
    by_cases hz : z < 0
    · rw [if_pos (decide_eq_true hz), Int.natCast_mul, ← Int.mul_neg]
      congr 1
      omega
    · rw [if_neg (by simp [hz]), Int.natCast_mul]
      congr 1
      omega

theorem pow_len (X L j : Nat) (h : X < 10 ^ L) : (lim9 (X ^ j)).length ≤ L * j + 1 := by
  refine lim_len_le 1000000000 (by omega) _ _ ?_
  have h1 : X ^ j ≤ (10 ^ L) ^ j := Nat.pow_le_pow_left (by omega) j
  rw [← Nat.pow_mul] at h1
  have h3 : (10 : Nat) ^ (L * j) ≤ 1000000000 ^ (L * j) := Nat.pow_le_pow_left (by omega) _
  have h4 : (1000000000 : Nat) ^ (L * j) < 1000000000 ^ (L * j + 1) := Nat.pow_lt_pow_right (by omega) (by omega)
  omega

/-- What the rounds of Power keep. -/
def PowR (X n k o y : Nat) : Prop := ∃ e m, o = X ^ e ∧ y = X ^ m ∧ e + k * m = n

theorem powR_start (X n : Nat) : PowR X n n 1 X := ⟨0, 1, by simp, by simp, by simp⟩
theorem powR_odd {X n h o y : Nat} (hp : PowR X n (2 * h + 1) o y) : PowR X n h (o * y) (y * y) := by
  obtain ⟨e, m, rfl, rfl, h3⟩ := hp
  refine ⟨e + m, m + m, (Nat.pow_add ..).symm, (Nat.pow_add ..).symm, ?_⟩
  rw [← h3, Nat.add_mul, Nat.mul_assoc, Nat.mul_add, Nat.two_mul]
  omega
theorem powR_even {X n h o y : Nat} (hp : PowR X n (2 * h) o y) : PowR X n h o (y * y) := by
  obtain ⟨e, m, rfl, rfl, h3⟩ := hp
  refine ⟨e, m + m, rfl, (Nat.pow_add ..).symm, ?_⟩
  rw [← h3, Nat.mul_assoc, Nat.mul_add, Nat.two_mul]
theorem powR_end {X n o y : Nat} (hp : PowR X n 0 o y) : o = X ^ n := by
  obtain ⟨e, m, rfl, rfl, h3⟩ := hp
  rw [Nat.zero_mul, Nat.add_zero] at h3
  rw [h3]
theorem powR_len {X n k o y L : Nat} (hp : PowR X n k o y) (hX : X < 10 ^ L) (hn : L * n ≤ 5000) : (lim9 o).length ≤ 5001 ∧ (0 < k → (lim9 y).length ≤ 5001) := by
  obtain ⟨e, m, rfl, rfl, h3⟩ := hp
  have h1 := pow_len X L e hX
  have h2 := pow_len X L m hX
  have h4 : L * e ≤ L * n := Nat.mul_le_mul_left _ (by omega)
  refine ⟨by omega, fun hk => ?_⟩
  have h5 : m ≤ k * m := Nat.le_mul_of_pos_left m hk
  have h6 : L * m ≤ L * n := Nat.mul_le_mul_left _ (by omega)
  omega

theorem power_neg (z n : Int) (w : World) (hn : n < 0) :
    Calls Tryz.prog 21 #[.string (canon z), .int .i64 n] w fun e w' => e = .returned (.tuple #[.string ⟨#[]⟩, .int .i64 3]) ∧ w = w' := by
  have d1 : decide (n < 0) = true := decide_eq_true hn
  go_enter Tryz.func21, Tryz.ntmps21
  go_wp2
  go_ret2
  exact ⟨rfl, rfl⟩

theorem canon_pos (z : Int) : 0 < (canon z).size := by
  show 0 < (Lib.itoa z).length
  rcases itoa_cases z with ⟨_, e⟩ | ⟨_, e⟩
  · rw [e]
    obtain ⟨_, _, c, l, h3, _⟩ := decDigits_facts z.natAbs
    show 0 < (Lib.decDigits z.natAbs).length
    rw [h3]; simp
  · rw [e]; simp

theorem power_big (z n : Int) (w : World) (h0 : 0 ≤ n) (hn : 5000 / ((canon (z.natAbs : Int)).size : Int) < n) :
    Calls Tryz.prog 21 #[.string (canon z), .int .i64 n] w fun e w' => e = .returned (.tuple #[.string ⟨#[]⟩, .int .i64 4]) ∧ Below w.heap.size w w' := by
  have h1 := abs_any z w
  have hp := canon_pos (z.natAbs : Int)
  generalize canon (z.natAbs : Int) = S at *
  have d1 : decide (n < 0) = false := decide_eq_false (by omega)
  have d2 : ((S.size : Int) == 0) = false := beq_eq_false_iff_ne.2 (by omega)
  have d3 : decide (5000 / (S.size : Int) < n) = true := decide_eq_true hn
  have H1 := Lib.hid h1
  clear h1
  go_enter Tryz.func21, Tryz.ntmps21
  go_wp2_with (go_at_call 32; (with_reducible refine H1.out.mono ?_); rintro e w1 ⟨rfl, q⟩; have B1 := Lib.hid q; clear q)
  go_ret2
  exact ⟨rfl, B1.out⟩

set_option maxRecDepth 100000 in
set_option maxHeartbeats 4000000 in
theorem power_ok (z : Int) (n : Nat) (w : World) (ht : Pow10 w) (hs : (canon z).size ≤ 1000) (hn5 : n ≤ 5000) (hn : n ≤ 5000 / (canon (z.natAbs : Int)).size) :
    Calls Tryz.prog 21 #[.string (canon z), .int .i64 n] w fun e w' => e = .returned (.tuple #[.string (canon (z ^ n)), .int .i64 0]) ∧ Below w.heap.size w w' := by
  have h1 := abs_any z w
  have hp := canon_pos (z.natAbs : Int)
  have o1 := fun W => open_any z W (Nat.le_trans (mag_le z 1000 hs) (by omega))
  have hps := pow_sign z n
  have hX := itoa_len_small (z := (z.natAbs : Int)) (k := (canon (z.natAbs : Int)).size) (Nat.le_refl _)
  rw [Int.natAbs_natCast] at hX
  have hml := (Nat.le_div_iff_mul_le hp).1 hn
  rw [Nat.mul_comm] at hml
  generalize z ^ n = zn at *
  generalize canon (z.natAbs : Int) = S at *
  have d1 : decide ((n : Int) < 0) = false := decide_eq_false (by omega)
  have d2 : ((S.size : Int) == 0) = false := beq_eq_false_iff_ne.2 (by omega)
  have d3 : decide (5000 / (S.size : Int) < (n : Int)) = false := by
    refine decide_eq_false (fun h => ?_)
    have e : (5000 : Int) / (S.size : Int) = ((5000 / S.size : Nat) : Int) := by simp
    rw [e] at h
    omega
  generalize z.natAbs = X at *
  generalize decide (z < 0) = s at *
  have hlen := fun k o y (h : PowR X n k o y) => powR_len h hX hml
  have H1 := Lib.hid h1
  have O1 := Lib.hid o1
  have HPS := Lib.hid hps
  have HLEN := Lib.hid hlen
  have HT := Lib.hid ht
  clear h1 o1 hps hlen ht hX hml hn hs
  go_enter Tryz.func21, Tryz.ntmps21
  go_upto_region 7 with (first
    | (go_at_call 32; (with_reducible refine H1.out.mono ?_); rintro e w1 ⟨rfl, q⟩; have B1 := Lib.hid q; clear q)
    | (go_at_call 36; (with_reducible refine (O1.out _).mono ?_); rintro e w2 ⟨A1, c1, rfl, s1, q⟩; have S1 := Lib.hid s1; have Q2 := Lib.hid q; clear q s1))
  have ba : Below w1.heap.size w1 (w1.alloc (.cells #[.int .u64 1] 56)) := (Below.refl _ _).alloc (Nat.le_refl _) _
  have za : (w1.alloc (.cells #[.int .u64 1] 56)).heap.size = w1.heap.size + 1 := World.size_alloc ..
  have so : Sl (w1.alloc (.cells #[.int .u64 1] 56)) .u64 (some ⟨w1.heap.size, 0, none⟩) 1 (lim9 1) := by
    rw [lim9_unit]
    exact sl_one (by rw [Lib.cell_of_heap (heap_alloc_new w1 _)]; rfl) (by rw [za]; omega)
  have so2 := so.below Q2.out
  have b2 : Below w.heap.size w w2 := (B1.out.trans (ba.mono B1.out.size)).trans (Q2.out.mono (Nat.le_trans B1.out.size (by rw [za]; omega)))
  obtain ⟨g, hg⟩ : ∃ g, w2.heap.size = g := ⟨_, rfl⟩
  have hb := heap_alloc_new w2 (Obj.cells #[Value.bool s, Value.slice A1 (lim9 X).length c1] 51)
  have bb : Below w2.heap.size w2 (w2.alloc (Obj.cells #[Value.bool s, Value.slice A1 (lim9 X).length c1] 51)) := (Below.refl _ _).alloc (Nat.le_refl _) _
  have b3 := b2.trans (bb.mono b2.size)
  have so3 := so2.below bb
  have s13 := S1.out.below bb
  have hwg : w.heap.size ≤ g := by rw [← hg]; exact b2.size
  have hgs : g < (w2.alloc (Obj.cells #[Value.bool s, Value.slice A1 (lim9 X).length c1] 51)).heap.size := by rw [World.size_alloc, hg]; omega
  rw [hg] at hb ⊢
  generalize w2.alloc (Obj.cells #[Value.bool s, Value.slice A1 (lim9 X).length c1] 51) = W3 at *
  have k1 : W3.cell? ⟨g, 1, none⟩ = some (.slice A1 (lim9 X).length c1) := by rw [Lib.cell_of_heap hb]; rfl
  have SO := Lib.hid so3
  have SX := Lib.hid s13
  have B3 := Lib.hid b3
  have HBX := Lib.hid hb
  clear ba za so so2 so3 b2 hg hb bb b3 s13 B1 S1 Q2 H1 O1
  go_quiet (fail)
  go_wp2
  go_loopw [6, 8, 9] (fun ov kv bv wr => ∃ (k o y : Nat) (Ao : Option Addr) (co : Nat) (Ab : Option Addr) (cb : Nat), kv = .int .i64 k ∧ k ≤ n ∧ ov = .slice Ao (lim9 o).length co ∧ bv = .slice Ab (lim9 y).length cb ∧ Sl wr .u64 Ao co (lim9 o) ∧ Sl wr .u64 Ab cb (lim9 y) ∧ Below w.heap.size w wr ∧ g < wr.heap.size ∧ wr.heap[g]? = some (.cells #[.bool s, .slice A1 (lim9 X).length c1] 51 (0, 0)) ∧ Hid (PowR X n k o y)) (fun _ kv _ _ => (intOf kv).toNat)
  case atStart => exact ⟨n, 1, X, _, _, A1, c1, rfl, Nat.le_refl _, by rw [lim9_unit]; rfl, rfl, SO.out.drewN _, SX.out.drewN _, B3.out.trans ((Drew.of _ _).below _), hgs, HBX.out, powR_start X n⟩
  case round =>
    clear SO SX B3 HBX k1 hgs
    obtain ⟨k, o, y, Ao, co, Ab, cb, rfl, hkn, rfl, rfl, hso, hsb, hbl, hgw, hbox, HP⟩ := hrel
    have HSO := Lib.hid hso
    have HSB := Lib.hid hsb
    have HB := Lib.hid hbl
    have HBOX := Lib.hid hbox
    have hbs := hbl.size
    clear hso hsb hbl hbox
    obtain ⟨lo, ly⟩ := HLEN.out k o y HP.out
    rcases Nat.eq_zero_or_pos k with h0 | hpos
    · subst h0
      have ho := powR_end HP.out
      have c0 : wr.cell? ⟨g, 0, none⟩ = some (.bool s) := by rw [Lib.cell_of_heap HBOX.out]; rfl
      have cl := fun mm => close_any mm Ao co o wr HSO.out (by omega) (HT.out.below HB.out)
      have hps := HPS.out
      rw [← ho] at hps
      have CL := Lib.hid cl
      clear cl ho ly HP
      cases s with
      | false =>
        have cl := CL.out false
        rw [if_neg (by simp)] at hps cl
        rw [hps] at cl
        have CLF := Lib.hid cl
        clear cl hps CL
        go_wp2_with (go_at_call 40; (with_reducible refine CLF.out.mono ?_); rintro e w4 ⟨rfl, q⟩; have B4 := Lib.hid (HB.out.trans (q.mono hbs)); clear q)
        go_ret2
        exact ⟨rfl, B4.out⟩
      | true =>
        rcases Nat.mod_two_eq_zero_or_one n with hm | hm
        · have hmi : (n : Int) % 2 = 0 := by omega
          have cl := CL.out false
          rw [decide_eq_false (by omega), if_neg (by simp)] at hps
          rw [if_neg (by simp), hps] at cl
          have CLF := Lib.hid cl
          clear cl hps CL hm
          go_wp2_with (go_at_call 40; (with_reducible refine CLF.out.mono ?_); rintro e w4 ⟨rfl, q⟩; have B4 := Lib.hid (HB.out.trans (q.mono hbs)); clear q)
          go_ret2
          exact ⟨rfl, B4.out⟩
        · have hmi : (n : Int) % 2 = 1 := by omega
          have cl := CL.out true
          rw [decide_eq_true hm, if_pos (by simp)] at hps
          rw [if_pos rfl, hps] at cl
          have CLF := Lib.hid cl
          clear cl hps CL hm
          go_wp2_with (go_at_call 40; (with_reducible refine CLF.out.mono ?_); rintro e w4 ⟨rfl, q⟩; have B4 := Lib.hid (HB.out.trans (q.mono hbs)); clear q)
          go_ret2
          exact ⟨rfl, B4.out⟩
    · have ly5 := ly hpos
      have tq := fun W (h1 : Below wr.heap.size wr W) => times_any Ab Ab cb cb y y W (HSB.out.below h1) (HSB.out.below h1) (by omega) (by omega)
      have TQ := Lib.hid tq
      clear tq ly
      rcases Nat.mod_two_eq_zero_or_one k with hm | hm
      · obtain ⟨h, hh⟩ : ∃ h, k = 2 * h := ⟨k / 2, by omega⟩
        have hmi : (k : Int) % 2 = 0 := by omega
        have hdi : (k : Int) / 2 = (h : Int) := by omega
        have hlt : h < k := by omega
        have HN : Hid (PowR X n h o (y * y)) := by rw [hh] at HP; exact powR_even HP.out
        clear hm hh HP
        generalize y * y = y2 at *
        go_wp2_with (go_at_call 54; (with_reducible refine (TQ.out _ (Below.refl _ _)).mono ?_); rintro e w5 ⟨A5, c5, rfl, s5, q⟩; have S5 := Lib.hid s5; have Q5 := Lib.hid q; clear s5 q)
        go_roundw
        case rel => exact ⟨h, o, y2, Ao, co, A5, c5, rfl, by omega, rfl, rfl, HSO.out.below Q5.out, S5.out, HB.out.trans (Q5.out.mono hbs), Nat.lt_of_lt_of_le hgw Q5.out.size, (Q5.out.block g hgw).trans HBOX.out, HN⟩
        case measure => simp [intOf]; omega
      · obtain ⟨h, hh⟩ : ∃ h, k = 2 * h + 1 := ⟨k / 2, by omega⟩
        have hmi : (k : Int) % 2 = 1 := by omega
        have hdi : (k : Int) / 2 = (h : Int) := by omega
        have hlt : h < k := by omega
        have HN : Hid (PowR X n h (o * y) (y * y)) := by rw [hh] at HP; exact powR_odd HP.out
        have tp := times_any Ao Ab co cb o y wr HSO.out HSB.out (by omega) (by omega)
        have TP := Lib.hid tp
        clear hm hh HP tp
        generalize y * y = y2 at *
        generalize o * y = o2 at *
        go_wp2_with (first
          | (go_at_call_of 54 (Value.slice Ao (lim9 o).length co); (with_reducible refine TP.out.mono ?_); rintro e w4 ⟨A4, c4, rfl, s4, q⟩; have S4 := Lib.hid s4; have Q4 := Lib.hid q; clear s4 q)
          | (go_at_call 54; (with_reducible refine (TQ.out _ Q4.out).mono ?_); rintro e w5 ⟨A5, c5, rfl, s5, q⟩; have S5 := Lib.hid s5; have Q5 := Lib.hid (Q4.out.trans (q.mono Q4.out.size)); have S4' := Lib.hid (S4.out.below q); clear s5 q))
        go_roundw
        case rel => exact ⟨h, o2, y2, A4, c4, A5, c5, rfl, by omega, rfl, rfl, S4'.out, S5.out, HB.out.trans (Q5.out.mono hbs), Nat.lt_of_lt_of_le hgw Q5.out.size, (Q5.out.block g hgw).trans HBOX.out, HN⟩
        case measure => simp [intOf]; omega

end Go.Proofs.YtmkeigfckfkifaaGreatDoor
