/- The walks of the reference on integers; Sub, Compare, Power. -/
import Derived.Test.YtnallacamijkeaaGreatDoorGRefA
import Derived.Test.YtnallacamijkeaaGreatDoorGInt
import Derived.Test.YtnallacamijkeaaGreatDoorGText
/- The walk of klipperef01.Mul: the product of two integers. -/
namespace Go.Proofs.YtnallacamijkeaaGreatDoor
set_option linter.all false
open Go.RowKit

theorem ofR_any (n : Int) (h0 : -9223372036854775808 ≤ n) (h1 : n ≤ 9223372036854775807) (w : World) (ht : Pow10 w) :
  Calls Tryz.prog 18 #[.int .i64 n] w fun e w' => e = .returned (.string (canon n)) ∧ Below w.heap.size w w' := by
 have hi := itoa_any n h0 h1 w ht
 have HI := Lib.hid hi
 clear hi h0 h1
 go_enter Tryz.func18, Tryz.ntmps18
 go_wp2_with (go_at_call 50; refine HI.out.mono ?_; rintro e w' ⟨rfl, h1⟩; have H1 := Lib.hid h1; clear h1)
 go_ret
 exact ⟨rfl, H1.out⟩

theorem takeR_mag (z : Int) (w : World) (hs : (mag z).size ≤ 100000) :
  Calls Tryz.prog 69 #[.string (mag z)] w fun e w' => ∃ A c, e = .returned (.slice A (lim4 z.natAbs).length c) ∧ Sl w' .i64 A c (lim4 z.natAbs) ∧ Below w.heap.size w w' := by
 have h := take_any (mag z) w (mdig_all z) hs
 rw [show dval (mag z).data.toList = z.natAbs from mdig_val z] at h
 exact h

theorem lim4_len_digits (z : Int) (n : Nat) (h : (canon z).size ≤ n) : (lim4 z.natAbs).length ≤ n := by
 have h1 := itoa_len_small (z := z) (k := n) h
 refine lim_len_le 10000 (by omega) _ _ ?_
 exact Nat.lt_of_lt_of_le h1 (Nat.pow_le_pow_left (by omega) n)

theorem lim4_mul_len (x y M : Nat) (hx : (lim4 x).length ≤ M) (hy : (lim4 y).length ≤ M) : (lim4 (x * y)).length ≤ M + M := by
 have h1 : x < 10000 ^ (lim4 x).length := lim_lt_pow 10000 (by omega) x
 have h2 : y < 10000 ^ (lim4 y).length := lim_lt_pow 10000 (by omega) y
 have h3 : (10000 : Nat) ^ (lim4 x).length ≤ 10000 ^ M := Nat.pow_le_pow_right (by omega) hx
 have h4 : (10000 : Nat) ^ (lim4 y).length ≤ 10000 ^ M := Nat.pow_le_pow_right (by omega) hy
 refine lim_len_le 10000 (by omega) _ _ ?_
 rw [Nat.pow_add]
 exact Nat.mul_lt_mul'' (by omega) (by omega)

theorem chain2 {w W w3 w4 : World} (h0 : Below w.heap.size w W) (h1 : Below W.heap.size W w3) (h2 : Below w3.heap.size w3 w4) : Below w.heap.size w w4 :=
 (h0.trans (h1.mono h0.size)).trans (h2.mono (h0.trans (h1.mono h0.size)).size)
theorem chain3 {w W w3 w4 w5 : World} (h0 : Below w.heap.size w W) (h1 : Below W.heap.size W w3) (h2 : Below w3.heap.size w3 w4) (h3 : Below w4.heap.size w4 w5) : Below w.heap.size w w5 :=
 (chain2 h0 h1 h2).trans (h3.mono (chain2 h0 h1 h2).size)
theorem drew2 (w : World) (n m : Nat) : Below w.heap.size w ((w.drewN n).drewN m) := ((Drew.of _ _).below _).trans ((Drew.of _ _).below _)

set_option maxRecDepth 100000 in
set_option maxHeartbeats 2000000 in
theorem mulR_any (a b : Int) (w : World) (ht : Pow10 w) (ha : (canon a).size ≤ 10000) (hb : (canon b).size ≤ 10000) :
  Calls Tryz.prog 34 #[.string (canon a), .string (canon b)] w fun e w' => e = .returned (.string (canon (a * b))) ∧ Below w.heap.size w w' := by
 have p1 := fun W => splitR_canon a W (by omega)
 have p2 := fun W => splitR_canon b W (by omega)
 have hma := mag_le a 10000 ha
 have hmb := mag_le b 10000 hb
 have P1 := Lib.hid p1
 have P2 := Lib.hid p2
 clear p1 p2
 rcases Nat.lt_or_ge 18 ((mag a).size + (mag b).size) with hq | hq
 ·have d1 : decide (((mag a).size : Int) + ((mag b).size : Int) ≤ 18) = false := by simp; omega
  have t1 := fun W => takeR_mag a W (by omega)
  have t2 := fun W => takeR_mag b W (by omega)
  have hla := lim4_len_digits a 10000 ha
  have hlb := lim4_len_digits b 10000 hb
  have hms := mul_sign a b
  have hlm := lim4_mul_len a.natAbs b.natAbs 10000 hla hlb
  have P1' := P1.out
  have P2' := P2.out
  generalize decide (a < 0) = sa at *
  generalize decide (b < 0) = sb at *
  generalize a.natAbs = x at *
  generalize b.natAbs = y at *
  have tm := fun A1 c1 A2 c2 W h1 h2 => timesR_any A1 A2 c1 c2 x y W h1 h2 (by omega) (by omega)
  have md := fun A c W (h1 : Sl W .i64 A c (lim4 (x * y))) (h2 : Below w.heap.size w W) => made_any (sa != sb) A c (x * y) W h1 (by omega) (ht.below h2)
  rw [hms] at md
  have P1 := Lib.hid P1'
  have P2 := Lib.hid P2'
  have T1 := Lib.hid t1
  have T2 := Lib.hid t2
  have TM := Lib.hid tm
  have MD := Lib.hid md
  clear P1' P2' t1 t2 tm md hms ht ha hb hq
  go_enter Tryz.func34, Tryz.ntmps34
  go_wp2_with (first
   | (go_at_call_of 68 (Value.string (canon a)); refine (P1.out _).mono ?_; rintro e w1 ⟨rfl, nd1, rfl⟩)
   | (go_at_call_of 68 (Value.string (canon b)); refine (P2.out _).mono ?_; rintro e w2 ⟨rfl, nd2, rfl⟩)
   | (go_at_call_of 69 (Value.string (mag a)); refine (T1.out _).mono ?_; rintro e w3 ⟨A1, c1, rfl, s1, b1⟩; have S1 := Lib.hid s1; have B1 := Lib.hid b1; clear s1 b1)
   | (go_at_call_of 69 (Value.string (mag b)); refine (T2.out _).mono ?_; rintro e w4 ⟨A2, c2, rfl, s2, b2⟩; have S2 := Lib.hid s2; have S1' := Lib.hid (S1.out.below b2); have B2 := Lib.hid b2; clear s2 b2)
   | (go_at_call 74; refine (TM.out _ _ _ _ _ S1'.out S2.out).mono ?_; rintro e w5 ⟨A5, c5, rfl, s5, b5⟩; have S5 := Lib.hid s5; have B5 := Lib.hid b5; clear s5 b5)
   | (go_at_call 70; refine (MD.out _ _ _ S5.out (chain3 (by first | exact (Drew.of _ _).below _ | exact drew2 _ _ _) B1.out B2.out B5.out)).mono ?_; rintro e w6 ⟨rfl, b6⟩; have B6 := Lib.hid b6; clear b6)
   | fail "arm")
  go_ret
  exact ⟨rfl, (chain3 (by first | exact (Drew.of _ _).below _ | exact drew2 _ _ _) B1.out B2.out B5.out).trans (B6.out.mono (chain3 (by first | exact (Drew.of _ _).below _ | exact drew2 _ _ _) B1.out B2.out B5.out).size)⟩
 ·have d1 : ((mag a).size : Int) + ((mag b).size : Int) ≤ 18 := by omega
  have s1 := fun W => smallR_small a W (by omega)
  have s2 := fun W => smallR_small b W (by omega)
  have hmm : (a * b).natAbs < 1000000000000000000 := by
   have h1 : a.natAbs < 10 ^ (mag a).size := by
    have := dval_lt (mdig_all a)
    rw [mdig_val] at this
    exact this
   have h2 : b.natAbs < 10 ^ (mag b).size := by
    have := dval_lt (mdig_all b)
    rw [mdig_val] at this
    exact this
   have h3 := Nat.mul_lt_mul'' h1 h2
   rw [← Nat.pow_add] at h3
   have h4 : (10 : Nat) ^ ((mag a).size + (mag b).size) ≤ 10 ^ 18 := Nat.pow_le_pow_right (by omega) (by omega)
   rw [Int.natAbs_mul]
   omega
  have hm1 : -1000000000000000000 ≤ a * b := by omega
  have hm2 : a * b ≤ 1000000000000000000 := by omega
  have ho := fun W (hW : Below w.heap.size w W) => ofR_any (a * b) (by omega) (by omega) W (ht.below hW)
  have S1 := Lib.hid s1
  have S2 := Lib.hid s2
  have HO := Lib.hid ho
  clear s1 s2 ho hmm ht ha hb hma hmb
  go_enter Tryz.func34, Tryz.ntmps34
  go_wp2_with (first
   | (go_at_call_of 68 (Value.string (canon a)); refine (P1.out _).mono ?_; rintro e w1 ⟨rfl, nd1, rfl⟩)
   | (go_at_call_of 68 (Value.string (canon b)); refine (P2.out _).mono ?_; rintro e w2 ⟨rfl, nd2, rfl⟩)
   | (go_at_call_of 73 (Value.string (canon a)); refine (S1.out _).mono ?_; rintro e w3 ⟨rfl, b1⟩; have B1 := Lib.hid b1; clear b1)
   | (go_at_call_of 73 (Value.string (canon b)); refine (S2.out _).mono ?_; rintro e w4 ⟨rfl, b2⟩; have B2 := Lib.hid b2; clear b2)
   | (go_at_call 18; refine (HO.out _ (chain2 (by first | exact (Drew.of _ _).below _ | exact drew2 _ _ _) B1.out B2.out)).mono ?_; rintro e w5 ⟨rfl, b5⟩; have B5 := Lib.hid b5; clear b5)
   | fail "arm")
  go_ret
  exact ⟨rfl, (chain2 (by first | exact (Drew.of _ _).below _ | exact drew2 _ _ _) B1.out B2.out).trans (B5.out.mono (chain2 (by first | exact (Drew.of _ _).below _ | exact drew2 _ _ _) B1.out B2.out).size)⟩

end Go.Proofs.YtnallacamijkeaaGreatDoor

/- The walks of integer.Neg and Abs. -/
namespace Go.Proofs.YtnallacamijkeaaGreatDoor
open Go.RowKit

set_option maxHeartbeats 1000000 in
theorem neg_any (z : Int) (w : World) (hs : (canon z).size ≤ 100000) :
  Calls Tryz.prog 63 #[.string (canon z)] w fun e w' => e = .returned (.string (canon (-z))) ∧ Below w.heap.size w w' := by
 have h := fun W => sign_any z W
 rcases Int.lt_trichotomy z 0 with hz | hz | hz
 ·rw [Int.sign_eq_neg_one_of_neg hz] at h
  have H := Lib.hid h
  have hd : (canon z).data.toList = 45 :: mdig z := by rw [canon_neg_eq z hz]
  have h0 : 1 ≤ (canon z).size := by rw [Lib.size_eq, hd]; simp
  have HE : Hid (canon (-z) = (canon z).extract 1 (canon z).size) := ba_ext (by
   rw [Lib.extract_to_end, hd, canon_nn_eq (-z) (by omega)]
   show mdig (-z) = _
   unfold mdig
   rw [Int.natAbs_neg]; rfl)
  clear h hd hz
  go_enter Tryz.func63, Tryz.ntmps63
  go_wp2_with (go_at_call 89; refine (H.out _).mono ?_; rintro e w' ⟨rfl, rfl⟩)
  go_ret
  rw [HE.out]
  exact ⟨rfl, Below.refl _ _⟩
 ·subst hz
  rw [show (0 : Int).sign = 0 from rfl] at h
  have H := Lib.hid h
  clear h
  go_enter Tryz.func63, Tryz.ntmps63
  go_wp2_with (go_at_call 89; refine (H.out _).mono ?_; rintro e w' ⟨rfl, rfl⟩)
  go_ret
  exact ⟨rfl, Below.refl _ _⟩
 ·rw [Int.sign_eq_one_of_pos hz] at h
  have H := Lib.hid h
  have HE : Hid (canon (-z) = (⟨#[45]⟩ : ByteArray) ++ canon z) := by
   rw [canon_neg_eq (-z) (by omega), minus_app]
   show (⟨(45 :: mdig (-z)).toArray⟩ : ByteArray) = _
   rw [canon_nn_eq z (by omega)]
   unfold mdig mag mdig
   rw [Int.natAbs_neg]
  clear h hz
  go_enter Tryz.func63, Tryz.ntmps63
  go_wp2_with (go_at_call 89; refine (H.out _).mono ?_; rintro e w' ⟨rfl, rfl⟩)
  go_ret
  rw [HE.out]
  exact ⟨rfl, Below.refl _ _⟩

theorem canon_neg_size (z : Int) (n : Nat) (h : (canon z).size ≤ n) : (canon (-z)).size ≤ n + 1 := by
 have h1 := mag_le z n h
 have h2 : (mag (-z)).size = (mag z).size := by
  show (mdig (-z)).length = (mdig z).length
  unfold mdig
  rw [Int.natAbs_neg]
 show (Lib.itoa (-z)).length ≤ n + 1
 have h3 : (mdig (-z)).length ≤ n := by
  have : (mag (-z)).size = (mdig (-z)).length := rfl
  omega
 rcases itoa_cases (-z) with ⟨_, e⟩ | ⟨_, e⟩
 ·rw [e]; omega
 ·rw [e, List.length_cons]; omega

end Go.Proofs.YtnallacamijkeaaGreatDoor

/- The walk of integer.Compare. -/
namespace Go.Proofs.YtnallacamijkeaaGreatDoor
open Go.RowKit

def cmpD (a b : Int) : Int := if (mdig a).length < (mdig b).length then -1 else if (mdig b).length < (mdig a).length then 1 else Lib.compareBytes (mdig a) (mdig b)

theorem cmpD_abs (a b : Int) : cmpD a b = if a.natAbs < b.natAbs then -1 else if b.natAbs < a.natAbs then 1 else 0 := by
 have key : ∀ x y : Nat, (Lib.decDigits x).length < (Lib.decDigits y).length → x < y := fun x y h => by
  rcases Nat.lt_or_ge x y with h1 | h1
  ·exact h1
  ·have := decDigits_len_mono h1; omega
 unfold cmpD
 by_cases h1 : (mdig a).length < (mdig b).length
 ·rw [if_pos h1, if_pos (key _ _ h1)]
 ·rw [if_neg h1]
  by_cases h2 : (mdig b).length < (mdig a).length
  ·have h3 := key _ _ h2
   rw [if_pos h2, if_neg (by omega), if_pos h3]
  ·rw [if_neg h2, compare_digits _ _ (by omega) (mdig_all a) (mdig_all b), mdig_val, mdig_val]

theorem cmp_same (a b s : Int) (ha : a.sign = s) (hb : b.sign = s) : (a - b).sign = s * cmpD a b := by
 rw [cmpD_abs]
 rcases Int.lt_trichotomy a 0 with h | h | h
 ·have h1 := Int.sign_eq_neg_one_of_neg h
  have h2 : b < 0 := Int.neg_of_sign_eq_neg_one (by omega)
  have e : s = -1 := by omega
  subst e
  by_cases h3 : a.natAbs < b.natAbs
  ·rw [if_pos h3, Int.sign_eq_one_of_pos (by omega)]; rfl
  ·rw [if_neg h3]
   by_cases h4 : b.natAbs < a.natAbs
   ·rw [if_pos h4, Int.sign_eq_neg_one_of_neg (by omega)]; rfl
   ·rw [if_neg h4, show a - b = 0 by omega]; rfl
 ·subst h
  have e : s = 0 := by rw [← ha]; rfl
  subst e
  have h2 : b = 0 := Int.eq_zero_of_sign_eq_zero hb
  subst h2
  simp
 ·have h1 := Int.sign_eq_one_of_pos h
  have h2 : 0 < b := Int.pos_of_sign_eq_one (by omega)
  have e : s = 1 := by omega
  subst e
  by_cases h3 : a.natAbs < b.natAbs
  ·rw [if_pos h3, Int.sign_eq_neg_one_of_neg (by omega)]; rfl
  ·rw [if_neg h3]
   by_cases h4 : b.natAbs < a.natAbs
   ·rw [if_pos h4, Int.sign_eq_one_of_pos (by omega)]; rfl
   ·rw [if_neg h4, show a - b = 0 by omega]; rfl

theorem cmp_lt (a b : Int) (h : a.sign < b.sign) : (a - b).sign = -1 := by
 have key : a < b := by
  rcases Int.lt_trichotomy a 0 with h1 | h1 | h1 <;> rcases Int.lt_trichotomy b 0 with h2 | h2 | h2
  ·rw [Int.sign_eq_neg_one_of_neg h1, Int.sign_eq_neg_one_of_neg h2] at h; omega
  ·omega
  ·omega
  ·rw [h1, Int.sign_eq_neg_one_of_neg h2] at h; simp at h
  ·rw [h1, h2] at h; omega
  ·omega
  ·rw [Int.sign_eq_one_of_pos h1, Int.sign_eq_neg_one_of_neg h2] at h; omega
  ·rw [Int.sign_eq_one_of_pos h1, h2] at h; simp at h
  ·rw [Int.sign_eq_one_of_pos h1, Int.sign_eq_one_of_pos h2] at h; omega
 exact Int.sign_eq_neg_one_of_neg (by omega)

theorem cmp_gt (a b : Int) (h : b.sign < a.sign) : (a - b).sign = 1 := by
 have h1 := cmp_lt b a h
 have h2 : a - b = -(b - a) := by omega
 rw [h2, Int.sign_neg, h1]; rfl

theorem sign_range (z : Int) : z.sign = -1 ∨ z.sign = 0 ∨ z.sign = 1 := by
 rcases Int.lt_trichotomy z 0 with h | h | h
 ·exact .inl (Int.sign_eq_neg_one_of_neg h)
 ·exact .inr (.inl (by rw [h]; rfl))
 ·exact .inr (.inr (Int.sign_eq_one_of_pos h))

theorem cmpD_range (a b : Int) : cmpD a b = -1 ∨ cmpD a b = 0 ∨ cmpD a b = 1 := by
 rw [cmpD_abs]
 split
 ·exact .inl rfl
 ·split
  ·exact .inr (.inr rfl)
  ·exact .inr (.inl rfl)

set_option maxHeartbeats 2000000 in
theorem compare_any (a b : Int) (w : World) :
  Calls Tryz.prog 58 #[.string (canon a), .string (canon b)] w fun e w' => e = .returned (.int .i64 (a - b).sign) ∧ w = w' := by
 have h1 := fun W => sign_any a W
 have h2 := fun W => sign_any b W
 have h3 := fun W => trimMinus a W
 have h4 := fun W => trimMinus b W
 obtain ⟨s, hs⟩ : ∃ s, a.sign = s := ⟨_, rfl⟩
 obtain ⟨t, ht⟩ : ∃ t, b.sign = t := ⟨_, rfl⟩
 obtain ⟨r, hr⟩ : ∃ r, (a - b).sign = r := ⟨_, rfl⟩
 have rs : s = -1 ∨ s = 0 ∨ s = 1 := hs ▸ sign_range a
 have rt : t = -1 ∨ t = 0 ∨ t = 1 := ht ▸ sign_range b
 rw [hs] at h1
 rw [ht] at h2
 rw [hr]
 have H1 := Lib.hid h1
 have H2 := Lib.hid h2
 have H3 := Lib.hid h3
 have H4 := Lib.hid h4
 clear h1 h2 h3 h4
 by_cases he : s = t
 ·subst he
  have hc := cmp_same a b s hs ht
  rw [hr] at hc
  have rd := cmpD_range a b
  have hl : ∀ W, Calls Tryz.prog 91 #[.string (mag a), .string (mag b)] W fun e w' => e = .returned (.int .i64 (Lib.compareBytes (mdig a) (mdig b))) ∧ W = w' := fun W => (Tryz.strings_Compare (mag a) (mag b) W).mono fun e w' h => ⟨h.1, h.2.symm⟩
  by_cases l1 : (mdig a).length < (mdig b).length
  ·have e1 : cmpD a b = -1 := by unfold cmpD; rw [if_pos l1]
   have n1 : (mag a).size < (mag b).size := l1
   rw [e1] at hc
   have e2 : r = -s := by omega
   subst e2
   clear hc hl rd e1 l1 hs ht hr rt
   go_enter Tryz.func58, Tryz.ntmps58
   go_wp2_with (first
    | (go_at_call_of 89 (Value.string (canon a)); refine (H1.out _).mono ?_; rintro e w' ⟨rfl, rfl⟩)
    | (go_at_call_of 89 (Value.string (canon b)); refine (H2.out _).mono ?_; rintro e w' ⟨rfl, rfl⟩)
    | (go_at_call_of 90 (Value.string (canon a)); refine (H3.out _).mono ?_; rintro e w' ⟨rfl, rfl⟩)
    | (go_at_call_of 90 (Value.string (canon b)); refine (H4.out _).mono ?_; rintro e w' ⟨rfl, rfl⟩))
   go_ret
   exact ⟨rfl, rfl⟩
  ·by_cases l2 : (mdig b).length < (mdig a).length
   ·have e1 : cmpD a b = 1 := by unfold cmpD; rw [if_neg l1, if_pos l2]
    have n1 : decide (((mag a).size : Int) < ((mag b).size : Int)) = false := decide_eq_false (by
     have : (mag a).size = (mdig a).length := rfl
     have : (mag b).size = (mdig b).length := rfl
     omega)
    have n3 : decide ((mag a).size < (mag b).size) = false := decide_eq_false l1
    have n2 : (mag a).size ≠ (mag b).size := fun h => by
     have : (mag a).size = (mdig a).length := rfl
     have : (mag b).size = (mdig b).length := rfl
     omega
    rw [e1] at hc
    have e2 : r = s := by omega
    subst e2
    clear hc hl rd e1 l1 l2 hs ht hr rt
    go_enter Tryz.func58, Tryz.ntmps58
    go_wp2_with (first
     | (go_at_call_of 89 (Value.string (canon a)); refine (H1.out _).mono ?_; rintro e w' ⟨rfl, rfl⟩)
     | (go_at_call_of 89 (Value.string (canon b)); refine (H2.out _).mono ?_; rintro e w' ⟨rfl, rfl⟩)
     | (go_at_call_of 90 (Value.string (canon a)); refine (H3.out _).mono ?_; rintro e w' ⟨rfl, rfl⟩)
     | (go_at_call_of 90 (Value.string (canon b)); refine (H4.out _).mono ?_; rintro e w' ⟨rfl, rfl⟩))
    go_ret
    exact ⟨rfl, rfl⟩
   ·have e1 : cmpD a b = Lib.compareBytes (mdig a) (mdig b) := by unfold cmpD; rw [if_neg l1, if_neg l2]
    have n1 : (mag a).size = (mag b).size := by
     have : (mag a).size = (mdig a).length := rfl
     have : (mag b).size = (mdig b).length := rfl
     omega
    rw [← e1] at hl
    generalize cmpD a b = d at hl hc rd
    have HL := Lib.hid hl
    have HE := Lib.hid hc
    clear hl hc e1 l1 l2 hs ht hr rt
    go_enter Tryz.func58, Tryz.ntmps58
    go_wp2_with (first
     | (go_at_call_of 89 (Value.string (canon a)); refine (H1.out _).mono ?_; rintro e w' ⟨rfl, rfl⟩)
     | (go_at_call_of 89 (Value.string (canon b)); refine (H2.out _).mono ?_; rintro e w' ⟨rfl, rfl⟩)
     | (go_at_call_of 90 (Value.string (canon a)); refine (H3.out _).mono ?_; rintro e w' ⟨rfl, rfl⟩)
     | (go_at_call_of 90 (Value.string (canon b)); refine (H4.out _).mono ?_; rintro e w' ⟨rfl, rfl⟩)
     | (go_at_call 91; refine (HL.out _).mono ?_; rintro e w' ⟨rfl, rfl⟩))
    go_ret
    refine ⟨?_, rfl⟩
    show Ending.returned (.int .i64 (wrap64 (s * d))) = _
    rw [HE.out]
    rcases rs with rfl | rfl | rfl <;> rcases rd with rfl | rfl | rfl <;> kernel_rfl
 ·have hne : s ≠ t := he
  by_cases hlt : s < t
  ·have e2 : r = -1 := by rw [← hr]; exact cmp_lt a b (by rw [hs, ht]; exact hlt)
   subst e2
   clear hs ht hr he
   go_enter Tryz.func58, Tryz.ntmps58
   go_wp2_with (first
    | (go_at_call_of 89 (Value.string (canon a)); refine (H1.out _).mono ?_; rintro e w' ⟨rfl, rfl⟩)
    | (go_at_call_of 89 (Value.string (canon b)); refine (H2.out _).mono ?_; rintro e w' ⟨rfl, rfl⟩))
   go_ret
   exact ⟨rfl, rfl⟩
  ·have e2 : r = 1 := by rw [← hr]; exact cmp_gt a b (by rw [hs, ht]; omega)
   subst e2
   clear hs ht hr he
   go_enter Tryz.func58, Tryz.ntmps58
   go_wp2_with (first
    | (go_at_call_of 89 (Value.string (canon a)); refine (H1.out _).mono ?_; rintro e w' ⟨rfl, rfl⟩)
    | (go_at_call_of 89 (Value.string (canon b)); refine (H2.out _).mono ?_; rintro e w' ⟨rfl, rfl⟩))
   go_ret
   exact ⟨rfl, rfl⟩

end Go.Proofs.YtnallacamijkeaaGreatDoor

/- The walks of klipperef01.brief, Sign, Abs and Neg at any integer. -/
namespace Go.Proofs.YtnallacamijkeaaGreatDoor
open Go.RowKit

theorem brief_yes (z : Int) (w : World) (hz : (mag z).size ≤ 17) (hs : (canon z).size ≤ 100000) :
  Calls Tryz.prog 67 #[.string (canon z)] w fun e w' => e = .returned (.tuple #[.int .i64 z, .bool true]) ∧ Below w.heap.size w w' := by
 have h1 := splitR_canon z w (by omega)
 have h2 := fun W => smallR_small z W (by omega)
 have d1 : decide ((17 : Int) < ((mag z).size : Int)) = false := decide_eq_false (by omega)
 have d2 : decide (17 < (mag z).size) = false := decide_eq_false (by omega)
 have H1 := Lib.hid h1
 have H2 := Lib.hid h2
 clear h1 h2 hz hs
 go_enter Tryz.func67, Tryz.ntmps67
 go_wp2_with (first
  | (go_at_call 68; (with_reducible refine H1.out.mono ?_); rintro e w1 ⟨rfl, nd, rfl⟩)
  | (go_at_call 73; (with_reducible refine (H2.out _).mono ?_); rintro e w2 ⟨rfl, b2⟩; have B2 := Lib.hid b2; clear b2))
 go_ret2
 exact ⟨rfl, ((Drew.of _ _).below _).trans (B2.out.mono ((Drew.of _ _).below w.heap.size).size)⟩

theorem brief_no (z : Int) (w : World) (hz : 17 < (mag z).size) (hs : (canon z).size ≤ 100000) :
  Calls Tryz.prog 67 #[.string (canon z)] w fun e w' => e = .returned (.tuple #[.int .i64 0, .bool false]) ∧ Below w.heap.size w w' := by
 have h1 := splitR_canon z w (by omega)
 have d1 : decide ((17 : Int) < ((mag z).size : Int)) = true := decide_eq_true (by omega)
 have d2 : decide (17 < (mag z).size) = true := decide_eq_true (by omega)
 have H1 := Lib.hid h1
 clear h1 hs
 go_enter Tryz.func67, Tryz.ntmps67
 go_wp2_with (go_at_call 68; (with_reducible refine H1.out.mono ?_); rintro e w1 ⟨rfl, nd, rfl⟩)
 go_ret2
 exact ⟨rfl, (Drew.of _ _).below _⟩

theorem signR_any (z : Int) (w : World) (hs : (canon z).size ≤ 100000) :
  Calls Tryz.prog 46 #[.string (canon z)] w fun e w' => e = .returned (.int .i64 z.sign) ∧ Below w.heap.size w w' := by
 have h1 := splitR_canon z w (by omega)
 have hb := canon_beq0 z
 rcases Int.lt_trichotomy z 0 with hz | hz | hz
 ·rw [decide_eq_true hz] at h1
  rw [Int.sign_eq_neg_one_of_neg hz]
  have H1 := Lib.hid h1
  clear h1 hs hb hz
  go_enter Tryz.func46, Tryz.ntmps46
  go_wp2_with (go_at_call 68; (with_reducible refine H1.out.mono ?_); rintro e w1 ⟨rfl, nd, rfl⟩)
  go_ret
  exact ⟨rfl, (Drew.of _ _).below _⟩
 ·rw [decide_eq_false (by omega)] at h1
  rw [decide_eq_true hz] at hb
  have HS := Lib.hid (show z.sign = 0 by rw [hz]; rfl)
  rw [HS.out]
  have H1 := Lib.hid h1
  clear h1 hs hz HS
  go_enter Tryz.func46, Tryz.ntmps46
  go_wp2_with (go_at_call 68; (with_reducible refine H1.out.mono ?_); rintro e w1 ⟨rfl, nd, rfl⟩)
  go_ret
  exact ⟨rfl, (Drew.of _ _).below _⟩
 ·rw [decide_eq_false (by omega)] at h1
  rw [decide_eq_false (by omega)] at hb
  rw [Int.sign_eq_one_of_pos hz]
  have H1 := Lib.hid h1
  clear h1 hs hz
  go_enter Tryz.func46, Tryz.ntmps46
  go_wp2_with (go_at_call 68; (with_reducible refine H1.out.mono ?_); rintro e w1 ⟨rfl, nd, rfl⟩)
  go_ret
  exact ⟨rfl, (Drew.of _ _).below _⟩

theorem mag_canon (z : Int) : mag z = canon (z.natAbs : Int) := by rw [canon_nat]; rfl

theorem absR_any (z : Int) (w : World) (hs : (canon z).size ≤ 100000) :
  Calls Tryz.prog 81 #[.string (canon z)] w fun e w' => e = .returned (.string (canon (z.natAbs : Int))) ∧ Below w.heap.size w w' := by
 have h1 := splitR_canon z w (by omega)
 rw [mag_canon z] at h1
 have H1 := Lib.hid h1
 clear h1 hs
 go_enter Tryz.func81, Tryz.ntmps81
 go_wp2_with (go_at_call 68; (with_reducible refine H1.out.mono ?_); rintro e w1 ⟨rfl, nd, rfl⟩)
 go_ret
 exact ⟨rfl, (Drew.of _ _).below _⟩

theorem negR_any (z : Int) (w : World) (hs : (canon z).size ≤ 100000) :
  Calls Tryz.prog 47 #[.string (canon z)] w fun e w' => e = .returned (.string (canon (-z))) ∧ Below w.heap.size w w' := by
 by_cases hz : z < 0
 ·have h1 := splitR_canon z w (by omega)
  rw [decide_eq_true hz, mag_canon z, show ((z.natAbs : Nat) : Int) = -z by omega] at h1
  have H1 := Lib.hid h1
  clear h1 hs hz
  go_enter Tryz.func47, Tryz.ntmps47
  go_wp2_with (go_at_call 68; (with_reducible refine H1.out.mono ?_); rintro e w1 ⟨rfl, nd, rfl⟩)
  go_ret
  exact ⟨rfl, (Drew.of _ _).below _⟩
 ·obtain ⟨n, rfl⟩ := Int.eq_ofNat_of_zero_le (show 0 ≤ z by omega)
  exact negR_nat n w (by have : (canon (n : Int)).size ≤ 100000 := hs; omega)

end Go.Proofs.YtnallacamijkeaaGreatDoor

/- The walks of klipperef01.Add, Sub and Compare. -/
namespace Go.Proofs.YtnallacamijkeaaGreatDoor
open Go.RowKit

theorem takeR_own (z : Int) (w : World) (hs : (mag z).size ≤ 100000) :
  Calls Tryz.prog 69 #[.string (mag z)] w fun e w' => ∃ A c, e = .returned (.slice A (lim4 z.natAbs).length c) ∧ Sl w' .i64 A c (lim4 z.natAbs) ∧ Below w.heap.size w w' ∧ (A = none → c = 0) := by
 have h := take_own (mag z) w (mdig_all z) hs
 rw [show dval (mag z).data.toList = z.natAbs from mdig_val z] at h
 exact h

theorem brief_abs (z : Int) (h : (mag z).size ≤ 17) : z.natAbs < 100000000000000000 := by
 have h1 := dval_lt (mdig_all z)
 rw [mdig_val] at h1
 have h2 : (10 : Nat) ^ (mag z).size ≤ 10 ^ 17 := Nat.pow_le_pow_right (by omega) h
 have h3 : (mag z).size = (mdig z).length := rfl
 rw [h3] at h2
 omega

set_option maxRecDepth 100000 in
set_option maxHeartbeats 2000000 in
theorem addR_short (a b : Int) (w : World) (ht : Pow10 w) (ha : (mag a).size ≤ 17) (hb : (mag b).size ≤ 17) (ha' : (canon a).size ≤ 10000) (hb' : (canon b).size ≤ 10000) :
  Calls Tryz.prog 33 #[.string (canon a), .string (canon b)] w fun e w' => e = .returned (.string (canon (a + b))) ∧ Below w.heap.size w w' := by
 have h1 := fun W => brief_yes a W ha (by omega)
 have h2 := fun W => brief_yes b W hb (by omega)
 have la := brief_abs a ha
 have lb := brief_abs b hb
 have h3 := fun W (hW : Below w.heap.size w W) => ofR_any (a + b) (by omega) (by omega) W (ht.below hW)
 have q1 : -100000000000000000 ≤ a := by omega
 have q2 : a ≤ 100000000000000000 := by omega
 have q3 : -100000000000000000 ≤ b := by omega
 have q4 : b ≤ 100000000000000000 := by omega
 have H1 := Lib.hid h1
 have H2 := Lib.hid h2
 have H3 := Lib.hid h3
 clear h1 h2 h3 la lb ha hb ha' hb' ht
 go_enter Tryz.func33, Tryz.ntmps33
 go_wp2_with (first
  | (go_at_call_of 67 (Value.string (canon a)); (with_reducible refine (H1.out _).mono ?_); rintro e w1 ⟨rfl, q⟩; have B1 := Lib.hid q; clear q)
  | (go_at_call_of 67 (Value.string (canon b)); (with_reducible refine (H2.out _).mono ?_); rintro e w2 ⟨rfl, q⟩; have B2 := Lib.hid (B1.out.trans (q.mono B1.out.size)); clear q)
  | (go_at_call 18; (with_reducible refine (H3.out _ B2.out).mono ?_); rintro e w3 ⟨rfl, q⟩; have B3 := Lib.hid (B2.out.trans (q.mono B2.out.size)); clear q))
 go_ret
 exact ⟨rfl, B3.out⟩

theorem lim4_add_len (x y M : Nat) (hx : (lim4 x).length ≤ M) (hy : (lim4 y).length ≤ M) : (lim4 (x + y)).length ≤ M + 1 := by
 have h1 : x < 10000 ^ (lim4 x).length := lim_lt_pow 10000 (by omega) x
 have h2 : y < 10000 ^ (lim4 y).length := lim_lt_pow 10000 (by omega) y
 have h3 : (10000 : Nat) ^ (lim4 x).length ≤ 10000 ^ M := Nat.pow_le_pow_right (by omega) hx
 have h4 : (10000 : Nat) ^ (lim4 y).length ≤ 10000 ^ M := Nat.pow_le_pow_right (by omega) hy
 refine lim_len_le 10000 (by omega) _ _ ?_
 rw [Nat.pow_succ]
 generalize (10000 : Nat) ^ M = s at *
 omega

def Briefs (a b : Int) (xa xb : Int) (ua ub : Bool) : Prop :=
 (∀ W, Calls Tryz.prog 67 #[.string (canon a)] W fun e w' => e = .returned (.tuple #[.int .i64 xa, .bool ua]) ∧ Below W.heap.size W w') ∧
 (∀ W, Calls Tryz.prog 67 #[.string (canon b)] W fun e w' => e = .returned (.tuple #[.int .i64 xb, .bool ub]) ∧ Below W.heap.size W w')

theorem briefs_long (a b : Int) (ha : (canon a).size ≤ 100000) (hb : (canon b).size ≤ 100000) (h : ¬ ((mag a).size ≤ 17 ∧ (mag b).size ≤ 17)) :
  ∃ xa xb ua ub, (ua = false ∨ (ua = true ∧ ub = false)) ∧ Briefs a b xa xb ua ub := by
 by_cases h1 : (mag a).size ≤ 17
 ·have h2 : 17 < (mag b).size := by omega
  exact ⟨a, 0, true, false, .inr ⟨rfl, rfl⟩, fun W => brief_yes a W h1 ha, fun W => brief_no b W h2 hb⟩
 ·have h1' : 17 < (mag a).size := by omega
  by_cases h2 : (mag b).size ≤ 17
  ·exact ⟨0, b, false, true, .inl rfl, fun W => brief_no a W h1' ha, fun W => brief_yes b W h2 hb⟩
  ·exact ⟨0, 0, false, false, .inl rfl, fun W => brief_no a W h1' ha, fun W => brief_no b W (by omega) hb⟩

set_option maxRecDepth 100000 in
set_option maxHeartbeats 8000000 in
theorem addR_long (a b : Int) (w : World) (ht : Pow10 w) (ha : (canon a).size ≤ 10000) (hb : (canon b).size ≤ 10000) (xa xb : Int) (ua ub : Bool) (hu : ua = false ∨ (ua = true ∧ ub = false)) (hbr : Briefs a b xa xb ua ub) :
  Calls Tryz.prog 33 #[.string (canon a), .string (canon b)] w fun e w' => e = .returned (.string (canon (a + b))) ∧ Below w.heap.size w w' := by
 obtain ⟨h1, h2⟩ := hbr
 have hma := mag_le a 10000 ha
 have hmb := mag_le b 10000 hb
 have p1 := fun W => splitR_canon a W (by omega)
 have p2 := fun W => splitR_canon b W (by omega)
 have t1 := fun W => takeR_own a W (by omega)
 have t2 := fun W => takeR_own b W (by omega)
 have hla := lim4_len_digits a 10000 ha
 have hlb := lim4_len_digits b 10000 hb
 have hls := lim4_add_len a.natAbs b.natAbs 10000 hla hlb
 have hs1 := add_same a b
 have hs2 := add_left a b
 have hs3 := add_right a b
 generalize decide (a < 0) = sa at *
 generalize decide (b < 0) = sb at *
 generalize a.natAbs = x at *
 generalize b.natAbs = y at *
 have H1 := Lib.hid h1
 have H2 := Lib.hid h2
 have P1 := Lib.hid p1
 have P2 := Lib.hid p2
 have T1 := Lib.hid t1
 have T2 := Lib.hid t2
 have HS1 := Lib.hid hs1
 have HS2 := Lib.hid hs2
 have HS3 := Lib.hid hs3
 have HT := Lib.hid ht
 clear h1 h2 p1 p2 t1 t2 hs1 hs2 hs3 ht ha hb hma hmb
 by_cases hsame : sa = sb
 ·subst hsame
  have jn := fun A1 c1 A2 c2 W (h1 : Sl W .i64 A1 c1 (lim4 x)) (h2 : Sl W .i64 A2 c2 (lim4 y)) (h0 : A1 = none → c1 = 0) => joined_any A1 A2 c1 c2 x y (x + y) 1 W h1 h2 h0 (by omega) (by omega) (by omega) (by omega) (by omega)
  have md := fun A c W (h1 : Sl W .i64 A c (lim4 (x + y))) (h2 : Below w.heap.size w W) => made_any sa A c (x + y) W h1 (by omega) (HT.out.below h2)
  rw [HS1.out rfl] at md
  have JN := Lib.hid jn
  have MD := Lib.hid md
  clear jn md HS1 HS2 HS3 HT
  generalize a + b = z at *
  generalize x + y = v at *
  rcases hu with rfl | ⟨rfl, rfl⟩ <;> cases sa
  all_goals
   go_enter Tryz.func33, Tryz.ntmps33
   go_wp2_with (first
    | (go_at_call_of 67 (Value.string (canon a)); (with_reducible refine (H1.out _).mono ?_); rintro e w1 ⟨rfl, q⟩; have B1 := Lib.hid q; clear q)
    | (go_at_call_of 67 (Value.string (canon b)); (with_reducible refine (H2.out _).mono ?_); rintro e w2 ⟨rfl, q⟩; have B2 := Lib.hid (B1.out.trans (q.mono B1.out.size)); clear q)
    | (go_at_call_of 68 (Value.string (canon a)); (with_reducible refine (P1.out _).mono ?_); rintro e w3 ⟨rfl, q⟩; have B3 := Lib.hid (B2.out.trans (q.below _)); clear q)
    | (go_at_call_of 68 (Value.string (canon b)); (with_reducible refine (P2.out _).mono ?_); rintro e w4 ⟨rfl, q⟩; have B4 := Lib.hid (B3.out.trans (q.below _)); clear q)
    | (go_at_call_of 69 (Value.string (mag a)); (with_reducible refine (T1.out _).mono ?_); rintro e w5 ⟨A1, c1, rfl, s1, q, hn1⟩; have S1 := Lib.hid s1; have N1 := Lib.hid hn1; have B5 := Lib.hid (B4.out.trans (q.mono B4.out.size)); clear s1 q hn1)
    | (go_at_call_of 69 (Value.string (mag b)); (with_reducible refine (T2.out _).mono ?_); rintro e w6 ⟨A2, c2, rfl, s2, q, hn2⟩; have S2 := Lib.hid s2; have N2 := Lib.hid hn2; have S1' := Lib.hid (S1.out.below q); have B6 := Lib.hid (B5.out.trans (q.mono B5.out.size)); clear s2 q hn2)
    | (go_at_call 71; (with_reducible refine (JN.out _ _ _ _ _ S1'.out S2.out N1.out).mono ?_); rintro e w7 ⟨A7, c7, rfl, s7, q, _⟩; have S7 := Lib.hid s7; have B7 := Lib.hid (B6.out.trans (q.mono B6.out.size)); clear s7 q)
    | (go_at_call 70; (with_reducible refine (MD.out _ _ _ S7.out B7.out).mono ?_); rintro e w8 ⟨rfl, q⟩; have B8 := Lib.hid (B7.out.trans (q.mono B7.out.size)); clear q)
    | fail "arm")
   go_ret
   exact ⟨rfl, B8.out⟩
 ·by_cases hlt : x < y
  ·have ls := fun A1 c1 A2 c2 W (h1 : Sl W .i64 A1 c1 (lim4 x)) (h2 : Sl W .i64 A2 c2 (lim4 y)) => less_any A1 A2 c1 c2 x y W h1 h2 (by omega) (by omega)
   rw [decide_eq_true hlt] at ls
   have jn := fun A1 c1 A2 c2 W (h1 : Sl W .i64 A1 c1 (lim4 y)) (h2 : Sl W .i64 A2 c2 (lim4 x)) (h0 : A1 = none → c1 = 0) => joined_any A1 A2 c1 c2 y x (y - x) (-1) W h1 h2 h0 (by omega) (by omega) (by omega) (by omega) (by omega)
   have hlm := lim4_len_mono (y - x) y (by omega)
   have md := fun A c W (h1 : Sl W .i64 A c (lim4 (y - x))) (h2 : Below w.heap.size w W) => made_any sb A c (y - x) W h1 (by omega) (HT.out.below h2)
   rw [HS3.out hsame hlt] at md
   have JN := Lib.hid jn
   have MD := Lib.hid md
   have LS := Lib.hid ls
   clear jn md ls HS1 HS2 HS3 HT hlm
   generalize a + b = z at *
   generalize y - x = v at *
   rcases hu with rfl | ⟨rfl, rfl⟩ <;> cases sa <;> cases sb
   all_goals first | (exact absurd rfl hsame) | skip
   all_goals
    clear hsame
    go_enter Tryz.func33, Tryz.ntmps33
    go_wp2_with (first
     | (go_at_call_of 67 (Value.string (canon a)); (with_reducible refine (H1.out _).mono ?_); rintro e w1 ⟨rfl, q⟩; have B1 := Lib.hid q; clear q)
     | (go_at_call_of 67 (Value.string (canon b)); (with_reducible refine (H2.out _).mono ?_); rintro e w2 ⟨rfl, q⟩; have B2 := Lib.hid (B1.out.trans (q.mono B1.out.size)); clear q)
     | (go_at_call_of 68 (Value.string (canon a)); (with_reducible refine (P1.out _).mono ?_); rintro e w3 ⟨rfl, q⟩; have B3 := Lib.hid (B2.out.trans (q.below _)); clear q)
     | (go_at_call_of 68 (Value.string (canon b)); (with_reducible refine (P2.out _).mono ?_); rintro e w4 ⟨rfl, q⟩; have B4 := Lib.hid (B3.out.trans (q.below _)); clear q)
     | (go_at_call_of 69 (Value.string (mag a)); (with_reducible refine (T1.out _).mono ?_); rintro e w5 ⟨A1, c1, rfl, s1, q, hn1⟩; have S1 := Lib.hid s1; have N1 := Lib.hid hn1; have B5 := Lib.hid (B4.out.trans (q.mono B4.out.size)); clear s1 q hn1)
     | (go_at_call_of 69 (Value.string (mag b)); (with_reducible refine (T2.out _).mono ?_); rintro e w6 ⟨A2, c2, rfl, s2, q, hn2⟩; have S2 := Lib.hid s2; have N2 := Lib.hid hn2; have S1' := Lib.hid (S1.out.below q); have B6 := Lib.hid (B5.out.trans (q.mono B5.out.size)); clear s2 q hn2)
     | (go_at_call 72; (with_reducible refine (LS.out _ _ _ _ _ S1'.out S2.out).mono ?_); rintro e w9 ⟨rfl, nd, rfl⟩)
     | (go_at_call 71; (with_reducible refine (JN.out _ _ _ _ _ (S2.out.drewN _) (S1'.out.drewN _) N2.out).mono ?_); rintro e w7 ⟨A7, c7, rfl, s7, q, _⟩; have S7 := Lib.hid s7; have B7 := Lib.hid ((B6.out.trans ((Drew.of _ _).below _)).trans (q.mono B6.out.size)); clear s7 q)
     | (go_at_call 70; (with_reducible refine (MD.out _ _ _ S7.out B7.out).mono ?_); rintro e w8 ⟨rfl, q⟩; have B8 := Lib.hid (B7.out.trans (q.mono B7.out.size)); clear q)
     | fail "arm")
    go_ret
    exact ⟨rfl, B8.out⟩
  ·have ls := fun A1 c1 A2 c2 W (h1 : Sl W .i64 A1 c1 (lim4 x)) (h2 : Sl W .i64 A2 c2 (lim4 y)) => less_any A1 A2 c1 c2 x y W h1 h2 (by omega) (by omega)
   rw [decide_eq_false hlt] at ls
   have jn := fun A1 c1 A2 c2 W (h1 : Sl W .i64 A1 c1 (lim4 x)) (h2 : Sl W .i64 A2 c2 (lim4 y)) (h0 : A1 = none → c1 = 0) => joined_any A1 A2 c1 c2 x y (x - y) (-1) W h1 h2 h0 (by omega) (by omega) (by omega) (by omega) (by omega)
   have hlm := lim4_len_mono (x - y) x (by omega)
   have md := fun A c W (h1 : Sl W .i64 A c (lim4 (x - y))) (h2 : Below w.heap.size w W) => made_any sa A c (x - y) W h1 (by omega) (HT.out.below h2)
   rw [HS2.out hsame (by omega)] at md
   have JN := Lib.hid jn
   have MD := Lib.hid md
   have LS := Lib.hid ls
   clear jn md ls HS1 HS2 HS3 HT hlm
   generalize a + b = z at *
   generalize x - y = v at *
   rcases hu with rfl | ⟨rfl, rfl⟩ <;> cases sa <;> cases sb
   all_goals first | (exact absurd rfl hsame) | skip
   all_goals
    clear hsame
    go_enter Tryz.func33, Tryz.ntmps33
    go_wp2_with (first
     | (go_at_call_of 67 (Value.string (canon a)); (with_reducible refine (H1.out _).mono ?_); rintro e w1 ⟨rfl, q⟩; have B1 := Lib.hid q; clear q)
     | (go_at_call_of 67 (Value.string (canon b)); (with_reducible refine (H2.out _).mono ?_); rintro e w2 ⟨rfl, q⟩; have B2 := Lib.hid (B1.out.trans (q.mono B1.out.size)); clear q)
     | (go_at_call_of 68 (Value.string (canon a)); (with_reducible refine (P1.out _).mono ?_); rintro e w3 ⟨rfl, q⟩; have B3 := Lib.hid (B2.out.trans (q.below _)); clear q)
     | (go_at_call_of 68 (Value.string (canon b)); (with_reducible refine (P2.out _).mono ?_); rintro e w4 ⟨rfl, q⟩; have B4 := Lib.hid (B3.out.trans (q.below _)); clear q)
     | (go_at_call_of 69 (Value.string (mag a)); (with_reducible refine (T1.out _).mono ?_); rintro e w5 ⟨A1, c1, rfl, s1, q, hn1⟩; have S1 := Lib.hid s1; have N1 := Lib.hid hn1; have B5 := Lib.hid (B4.out.trans (q.mono B4.out.size)); clear s1 q hn1)
     | (go_at_call_of 69 (Value.string (mag b)); (with_reducible refine (T2.out _).mono ?_); rintro e w6 ⟨A2, c2, rfl, s2, q, hn2⟩; have S2 := Lib.hid s2; have N2 := Lib.hid hn2; have S1' := Lib.hid (S1.out.below q); have B6 := Lib.hid (B5.out.trans (q.mono B5.out.size)); clear s2 q hn2)
     | (go_at_call 72; (with_reducible refine (LS.out _ _ _ _ _ S1'.out S2.out).mono ?_); rintro e w9 ⟨rfl, nd, rfl⟩)
     | (go_at_call 71; (with_reducible refine (JN.out _ _ _ _ _ (S1'.out.drewN _) (S2.out.drewN _) N1.out).mono ?_); rintro e w7 ⟨A7, c7, rfl, s7, q, _⟩; have S7 := Lib.hid s7; have B7 := Lib.hid ((B6.out.trans ((Drew.of _ _).below _)).trans (q.mono B6.out.size)); clear s7 q)
     | (go_at_call 70; (with_reducible refine (MD.out _ _ _ S7.out B7.out).mono ?_); rintro e w8 ⟨rfl, q⟩; have B8 := Lib.hid (B7.out.trans (q.mono B7.out.size)); clear q)
     | fail "arm")
    go_ret
    exact ⟨rfl, B8.out⟩

theorem addR_any (a b : Int) (w : World) (ht : Pow10 w) (ha : (canon a).size ≤ 10000) (hb : (canon b).size ≤ 10000) :
  Calls Tryz.prog 33 #[.string (canon a), .string (canon b)] w fun e w' => e = .returned (.string (canon (a + b))) ∧ Below w.heap.size w w' := by
 by_cases h : (mag a).size ≤ 17 ∧ (mag b).size ≤ 17
 ·exact addR_short a b w ht h.1 h.2 ha hb
 ·obtain ⟨xa, xb, ua, ub, hu, hbr⟩ := briefs_long a b (by omega) (by omega) h
  exact addR_long a b w ht ha hb xa xb ua ub hu hbr

end Go.Proofs.YtnallacamijkeaaGreatDoor

/- The walk of klipperef01.DivMod: quotient and remainder. -/
namespace Go.Proofs.YtnallacamijkeaaGreatDoor
open Go.RowKit

theorem lim4_unit : lim4 1 = [1] := by
 rw [← trim_eq4 [1] 1 (by intro x hx; simp at hx; omega) (by simp [valB])]
 exact trimL_snoc_ne [] 1 (by omega)

theorem slI_one {W : World} {g : Nat} {r : Int} (hc : W.cell? ⟨g, 0, none⟩ = some (.int .i64 r)) (hg : g < W.heap.size) : Sl W .i64 (some ⟨g, 0, none⟩) 1 [r] :=
 ⟨by simp, by simp only [maxLen]; omega, fun _ => ⟨g, 0, rfl, hg, fun j hj => by
  have : j = 0 := by simpa using hj
  subst this
  exact hc⟩⟩

set_option maxRecDepth 100000 in
set_option maxHeartbeats 4000000 in
theorem divmodR_short (a b : Int) (w : World) (ht : Pow10 w) (ha : (mag a).size ≤ 17) (hb : (mag b).size ≤ 17) (ha' : (canon a).size ≤ 10000) (hb' : (canon b).size ≤ 10000) (hb0 : b ≠ 0) :
  Calls Tryz.prog 49 #[.string (canon a), .string (canon b)] w fun e w' => e = .returned (.tuple #[.string (canon (a / b)), .string (canon (a % b))]) ∧ Below w.heap.size w w' := by
 have h1 := fun W => brief_yes a W ha (by omega)
 have h2 := fun W => brief_yes b W hb (by omega)
 have la := brief_abs a ha
 have lb := brief_abs b hb
 have ho := fun (n : Int) (hn0 : -1000000000000000000 ≤ n) (hn1 : n ≤ 1000000000000000000) W (hW : Below w.heap.size w W) => ofR_any n (by omega) (by omega) W (ht.below hW)
 have q1 : -100000000000000000 ≤ a := by omega
 have q2 : a ≤ 100000000000000000 := by omega
 have q3 : -100000000000000000 ≤ b := by omega
 have q4 : b ≤ 100000000000000000 := by omega
 have t2 : (b == 0) = false := beq_eq_false_iff_ne.2 hb0
 have hqb : (a / b).natAbs ≤ a.natAbs := Int.natAbs_ediv_le_natAbs a b
 have hrb0 := Int.emod_nonneg a hb0
 have hrb1 := Int.emod_lt a hb0
 have htq : (a.tdiv b).natAbs ≤ a.natAbs := by rw [Int.natAbs_tdiv]; exact Nat.div_le_self _ _
 have htm : (a.tmod b).natAbs ≤ a.natAbs := by rw [Int.natAbs_tmod]; exact Nat.mod_le _ _
 have e1 := ediv_of_tdiv a b
 have e2 := ediv_of_tneg a b hb0
 obtain ⟨qz, hqz⟩ : ∃ q, a / b = q := ⟨_, rfl⟩
 obtain ⟨rz, hrz⟩ : ∃ q, a % b = q := ⟨_, rfl⟩
 rw [hqz] at hqb e1 e2 ⊢
 rw [hrz] at hrb0 hrb1 e1 e2 ⊢
 have o1 := ho qz (by omega) (by omega)
 have o2 := ho rz (by omega) (by omega)
 have H1 := Lib.hid h1
 have H2 := Lib.hid h2
 have O1 := Lib.hid o1
 have O2 := Lib.hid o2
 clear h1 h2 ho o1 o2 ha hb ha' hb' ht hqz hrz
 by_cases hneg : a.tmod b < 0
 ·obtain ⟨e3, e4⟩ := e2 hneg
  obtain ⟨n, hn⟩ : ∃ n : Nat, b.natAbs = n := ⟨_, rfl⟩
  rw [hn] at e3 hrb1
  have hmx : max b (-b) = (n : Int) := by omega
  obtain ⟨m0, hm0⟩ : ∃ m, a.tmod b = m := ⟨_, rfl⟩
  obtain ⟨q0, hq0⟩ : ∃ m, a.tdiv b = m := ⟨_, rfl⟩
  rw [hm0] at e3 hneg htm
  rw [hq0] at htq
  have l1 : -100000000000000000 ≤ m0 := by omega
  have l2 : m0 ≤ 100000000000000000 := by omega
  have l3 : -100000000000000000 ≤ q0 := by omega
  have l4 : q0 ≤ 100000000000000000 := by omega
  have l5 : -100000000000000000 ≤ qz := by omega
  have l6 : qz ≤ 100000000000000000 := by omega
  have l7 : (n : Int) ≤ 100000000000000000 := by omega
  clear e1 e2 hn hqb htq htm la lb
  go_enter Tryz.func49, Tryz.ntmps49
  go_wp2_with (first
   | (go_at_call_of 67 (Value.string (canon a)); (with_reducible refine (H1.out _).mono ?_); rintro e w1 ⟨rfl, q⟩; have B1 := Lib.hid q; clear q)
   | (go_at_call_of 67 (Value.string (canon b)); (with_reducible refine (H2.out _).mono ?_); rintro e w2 ⟨rfl, q⟩; have B2 := Lib.hid (B1.out.trans (q.mono B1.out.size)); clear q))
  go_quiet (fail)
  go_wp2_with (first
   | (go_at_call_of 18 (Value.int .i64 qz); (with_reducible refine (O1.out _ ?_).mono ?_); exact B2.out.trans ((Drew.of _ _).below _); rintro e w3 ⟨rfl, q⟩; have B3 := Lib.hid ((B2.out.trans ((Drew.of _ _).below _)).trans (q.mono B2.out.size)); clear q)
   | (go_at_call_of 18 (Value.int .i64 rz); (with_reducible refine (O2.out _ B3.out).mono ?_); rintro e w4 ⟨rfl, q⟩; have B4 := Lib.hid (B3.out.trans (q.mono B3.out.size)); clear q))
  go_ret2
  exact ⟨rfl, B4.out⟩
 ·obtain ⟨e3, e4⟩ := e1 (by omega)
  have l5 : -100000000000000000 ≤ qz := by omega
  have l6 : qz ≤ 100000000000000000 := by omega
  have l7 : rz ≤ 100000000000000000 := by omega
  have d1 : decide (rz < 0) = false := decide_eq_false (by omega)
  clear e1 e2 hqb htq htm la lb hneg
  go_enter Tryz.func49, Tryz.ntmps49
  go_wp2_with (first
   | (go_at_call_of 67 (Value.string (canon a)); (with_reducible refine (H1.out _).mono ?_); rintro e w1 ⟨rfl, q⟩; have B1 := Lib.hid q; clear q)
   | (go_at_call_of 67 (Value.string (canon b)); (with_reducible refine (H2.out _).mono ?_); rintro e w2 ⟨rfl, q⟩; have B2 := Lib.hid (B1.out.trans (q.mono B1.out.size)); clear q))
  go_quiet (fail)
  go_wp2_with (first
   | (go_at_call_of 18 (Value.int .i64 qz); (with_reducible refine (O1.out _ ?_).mono ?_); exact B2.out.trans ((Drew.of _ _).below _); rintro e w3 ⟨rfl, q⟩; have B3 := Lib.hid ((B2.out.trans ((Drew.of _ _).below _)).trans (q.mono B2.out.size)); clear q)
   | (go_at_call_of 18 (Value.int .i64 rz); (with_reducible refine (O2.out _ B3.out).mono ?_); rintro e w4 ⟨rfl, q⟩; have B4 := Lib.hid (B3.out.trans (q.mono B3.out.size)); clear q))
  go_ret2
  exact ⟨rfl, B4.out⟩

/- long -/

theorem parts_at {x y : Nat} (hlx : (lim4 x).length ≤ 10000) (hly : (lim4 y).length ≤ 10000) (hy : 0 < y) (W : World) (A1 : Option Addr) (c1 : Nat) (A2 : Option Addr) (c2 : Nat) (h1 : Sl W .i64 A1 c1 (lim4 x)) (h2 : Sl W .i64 A2 c2 (lim4 y)) :
  Calls Tryz.prog 82 #[.slice A1 (lim4 x).length c1, .slice A2 (lim4 y).length c2] W fun e w' => ∃ B1 d1 B2 d2, e = .returned (.tuple #[.slice B1 (lim4 (x / y)).length d1, .slice B2 (lim4 (x % y)).length d2]) ∧
   Sl w' .i64 B1 d1 (lim4 (x / y)) ∧ Sl w' .i64 B2 d2 (lim4 (x % y)) ∧ Below W.heap.size W w' ∧ (B1 = none → d1 = 0) ∧ (B2 = none → d2 = 0) :=
 parts_any A1 A2 c1 c2 x y W h1 h2 (by omega) (by omega) hy

set_option maxRecDepth 100000 in
set_option maxHeartbeats 8000000 in
theorem divmodR_easy (a b : Int) (w : World) (ht : Pow10 w) (ha : (canon a).size ≤ 10000) (hb : (canon b).size ≤ 10000) (hb0 : b ≠ 0) (hm : 0 ≤ a ∨ a.natAbs % b.natAbs = 0) (xa xb : Int) (ua ub : Bool) (hu : ua = false ∨ (ua = true ∧ ub = false)) (hbr : Briefs a b xa xb ua ub) :
  Calls Tryz.prog 49 #[.string (canon a), .string (canon b)] w fun e w' => e = .returned (.tuple #[.string (canon (a / b)), .string (canon (a % b))]) ∧ Below w.heap.size w w' := by
 obtain ⟨h1, h2⟩ := hbr
 have hma := mag_le a 10000 ha
 have hmb := mag_le b 10000 hb
 have p1 := fun W => splitR_canon a W (by omega)
 have p2 := fun W => splitR_canon b W (by omega)
 have t1 := fun W => takeR_own a W (by omega)
 have t2 := fun W => takeR_own b W (by omega)
 have hla := lim4_len_digits a 10000 ha
 have hlb := lim4_len_digits b 10000 hb
 have hyp : 0 < b.natAbs := by omega
 obtain ⟨hd1, hd2⟩ := div_easy a b hb0 hm
 have hmz : decide (a < 0) = true → a.natAbs % b.natAbs = 0 := fun h => by
  have := of_decide_eq_true h
  omega
 generalize a / b = qz at *
 generalize a % b = rz at *
 generalize decide (a < 0) = sa at *
 generalize decide (b < 0) = sb at *
 generalize a.natAbs = x at *
 generalize b.natAbs = y at *
 have hql : (lim4 (x / y)).length ≤ 10000 := Nat.le_trans (lim4_len_mono _ _ (Nat.div_le_self x y)) hla
 have hrl : (lim4 (x % y)).length ≤ 10000 := Nat.le_trans (lim4_len_mono _ _ (Nat.mod_le x y)) hla
 have pt := parts_at hla hlb hyp
 obtain ⟨bb, hbb⟩ : ∃ bb, (sa != sb) = bb := ⟨_, rfl⟩
 have m1 := fun A c W (h1 : Sl W .i64 A c (lim4 (x / y))) (h2 : Below w.heap.size w W) => made_any bb A c (x / y) W h1 (by omega) (ht.below h2)
 have m2 := fun A c W (h1 : Sl W .i64 A c (lim4 (x % y))) (h2 : Below w.heap.size w W) => made_any false A c (x % y) W h1 (by omega) (ht.below h2)
 rw [hbb] at hd1
 rw [hd1] at m1
 rw [if_neg (by simp), hd2] at m2
 have hlz : sa = true → (lim4 (x % y)).length = 0 := fun h => by rw [hmz h]; rfl
 have H1 := Lib.hid h1
 have H2 := Lib.hid h2
 have P1 := Lib.hid p1
 have P2 := Lib.hid p2
 have T1 := Lib.hid t1
 have T2 := Lib.hid t2
 have PT := Lib.hid pt
 have M1 := Lib.hid m1
 have M2 := Lib.hid m2
 clear h1 h2 p1 p2 t1 t2 pt m1 m2 ht ha hb hma hmb hd1 hd2 hb0 hm hmz hyp
 rcases hu with rfl | ⟨rfl, rfl⟩ <;> cases sa <;> cases sb <;> cases bb
 all_goals first | (exact absurd hbb (by decide)) | skip
 all_goals
  clear hbb
  first
   | (have hl0 := hlz rfl; have d1 : decide ((0 : Int) < ((lim4 (x % y)).length : Int)) = false := decide_eq_false (by omega); have d2 : decide (0 < (lim4 (x % y)).length) = false := decide_eq_false (by omega); clear hlz hl0)
   | clear hlz
  go_enter Tryz.func49, Tryz.ntmps49
  go_wp2_with (first
     | (go_at_call_of 67 (Value.string (canon a)); (with_reducible refine (H1.out _).mono ?_); rintro e w1 ⟨rfl, q⟩; have B1 := Lib.hid q; clear q)
     | (go_at_call_of 67 (Value.string (canon b)); (with_reducible refine (H2.out _).mono ?_); rintro e w2 ⟨rfl, q⟩; have B2 := Lib.hid (B1.out.trans (q.mono B1.out.size)); clear q)
     | (go_at_call_of 68 (Value.string (canon a)); (with_reducible refine (P1.out _).mono ?_); rintro e w3 ⟨rfl, q⟩; have B3 := Lib.hid (B2.out.trans (q.below _)); clear q)
     | (go_at_call_of 68 (Value.string (canon b)); (with_reducible refine (P2.out _).mono ?_); rintro e w4 ⟨rfl, q⟩; have B4 := Lib.hid (B3.out.trans (q.below _)); clear q)
     | (go_at_call_of 69 (Value.string (mag a)); (with_reducible refine (T1.out _).mono ?_); rintro e w5 ⟨A1, c1, rfl, s1, q, hn1⟩; have S1 := Lib.hid s1; have B5 := Lib.hid (B4.out.trans (q.mono B4.out.size)); clear s1 q hn1)
     | (go_at_call_of 69 (Value.string (mag b)); (with_reducible refine (T2.out _).mono ?_); rintro e w6 ⟨A2, c2, rfl, s2, q, hn2⟩; have S2 := Lib.hid s2; have S1' := Lib.hid (S1.out.below q); have B6 := Lib.hid (B5.out.trans (q.mono B5.out.size)); clear s2 q hn2)
     | (go_at_call 82; (with_reducible refine (PT.out _ _ _ _ _ S1'.out S2.out).mono ?_); rintro e w7 ⟨A7, c7, A8, c8, rfl, s7, s8, q, n7, n8⟩; have S7 := Lib.hid s7; have S8 := Lib.hid s8; have N7 := Lib.hid n7; have N8 := Lib.hid n8; have B7 := Lib.hid (B6.out.trans (q.mono B6.out.size)); clear s7 s8 q n7 n8)
     | (go_at_call_of 70 (Value.slice A7 (lim4 (x / y)).length c7); (with_reducible refine (M1.out _ _ _ S7.out B7.out).mono ?_); rintro e w9 ⟨rfl, q⟩; have S9 := Lib.hid (S8.out.below q); have B9 := Lib.hid (B7.out.trans (q.mono B7.out.size)); clear q)
     | (go_at_call 70; (with_reducible refine (M2.out _ _ _ S9.out B9.out).mono ?_); rintro e w10 ⟨rfl, q⟩; have B10 := Lib.hid (B9.out.trans (q.mono B9.out.size)); clear q)
     | fail "arm")
  go_ret2
  exact ⟨rfl, B10.out⟩

set_option maxRecDepth 100000 in
set_option maxHeartbeats 8000000 in
theorem divmodR_hard (a b : Int) (w : World) (ht : Pow10 w) (ha : (canon a).size ≤ 10000) (hb : (canon b).size ≤ 10000) (hb0 : b ≠ 0) (ha0 : a < 0) (hm : a.natAbs % b.natAbs ≠ 0) (xa xb : Int) (ua ub : Bool) (hu : ua = false ∨ (ua = true ∧ ub = false)) (hbr : Briefs a b xa xb ua ub) :
  Calls Tryz.prog 49 #[.string (canon a), .string (canon b)] w fun e w' => e = .returned (.tuple #[.string (canon (a / b)), .string (canon (a % b))]) ∧ Below w.heap.size w w' := by
 obtain ⟨h1, h2⟩ := hbr
 have hma := mag_le a 10000 ha
 have hmb := mag_le b 10000 hb
 have p1 := fun W => splitR_canon a W (by omega)
 have p2 := fun W => splitR_canon b W (by omega)
 have t1 := fun W => takeR_own a W (by omega)
 have t2 := fun W => takeR_own b W (by omega)
 have hla := lim4_len_digits a 10000 ha
 have hlb := lim4_len_digits b 10000 hb
 have hyp : 0 < b.natAbs := by omega
 obtain ⟨hd1, hd2⟩ := div_hard a b hb0 ha0 hm
 have hsa : decide (a < 0) = true := decide_eq_true ha0
 generalize a / b = qz at *
 generalize a % b = rz at *
 generalize decide (a < 0) = sa at *
 generalize decide (b < 0) = sb at *
 generalize a.natAbs = x at *
 generalize b.natAbs = y at *
 have hql : (lim4 (x / y)).length ≤ 10000 := Nat.le_trans (lim4_len_mono _ _ (Nat.div_le_self x y)) hla
 have hrl : (lim4 (x % y)).length ≤ 10000 := Nat.le_trans (lim4_len_mono _ _ (Nat.mod_le x y)) hla
 have pt := parts_at hla hlb hyp
 subst hsa
 obtain ⟨bb, hbb⟩ : ∃ bb, (!sb) = bb := ⟨_, rfl⟩
 have hq1 : (lim4 (x / y + 1)).length ≤ 10001 := lim4_add_len (x / y) 1 10000 hql (by rw [lim4_unit]; simp)
 have hr1 : (lim4 (y - x % y)).length ≤ 10000 := Nat.le_trans (lim4_len_mono _ _ (Nat.sub_le y _)) hlb
 have hml := Nat.mod_lt x hyp
 have hpos : 0 < (lim4 (x % y)).length := by
  rcases Nat.eq_zero_or_pos (lim4 (x % y)).length with h | h
  ·exact absurd ((lim4_len_zero _).1 h) hm
  ·exact h
 have d1 : decide ((0 : Int) < ((lim4 (x % y)).length : Int)) = true := decide_eq_true (by omega)
 have d2 : decide (0 < (lim4 (x % y)).length) = true := decide_eq_true hpos
 have j1 := fun B d W (h1 : Sl W .i64 B d (lim4 (x / y))) (h2 : B = none → d = 0) => joined_any B (some ⟨W.heap.size, 0, none⟩) d 1 (x / y) 1 (x / y + 1) 1 (W.alloc (.cells #[.int .i64 1] 3)) (h1.below ((Below.refl _ _).alloc (Nat.le_refl _) _))
  (by rw [lim4_unit]; exact slI_one (by rw [Lib.cell_of_heap (heap_alloc_new W _)]; rfl) (by simp)) h2 (by omega) (by rw [lim4_unit]; simp) (by omega) (by omega) (by omega)
 rw [show (lim4 1).length = 1 by rw [lim4_unit]; rfl] at j1
 have j2 := fun B d B2 d2 W (h1 : Sl W .i64 B d (lim4 y)) (h2 : Sl W .i64 B2 d2 (lim4 (x % y))) (h3 : B = none → d = 0) => joined_any B B2 d d2 y (x % y) (y - x % y) (-1) W h1 h2 h3 (by omega) (by omega) (by omega) (by omega) (by omega)
 have m1 := fun A c W (h1 : Sl W .i64 A c (lim4 (x / y + 1))) (h2 : Below w.heap.size w W) => made_any bb A c (x / y + 1) W h1 (by omega) (ht.below h2)
 have m2 := fun A c W (h1 : Sl W .i64 A c (lim4 (y - x % y))) (h2 : Below w.heap.size w W) => made_any false A c (y - x % y) W h1 (by omega) (ht.below h2)
 rw [hbb] at hd1
 rw [hd1] at m1
 rw [if_neg (by simp), hd2] at m2
 have H1 := Lib.hid h1
 have H2 := Lib.hid h2
 have P1 := Lib.hid p1
 have P2 := Lib.hid p2
 have T1 := Lib.hid t1
 have T2 := Lib.hid t2
 have PT := Lib.hid pt
 have J1 := Lib.hid j1
 have J2 := Lib.hid j2
 have M1 := Lib.hid m1
 have M2 := Lib.hid m2
 clear h1 h2 p1 p2 t1 t2 pt m1 m2 j1 j2 ht ha hb hma hmb hd1 hd2 hb0 ha0 hm hyp hml hpos
 rcases hu with rfl | ⟨rfl, rfl⟩ <;> cases sb <;> cases bb
 all_goals first | (exact absurd hbb (by decide)) | skip
 all_goals
  clear hbb
  go_enter Tryz.func49, Tryz.ntmps49
  go_upto_region 13 with (first
     | (go_at_call_of 67 (Value.string (canon a)); (with_reducible refine (H1.out _).mono ?_); rintro e w1 ⟨rfl, q⟩; have B1 := Lib.hid q; clear q)
     | (go_at_call_of 67 (Value.string (canon b)); (with_reducible refine (H2.out _).mono ?_); rintro e w2 ⟨rfl, q⟩; have B2 := Lib.hid (B1.out.trans (q.mono B1.out.size)); clear q)
     | (go_at_call_of 68 (Value.string (canon a)); (with_reducible refine (P1.out _).mono ?_); rintro e w3 ⟨rfl, q⟩; have B3 := Lib.hid (B2.out.trans (q.below _)); clear q)
     | (go_at_call_of 68 (Value.string (canon b)); (with_reducible refine (P2.out _).mono ?_); rintro e w4 ⟨rfl, q⟩; have B4 := Lib.hid (B3.out.trans (q.below _)); clear q)
     | (go_at_call_of 69 (Value.string (mag a)); (with_reducible refine (T1.out _).mono ?_); rintro e w5 ⟨A1, c1, rfl, s1, q, hn1⟩; have S1 := Lib.hid s1; have B5 := Lib.hid (B4.out.trans (q.mono B4.out.size)); clear s1 q hn1)
     | (go_at_call_of 69 (Value.string (mag b)); (with_reducible refine (T2.out _).mono ?_); rintro e w6 ⟨A2, c2, rfl, s2, q, hn2⟩; have S2 := Lib.hid s2; have S1' := Lib.hid (S1.out.below q); have B6 := Lib.hid (B5.out.trans (q.mono B5.out.size)); clear s2 q hn2)
     | (go_at_call 82; (with_reducible refine (PT.out _ _ _ _ _ S1'.out S2.out).mono ?_); rintro e w7 ⟨A7, c7, A8, c8, rfl, s7, s8, q, n7, n8⟩; have S7 := Lib.hid s7; have S8 := Lib.hid s8; have N7 := Lib.hid n7; have N8 := Lib.hid n8; have B7 := Lib.hid (B6.out.trans (q.mono B6.out.size)); clear s7 s8 q n7 n8))
  have z7 : (w7.alloc (.cells #[.int .i64 1] 3)).heap.size = w7.heap.size + 1 := World.size_alloc ..
  have ba7 : Below w7.heap.size w7 (w7.alloc (.cells #[.int .i64 1] 3)) := (Below.refl _ _).alloc (Nat.le_refl _) _
  have Z7 := Lib.hid z7
  have BA7 := Lib.hid ba7
  clear z7 ba7
  go_wp2_with (first
     | (go_at_call_of 71 (Value.slice A7 (lim4 (x / y)).length c7); (with_reducible refine (J1.out _ _ _ S7.out N7.out).mono ?_); rintro e w9 ⟨A9, c9, rfl, s9, q, _⟩; have k9 := BA7.out.trans (q.mono BA7.out.size); have S9 := Lib.hid s9; have S8' := Lib.hid (S8.out.below k9); have B9 := Lib.hid (B7.out.trans (k9.mono B7.out.size)); clear s9 q k9)
     | (go_at_call_of 69 (Value.string (mag b)); (with_reducible refine (T2.out _).mono ?_); rintro e w10 ⟨A10, c10, rfl, s10, q, n10⟩; have S10 := Lib.hid s10; have N10 := Lib.hid n10; have S9' := Lib.hid (S9.out.below q); have S8'' := Lib.hid (S8'.out.below q); have B10 := Lib.hid (B9.out.trans (q.mono B9.out.size)); clear s10 q n10)
     | (go_at_call_of 71 (Value.slice A8 (lim4 (x % y)).length c8); (with_reducible refine (J2.out _ _ _ _ _ S10.out S8''.out N10.out).mono ?_); rintro e w11 ⟨A11, c11, rfl, s11, q, _⟩; have S11 := Lib.hid s11; have S9'' := Lib.hid (S9'.out.below q); have B11 := Lib.hid (B10.out.trans (q.mono B10.out.size)); clear s11 q)
     | (go_at_call 70; (with_reducible refine (M1.out _ _ _ S9''.out B11.out).mono ?_); rintro e w12 ⟨rfl, q⟩; have S12 := Lib.hid (S11.out.below q); have B12 := Lib.hid (B11.out.trans (q.mono B11.out.size)); clear q)
     | (go_at_call 70; (with_reducible refine (M2.out _ _ _ S12.out B12.out).mono ?_); rintro e w13 ⟨rfl, q⟩; have B13 := Lib.hid (B12.out.trans (q.mono B12.out.size)); clear q)
     | fail "arm")
  go_ret2
  exact ⟨rfl, B13.out⟩

theorem divmodR_any (a b : Int) (w : World) (ht : Pow10 w) (ha : (canon a).size ≤ 10000) (hb : (canon b).size ≤ 10000) (hb0 : b ≠ 0) :
  Calls Tryz.prog 49 #[.string (canon a), .string (canon b)] w fun e w' => e = .returned (.tuple #[.string (canon (a / b)), .string (canon (a % b))]) ∧ Below w.heap.size w w' := by
 by_cases h : (mag a).size ≤ 17 ∧ (mag b).size ≤ 17
 ·exact divmodR_short a b w ht h.1 h.2 ha hb hb0
 ·obtain ⟨xa, xb, ua, ub, hu, hbr⟩ := briefs_long a b (by omega) (by omega) h
  by_cases hm : 0 ≤ a ∨ a.natAbs % b.natAbs = 0
  ·exact divmodR_easy a b w ht ha hb hb0 hm xa xb ua ub hu hbr
  ·exact divmodR_hard a b w ht ha hb hb0 (by omega) (by omega) xa xb ua ub hu hbr

end Go.Proofs.YtnallacamijkeaaGreatDoor

/- The walk of klipperef01.Gcd. -/
namespace Go.Proofs.YtnallacamijkeaaGreatDoor
open Go.RowKit

theorem canon_nat_size (n N : Nat) (h : n < 10 ^ N) (h0 : 0 < N) : (canon (n : Int)).size ≤ N + 1 := canon_size_lt (n : Int) N (by rw [Int.natAbs_natCast]; exact h) h0

set_option maxHeartbeats 2000000 in
theorem gcdR_any (a b : Int) (w : World) (ht : Pow10 w) (ha : (canon a).size ≤ 9000) (hb : (canon b).size ≤ 9000) :
  Calls Tryz.prog 48 #[.string (canon a), .string (canon b)] w fun e w' => e = .returned (.string (canon (Int.gcd a b : Int))) ∧ Below w.heap.size w w' := by
 have h1 := fun W => absR_any a W (by omega)
 have h2 := fun W => absR_any b W (by omega)
 have hx := itoa_len_small (z := a) (k := 9000) ha
 have hy := itoa_len_small (z := b) (k := 9000) hb
 have hgg : Int.gcd a b = Nat.gcd a.natAbs b.natAbs := rfl
 obtain ⟨M, hM⟩ : ∃ M, (10 : Nat) ^ 9000 = M := ⟨_, rfl⟩
 have hsz : ∀ n : Nat, n < M → (canon (n : Int)).size ≤ 9001 := fun n hn => canon_nat_size n 9000 (by rw [hM]; exact hn) (by omega)
 rw [hM] at hx hy
 clear hM
 rw [hgg]
 generalize a.natAbs = x0 at *
 generalize b.natAbs = y0 at *
 obtain ⟨G, hG⟩ : ∃ G, Nat.gcd x0 y0 = G := ⟨_, rfl⟩
 rw [hG]
 have HG0 := Lib.hid hG
 have H1 := Lib.hid h1
 have H2 := Lib.hid h2
 have HT := Lib.hid ht
 have HSZ := Lib.hid hsz
 clear h1 h2 ht hgg hG ha hb hsz
 go_enter Tryz.func48, Tryz.ntmps48
 go_wp2_with (first
  | (go_at_call_of 81 (Value.string (canon a)); (with_reducible refine (H1.out _).mono ?_); rintro e w1 ⟨rfl, q⟩; have B1 := Lib.hid q; clear q)
  | (go_at_call_of 81 (Value.string (canon b)); (with_reducible refine (H2.out _).mono ?_); rintro e w2 ⟨rfl, q⟩; have B2 := Lib.hid (B1.out.trans (q.mono B1.out.size)); clear q))
 go_loopg [0, 1] y0 (fun gy xv yv wr => ∃ (x : Nat), xv = .string (canon (x : Int)) ∧ yv = .string (canon (gy : Int)) ∧ x < M ∧ gy < M ∧ Below w.heap.size w wr ∧ Hid (Nat.gcd x gy = G))
 case atStart => exact ⟨x0, rfl, rfl, hx, hy, B2.out, HG0⟩
 case round =>
  clear HG0 B2 hx hy
  obtain ⟨x, rfl, rfl, hx, hy, hbl, HG⟩ := hrel
  have HB := Lib.hid hbl
  clear hbl
  have hzb := canon_beq0 (gk : Int)
  by_cases h0 : gk = 0
  ·subst h0
   have hg : x = G := by rw [← HG.out]; simp
   subst hg
   rw [decide_eq_true (by rfl)] at hzb
   have hzb2 : ((canon 0).toList == [48]) = true := hzb
   have hzn : ((canon 0).toList != [48]) = false := by rw [bne, hzb2]; rfl
   go_wp2
   go_ret
   exact ⟨rfl, HB.out⟩
  ·rw [decide_eq_false (by omega)] at hzb
   have hzn : ((canon (gk : Int)).toList != [48]) = true := by rw [bne, hzb]; rfl
   have dm := divmodR_any (x : Int) (gk : Int) wr (HT.out.below HB.out) (by have := HSZ.out x hx; omega) (by have := HSZ.out gk hy; omega) (by omega)
   rw [show (x : Int) % (gk : Int) = ((x % gk : Nat) : Int) by simp, show (x : Int) / (gk : Int) = ((x / gk : Nat) : Int) by simp] at dm
   have HN := Lib.hid (gcd_step x gk ▸ HG.out : Nat.gcd gk (x % gk) = G)
   have hm : x % gk < gk := Nat.mod_lt _ (by omega)
   have DM := Lib.hid dm
   clear dm
   go_wp2_with (go_at_call 49; (with_reducible refine DM.out.mono ?_); rintro e w4 ⟨rfl, q⟩; have B4 := Lib.hid (HB.out.trans (q.mono HB.out.size)); clear q)
   go_roundg (x % gk)
   case measure => exact hm
   case rel => exact ⟨gk, rfl, rfl, hy, by omega, B4.out, HN.out⟩

end Go.Proofs.YtnallacamijkeaaGreatDoor

/- The walk of integer.Check: the right texts of an integer. -/
namespace Go.Proofs.YtnallacamijkeaaGreatDoor
open Go.RowKit

def headB (neg : Bool) (t : List UInt8) : Bool := !t.isEmpty && decide (t.length ≤ 200) && !(t.head? == some 48 && (neg || decide (1 < t.length)))
def rightL (neg : Bool) (t : List UInt8) : Bool := headB neg t && allDigB t

theorem allDig_succ (T : ByteArray) (k : Nat) (h : k < T.size) (ha : AllDig (T.data.toList.take k)) (hd : 48 ≤ T[k].toNat ∧ T[k].toNat ≤ 57) : AllDig (T.data.toList.take (k + 1)) := by
 have hl : k < T.data.toList.length := by rw [← Lib.size_eq]; exact h
 rw [List.take_succ_eq_append_getElem hl]
 intro c hc
 rcases List.mem_append.1 hc with h1 | h1
 ·exact ha c h1
 ·have e : c = T[k] := by
   have h2 : c = T.data.toList[k] := by simpa using h1
   exact h2
  rw [e]
  exact hd

theorem allDig_whole (T : ByteArray) (ha : AllDig (T.data.toList.take T.size)) : allDigB T.data.toList = true := by
 rw [Lib.size_eq, List.take_length] at ha
 exact (allDigB_iff _).2 ha

theorem ret_int {a b : Int} (h : a = b) : Ending.returned (.int .i64 a) = .returned (.int .i64 b) := by rw [h]

theorem head_of (T : ByteArray) (h : 0 < T.size) : T.data.toList.head? = some T[0] := by rw [head_get T h]; rfl

set_option maxHeartbeats 2000000 in
theorem check_of (s T : ByteArray) (neg : Bool) (w : World) (hT : T.size ≤ 1000000)
  (hcut : ∀ W, Calls Tryz.prog 109 #[.string s, .string ⟨#[45]⟩] W fun e w' => e = .returned (.tuple #[.string T, .bool neg]) ∧ W = w') :
  Calls Tryz.prog 86 #[.string s] w fun e w' => e = .returned (.int .i64 (if rightL neg T.data.toList = true then 0 else 2)) ∧ w = w' := by
 have HC := Lib.hid hcut
 clear hcut
 have hl : T.data.toList.length = T.size := (Lib.size_eq T).symm
 have hbad : headB neg T.data.toList = false → (if rightL neg T.data.toList = true then (0 : Int) else 2) = 2 := fun h => by rw [if_neg]; unfold rightL; rw [h]; simp
 have hgood : headB neg T.data.toList = true → allDigB T.data.toList = true → (if rightL neg T.data.toList = true then (0 : Int) else 2) = 0 := fun h k => by rw [if_pos]; unfold rightL; rw [h, k]; rfl
 have hdig : allDigB T.data.toList = false → (if rightL neg T.data.toList = true then (0 : Int) else 2) = 2 := fun h => by rw [if_neg]; unfold rightL; rw [h]; simp
 obtain ⟨Z, hZ⟩ : ∃ Z, (if rightL neg T.data.toList = true then (0 : Int) else 2) = Z := ⟨_, rfl⟩
 rw [hZ] at hbad hgood hdig ⊢
 have HB := Lib.hid hdig
 clear hdig hZ
 by_cases hne : T.size = 0
 ·have hn : T.data.toList = [] := List.length_eq_zero_iff.1 (by omega)
  have HV := Lib.hid (hbad (by rw [hn]; rfl))
  have hTn : T.toList = [] := by rw [ByteArray.toList_eq, hn]
  have hTe : T.toList.isEmpty = true := by rw [hTn]; rfl
  clear hbad hgood HB hn hl hne
  go_enter Tryz.func86, Tryz.ntmps86
  go_wp2_with (go_at_call 109; refine (HC.out _).mono ?_; rintro e w' ⟨rfl, rfl⟩)
  go_ret
  exact ⟨ret_int HV.out.symm, rfl⟩
 have hTe : T.toList.isEmpty = false := by
  rw [ByteArray.toList_eq]
  cases h : T.data.toList with
  | nil => rw [h] at hl; exact absurd hl.symm hne
  | cons c l => rfl
 have hTb : (T.toList == []) = false := by rw [List.isEmpty_eq_false_iff] at hTe; exact beq_eq_false_iff_ne.2 hTe
 have hne1 : T.data.toList.isEmpty = false := by rw [← ByteArray.toList_eq]; exact hTe
 have h0 : 0 < T.size := by omega
 by_cases hlong : 200 < T.size
 ·have HV := Lib.hid (hbad (by unfold headB; rw [hl, decide_eq_false (by omega)]; simp))
  have hli : (200 : Int) < (T.size : Int) := by omega
  clear hbad hgood HB hne1
  go_enter Tryz.func86, Tryz.ntmps86
  go_wp2_with (go_at_call 109; refine (HC.out _).mono ?_; rintro e w' ⟨rfl, rfl⟩)
  go_ret
  exact ⟨ret_int HV.out.symm, rfl⟩
 have hl1 : decide ((200 : Int) < (T.size : Int)) = false := decide_eq_false (by omega)
 have hl2 : decide (200 < T.size) = false := decide_eq_false hlong
 have hh := head_of T h0
 have hle : decide (T.data.toList.length ≤ 200) = true := decide_eq_true (by omega)
 by_cases h48 : T[0].toNat = 48
 ·have hc : ((T[0].toNat : Int) == 48) = true := by rw [h48]; rfl
  have h8 : T[0] = 48 := UInt8.toNat_inj.1 h48
  by_cases hone : 1 < T.size
  ·have HV := Lib.hid (hbad (by unfold headB; rw [hh, h8, hl, decide_eq_true hone]; simp))
   have hoi : (1 : Int) < (T.size : Int) := by omega
   clear hbad hgood HB hne1 hh hle hlong hne h8
   go_enter Tryz.func86, Tryz.ntmps86
   go_wp2_with (go_at_call 109; refine (HC.out _).mono ?_; rintro e w' ⟨rfl, rfl⟩)
   go_ret
   exact ⟨ret_int HV.out.symm, rfl⟩
  have ho1 : decide ((1 : Int) < (T.size : Int)) = false := decide_eq_false (by omega)
  have ho2 : decide (1 < T.size) = false := decide_eq_false hone
  cases neg with
  | true =>
   have HV := Lib.hid (hbad (by unfold headB; rw [hh, h8]; simp))
   clear hbad hgood HB hne1 hh hle hlong hne h8
   go_enter Tryz.func86, Tryz.ntmps86
   go_wp2_with (go_at_call 109; refine (HC.out _).mono ?_; rintro e w' ⟨rfl, rfl⟩)
   go_ret
   exact ⟨ret_int HV.out.symm, rfl⟩
  | false =>
   have HG := Lib.hid (hgood (by unfold headB; rw [hh, h8, hle, hne1, hl, ho2]; simp))
   clear hbad hgood hne1 hh hle hlong hne h8
   go_enter Tryz.func86, Tryz.ntmps86
   go_wp2_with (go_at_call 109; refine (HC.out _).mono ?_; rintro e w' ⟨rfl, rfl⟩)
   go_loop [5, 33] (fun _ iv => ∃ k : Nat, k ≤ T.size ∧ iv = .int .i64 k ∧ Hid (AllDig (T.data.toList.take k))) (fun _ iv => T.size - (intOf iv).toNat)
   case atStart => exact ⟨0, Nat.zero_le _, rfl, Lib.hid (by intro c hc; simp at hc)⟩
   case round =>
    obtain ⟨k, hk, rfl, HK⟩ := hrel
    by_cases hlt : k < T.size
    ·by_cases hlo : T[k].toNat < 48
     ·have HV := Lib.hid (HB.out (notDig_of_get T k hlt (by omega)))
      go_wp2
      go_ret
      exact ⟨ret_int HV.out.symm, rfl⟩
     ·have hlo' : decide ((T[k].toNat : Int) < 48) = false := decide_eq_false (by omega)
      by_cases hhi : 57 < T[k].toNat
      ·have HV := Lib.hid (HB.out (notDig_of_get T k hlt (by omega)))
       go_wp2
       go_ret
       exact ⟨ret_int HV.out.symm, rfl⟩
      ·have hhi' : decide ((57 : Int) < (T[k].toNat : Int)) = false := decide_eq_false (by omega)
       have HN : Hid (AllDig (T.data.toList.take (k + 1))) := Lib.hid (allDig_succ T k hlt HK.out ⟨by omega, by omega⟩)
       clear hlo hhi
       go_wp2
       go_round
       case rel => exact ⟨k + 1, by omega, by go_num, HN⟩
       case measure => simp [intOf]; omega
    ·obtain rfl : k = T.size := by omega
     have HV := Lib.hid (HG.out (allDig_whole T HK.out))
     go_wp2
     go_ret
     exact ⟨ret_int HV.out.symm, rfl⟩
 ·have hc : ((T[0].toNat : Int) == 48) = false := beq_eq_false_iff_ne.2 (by omega)
  have hc2 : (T[0] == 48) = false := beq_eq_false_iff_ne.2 (fun e => h48 (by rw [e]; rfl))
  have HG := Lib.hid (hgood (by
   unfold headB
   rw [hh, hle, hne1]
   have : (some T[0] == some (48 : UInt8)) = false := by simpa using hc2
   rw [this]; rfl))
  clear hbad hgood hne1 hh hle hlong hne hc2
  go_enter Tryz.func86, Tryz.ntmps86
  go_wp2_with (go_at_call 109; refine (HC.out _).mono ?_; rintro e w' ⟨rfl, rfl⟩)
  go_loop [5, 33] (fun _ iv => ∃ k : Nat, k ≤ T.size ∧ iv = .int .i64 k ∧ Hid (AllDig (T.data.toList.take k))) (fun _ iv => T.size - (intOf iv).toNat)
  case atStart => exact ⟨0, Nat.zero_le _, rfl, Lib.hid (by intro c hc; simp at hc)⟩
  case round =>
   obtain ⟨k, hk, rfl, HK⟩ := hrel
   by_cases hlt : k < T.size
   ·by_cases hlo : T[k].toNat < 48
    ·have HV := Lib.hid (HB.out (notDig_of_get T k hlt (by omega)))
     go_wp2
     go_ret
     exact ⟨ret_int HV.out.symm, rfl⟩
    ·have hlo' : decide ((T[k].toNat : Int) < 48) = false := decide_eq_false (by omega)
     by_cases hhi : 57 < T[k].toNat
     ·have HV := Lib.hid (HB.out (notDig_of_get T k hlt (by omega)))
      go_wp2
      go_ret
      exact ⟨ret_int HV.out.symm, rfl⟩
     ·have hhi' : decide ((57 : Int) < (T[k].toNat : Int)) = false := decide_eq_false (by omega)
      have HN : Hid (AllDig (T.data.toList.take (k + 1))) := Lib.hid (allDig_succ T k hlt HK.out ⟨by omega, by omega⟩)
      clear hlo hhi
      go_wp2
      go_round
      case rel => exact ⟨k + 1, by omega, by go_num, HN⟩
      case measure => simp [intOf]; omega
   ·obtain rfl : k = T.size := by omega
    have HV := Lib.hid (HG.out (allDig_whole T HK.out))
    go_wp2
    go_ret
    exact ⟨ret_int HV.out.symm, rfl⟩

def rightS : List UInt8 → Bool
 | [] => false
 | c :: m => if c = 45 then rightL true m else rightL false (c :: m)

theorem check_any (s : ByteArray) (w : World) (hs : s.size ≤ 1000000) :
  Calls Tryz.prog 86 #[.string s] w fun e w' => e = .returned (.int .i64 (if rightS s.data.toList = true then 0 else 2)) ∧ w = w' := by
 have hl : s.data.toList.length = s.size := (Lib.size_eq s).symm
 have e45 : (⟨#[45]⟩ : ByteArray).data.toList = [45] := rfl
 cases hsl : s.data.toList with
 | nil =>
  have hcut : ∀ W, Calls Tryz.prog 109 #[.string s, .string ⟨#[45]⟩] W fun e w' => e = .returned (.tuple #[.string s, .bool false]) ∧ W = w' := fun W => by
   refine (Tryz.strings_CutPrefix s ⟨#[45]⟩ W).mono ?_
   rintro e w' ⟨rfl, rfl⟩
   have es : (⟨([] : List UInt8).toArray⟩ : ByteArray) = s := by rw [← hsl]
   rw [hsl, e45, show Lib.trimPrefix ([] : List UInt8) [45] = [] from rfl, show Lib.hasPrefix ([] : List UInt8) [45] = false from rfl, es]
   exact ⟨rfl, rfl⟩
  have h := check_of s s false w hs hcut
  rw [hsl] at h
  exact h
 | cons c m =>
  have hm : m.length ≤ 1000000 := by rw [hsl] at hl; simp at hl; omega
  have es : (⟨(c :: m).toArray⟩ : ByteArray) = s := by rw [← hsl]
  by_cases h45 : c = 45
  ·subst h45
   have h := check_of s ⟨m.toArray⟩ true w hm (fun W => by
    refine (Tryz.strings_CutPrefix s ⟨#[45]⟩ W).mono ?_
    rintro e w' ⟨rfl, rfl⟩
    rw [hsl, e45, (pre_cons 45 45 m).1, (pre_cons 45 45 m).2, if_pos rfl]
    exact ⟨rfl, rfl⟩)
   exact h
  ·have h := check_of s s false w hs (fun W => by
    refine (Tryz.strings_CutPrefix s ⟨#[45]⟩ W).mono ?_
    rintro e w' ⟨rfl, rfl⟩
    have hb : ((45 : UInt8) == c) = false := beq_eq_false_iff_ne.2 (fun e => h45 e.symm)
    rw [hsl, e45, (pre_cons c 45 m).1, (pre_cons c 45 m).2, if_neg (fun e => h45 e.symm), es, hb]
    exact ⟨rfl, rfl⟩)
   rw [hsl] at h
   have e : rightS (c :: m) = rightL false (c :: m) := by simp only [rightS, if_neg h45]
   rw [e]
   exact h

end Go.Proofs.YtnallacamijkeaaGreatDoor
