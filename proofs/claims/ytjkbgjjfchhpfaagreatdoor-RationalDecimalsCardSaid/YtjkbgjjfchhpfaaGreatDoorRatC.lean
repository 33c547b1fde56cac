/- The walks of rational.Neg, Sign, Sub, Middle, Floor, nearest, New and Of. -/
import Derived.Test.YtjkbgjjfchhpfaaGreatDoorRatB
import Derived.Test.YtjkbgjjfchhpfaaGreatDoorGText
namespace Go.Proofs.YtjkbgjjfchhpfaaGreatDoor
open Go.RowKit

theorem first_minus (q : Rat) (h : 0 < (canonR q).size) : q.num < 0 ↔ (canonR q)[0].toNat = 45 := by
  have h1 := (qtext_of q.num q.den).gm h
  by_cases hn : q.num < 0
  · simp only [if_pos hn] at h1
    exact ⟨fun _ => h1.1 trivial, fun _ => hn⟩
  · simp only [if_neg hn] at h1
    exact ⟨fun h => absurd h hn, fun h => by have := h1.2 h; omega⟩

theorem mdig_neg (n : Int) : mdig (-n) = mdig n := by unfold mdig; rw [Int.natAbs_neg]

theorem ratL_neg (n : Int) (d : Nat) (h : 0 < n) : ratL (-n) d = 45 :: ratL n d := by
  have e1 : Lib.itoa (-n) = 45 :: mdig n := by
    rcases itoa_cases (-n) with ⟨h1, e⟩ | ⟨h1, e⟩
    · omega
    · rw [e, mdig_neg]
  have e2 : Lib.itoa n = mdig n := by
    rcases itoa_cases n with ⟨h1, e⟩ | ⟨h1, e⟩
    · exact e
    · omega
  unfold ratL
  rw [e1, e2]
  split <;> rfl

theorem canonR_neg_pos (q : Rat) (h : 0 < q.num) : canonR (-q) = (⟨#[45]⟩ : ByteArray) ++ canonR q := by
  rw [minus_app]
  show ratT (-q).num (-q).den = _
  rw [Rat.neg_num, Rat.neg_den]
  unfold ratT
  rw [ratL_neg _ _ h]
  rfl

theorem canonR_neg_neg (q : Rat) (h : q.num < 0) : canonR (-q) = (canonR q).extract 1 (canonR q).size := by
  refine ba_ext ?_
  rw [Lib.extract_to_end]
  have e := ratL_neg (-q.num) q.den (by omega)
  rw [Int.neg_neg] at e
  show ratL (-q).num (-q).den = (ratL q.num q.den).drop 1
  rw [Rat.neg_num, Rat.neg_den, e]
  rfl

set_option maxHeartbeats 1000000 in
theorem rneg_any (q : Rat) (w : World) (hs : (canonR q).size ≤ 100000) :
    Calls Tryz.prog 44 #[.string (canonR q)] w fun e w' => e = .returned (.string (canonR (-q))) ∧ Below w.heap.size w w' := by
  have hz := canonR_beq0 q
  have h0 := canonR_pos q
  have hm := first_minus q h0
  have h1 : 1 ≤ (canonR q).size := h0
  by_cases hq : q = 0
  · rw [decide_eq_true hq] at hz
    have HR : Hid (canonR (-q) = canonR q) := by rw [hq]; rfl
    generalize canonR (-q) = R at *
    generalize canonR q = T at *
    clear hm hq
    go_enter Tryz.func44, Tryz.ntmps44
    go_wp2
    go_ret
    rw [HR.out]
    exact ⟨rfl, Below.refl _ _⟩
  · rw [decide_eq_false hq] at hz
    by_cases hn : q.num < 0
    · have HR := Lib.hid (canonR_neg_neg q hn)
      have h45 := hm.1 hn
      generalize canonR (-q) = R at *
      generalize canonR q = T at *
      have hc : ((T[0].toNat : Int) == 45) = true := by rw [h45]; rfl
      clear hm hq hn h45
      go_enter Tryz.func44, Tryz.ntmps44
      go_wp2
      go_ret
      rw [HR.out]
      exact ⟨rfl, Below.refl _ _⟩
    · have hp : 0 < q.num := by
        rcases Int.lt_or_eq_of_le (show 0 ≤ q.num by omega) with h | h
        · exact h
        · exact absurd (Rat.num_eq_zero.1 h.symm) hq
      have HR := Lib.hid (canonR_neg_pos q hp)
      have h45 : ¬ (canonR q)[0].toNat = 45 := fun h => hn (hm.2 h)
      generalize canonR (-q) = R at *
      generalize canonR q = T at *
      have hc : ((T[0].toNat : Int) == 45) = false := beq_eq_false_iff_ne.2 (by omega)
      clear hm hq hn h45 hp
      go_enter Tryz.func44, Tryz.ntmps44
      go_wp2
      go_ret
      rw [HR.out]
      exact ⟨rfl, Below.refl _ _⟩

set_option maxHeartbeats 1000000 in
theorem rsign_any (q : Rat) (w : World) (_ : (canonR q).size ≤ 100000) :
    Calls Tryz.prog 51 #[.string (canonR q)] w fun e w' => e = .returned (.int .i64 q.num.sign) ∧ w = w' := by
  have hz := canonR_beq0 q
  have h0 := canonR_pos q
  have hm := first_minus q h0
  by_cases hq : q = 0
  · rw [decide_eq_true hq] at hz
    have HR : Hid (q.num.sign = 0) := by rw [hq]; rfl
    generalize q.num.sign = R at *
    generalize canonR q = T at *
    clear hm hq
    go_enter Tryz.func51, Tryz.ntmps51
    go_wp2
    go_ret
    rw [HR.out]
    exact ⟨rfl, rfl⟩
  · rw [decide_eq_false hq] at hz
    by_cases hn : q.num < 0
    · have HR := Lib.hid (Int.sign_eq_neg_one_of_neg hn)
      have h45 := hm.1 hn
      generalize q.num.sign = R at *
      generalize canonR q = T at *
      have hc : ((T[0].toNat : Int) == 45) = true := by rw [h45]; rfl
      clear hm hq hn h45
      go_enter Tryz.func51, Tryz.ntmps51
      go_wp2
      go_ret
      rw [HR.out]
      exact ⟨rfl, rfl⟩
    · have hp : 0 < q.num := by
        rcases Int.lt_or_eq_of_le (show 0 ≤ q.num by omega) with h | h
        · exact h
        · exact absurd (Rat.num_eq_zero.1 h.symm) hq
      have HR := Lib.hid (Int.sign_eq_one_of_pos hp)
      have h45 : ¬ (canonR q)[0].toNat = 45 := fun h => hn (hm.2 h)
      generalize q.num.sign = R at *
      generalize canonR q = T at *
      have hc : ((T[0].toNat : Int) == 45) = false := beq_eq_false_iff_ne.2 (by omega)
      clear hm hq hn h45 hp
      go_enter Tryz.func51, Tryz.ntmps51
      go_wp2
      go_ret
      rw [HR.out]
      exact ⟨rfl, rfl⟩

theorem Sz.neg {q : Rat} {N : Nat} (h : Sz q N) : Sz (-q) N := by
  unfold Sz
  rw [Rat.neg_num, Rat.neg_den, Int.natAbs_neg]
  exact h

set_option maxHeartbeats 1000000 in
theorem rsub_any (a b : Rat) (N : Nat) (hN0 : 0 < N) (hN : N ≤ 1000) (ha : Sz a N) (hb : Sz b N) (w : World) (he : Env w) :
    Calls Tryz.prog 42 #[.string (canonR a), .string (canonR b)] w fun e w' => e = .returned (.string (canonR (a - b))) ∧ Below w.heap.size w w' := by
  have h1 := fun W => rneg_any b W (by have := hb.text hN0; omega)
  have h2 := fun W (hW : Below w.heap.size w W) => radd_any a (-b) N hN0 hN ha hb.neg W (he.below hW)
  rw [← Rat.sub_eq_add_neg] at h2
  generalize canonR (a - b) = R at *
  generalize canonR (-b) = T at *
  have H1 := Lib.hid h1
  have H2 := Lib.hid h2
  clear h1 h2 he ha hb
  go_enter Tryz.func42, Tryz.ntmps42
  go_wp2_with (first
    | (go_at_call 44; (with_reducible refine (H1.out _).mono ?_); rintro e w1 ⟨rfl, q⟩; have B1 := Lib.hid q; clear q)
    | (go_at_call 41; (with_reducible refine (H2.out _ B1.out).mono ?_); rintro e w2 ⟨rfl, q⟩; have B2 := Lib.hid (B1.out.trans (q.mono B1.out.size)); clear q)
    | fail "arm")
  go_ret
  exact ⟨rfl, B2.out⟩

/-- One half. -/
def half : Rat := mkRat 1 2
theorem half_num : half.num = 1 := by decide
theorem half_den : half.den = 2 := by decide
theorem k_2 : canon 2 = ⟨#[50]⟩ := canon_dig 2 (by omega)
theorem k_half : canonR half = ⟨#[49, 47, 50]⟩ := by
  unfold canonR
  rw [half_num, half_den, ratT_frac 1 2 (by omega), k_1, show ((2 : Nat) : Int) = 2 from rfl, k_2]
  rfl
theorem half_sz (N : Nat) (h : 0 < N) : Sz half N := by
  have h1 : (10 : Nat) ^ 1 ≤ 10 ^ N := Nat.pow_le_pow_right (by omega) h
  unfold Sz
  rw [half_num, half_den]
  omega

set_option maxHeartbeats 1000000 in
theorem rmiddle_any (a b : Rat) (N : Nat) (hN0 : 0 < N) (hN : N ≤ 400) (ha : Sz a N) (hb : Sz b N) (w : World) (he : Env w) :
    Calls Tryz.prog 48 #[.string (canonR a), .string (canonR b)] w fun e w' => e = .returned (.string (canonR ((a + b) * half))) ∧ Below w.heap.size w w' := by
  have h1 := fun W (hW : Below w.heap.size w W) => radd_any a b N hN0 (by omega) ha hb W (he.below hW)
  have h2 := fun W (hW : Below w.heap.size w W) => rmul_any (a + b) half (N + N + 1) (by omega) (by omega) (ha.add hb) (half_sz _ (by omega)) W (he.below hW)
  rw [k_half] at h2
  generalize canonR ((a + b) * half) = R at *
  generalize canonR (a + b) = T at *
  have H1 := Lib.hid h1
  have H2 := Lib.hid h2
  clear h1 h2 he ha hb
  go_enter Tryz.func48, Tryz.ntmps48
  go_wp2_with (first
    | (go_at_call 41; (with_reducible refine (H1.out _ (Below.refl _ _)).mono ?_); rintro e w1 ⟨rfl, q⟩; have B1 := Lib.hid q; clear q)
    | (go_at_call 38; (with_reducible refine (H2.out _ B1.out).mono ?_); rintro e w2 ⟨rfl, q⟩; have B2 := Lib.hid (B1.out.trans (q.mono B1.out.size)); clear q)
    | fail "arm")
  go_ret
  exact ⟨rfl, B2.out⟩

theorem floor_neg (n d : Int) (hd : 0 < d) : ((-n) % d = 0 → -((-n) / d) = n / d) ∧ ((-n) % d ≠ 0 → -((-n) / d + 1) = n / d) := by
  have h1 := Int.mul_ediv_add_emod (-n) d
  have h2 := Int.emod_nonneg (-n) (show d ≠ 0 by omega)
  have h3 := Int.emod_lt_of_pos (-n) hd
  generalize (-n) / d = q at *
  generalize (-n) % d = r at *
  constructor
  · intro hr
    have := (Int.ediv_emod_unique (a := n) (b := d) (r := 0) (q := -q) (by omega)).2 ⟨by rw [Int.mul_neg]; omega, by omega, by omega⟩
    exact this.1.symm
  · intro hr
    have := (Int.ediv_emod_unique (a := n) (b := d) (r := d - r) (q := -(q + 1)) (by omega)).2 ⟨by rw [Int.mul_neg, Int.mul_add]; omega, by omega, by omega⟩
    exact this.1.symm

set_option maxRecDepth 100000 in
set_option maxHeartbeats 2000000 in
theorem rfloor_any (q : Rat) (N : Nat) (hN0 : 0 < N) (hN : N ≤ 4000) (hq : Sz q N) (w : World) (he : Env w) :
    Calls Tryz.prog 33 #[.string (canonR q)] w fun e w' => e = .returned (.string (canon (q.num / (q.den : Int)))) ∧ Below w.heap.size w w' := by
  have hsq := hq.text hN0
  have a1 := hq.num hN0
  have a2 := hq.den hN0
  have dp : 0 < (q.den : Int) := by have := q.den_nz; omega
  have pa := fun W (hW : Below w.heap.size w W) => rparts_any q.num q.den W (he.below hW).2 (by have : (ratT q.num q.den).size = (canonR q).size := rfl; omega)
  rw [show ratT q.num q.den = canonR q from rfl] at pa
  have sg := fun W => sign_any q.num W
  have d1 := fun W (hW : Below w.heap.size w W) => divmod_any q.num (q.den : Int) W (he.below hW).1 (by omega) (by omega) (by omega)
  have ng := fun W => neg_any q.num W (by omega)
  have hns := canon_neg_size q.num (N + 1) a1
  have d2 := fun W (hW : Below w.heap.size w W) => divmod_any (-q.num) (q.den : Int) W (he.below hW).1 (by omega) (by omega) (by omega)
  have hqs : (canon ((-q.num) / (q.den : Int))).size ≤ N + 1 := canon_size_lt _ N (Nat.lt_of_le_of_lt (Int.natAbs_ediv_le_natAbs _ _) (by rw [Int.natAbs_neg]; exact hq.1)) hN0
  have hqs1 : (canon ((-q.num) / (q.den : Int) + 1)).size ≤ N + 2 := by
    refine canon_size_lt _ (N + 1) ?_ (by omega)
    have h1 : ((-q.num) / (q.den : Int)).natAbs < 10 ^ N := Nat.lt_of_le_of_lt (Int.natAbs_ediv_le_natAbs _ _) (by rw [Int.natAbs_neg]; exact hq.1)
    rw [Nat.pow_succ]
    generalize (10 : Nat) ^ N = s at *
    omega
  have k1 := k_1
  have ad := fun W (hW : Below w.heap.size w W) => add_any ((-q.num) / (q.den : Int)) 1 W (he.below hW).1 (by omega) (by rw [k1]; exact (by decide : (1 : Nat) ≤ 10000))
  rw [k1] at ad
  have n1 := fun W => neg_any ((-q.num) / (q.den : Int)) W (by omega)
  have n2 := fun W => neg_any ((-q.num) / (q.den : Int) + 1) W (by omega)
  obtain ⟨f1, f2⟩ := floor_neg q.num (q.den : Int) dp
  have hz := canon_beq0 ((-q.num) % (q.den : Int))
  generalize canonR q = T at *
  by_cases hn : q.num < 0
  · rw [Int.sign_eq_neg_one_of_neg hn] at sg
    by_cases hr : (-q.num) % (q.den : Int) = 0
    · rw [f1 hr] at n1
      rw [decide_eq_true hr] at hz
      generalize q.num / (q.den : Int) = R at *
      generalize (-q.num) % (q.den : Int) = rr at *
      generalize (-q.num) / (q.den : Int) = qq at *
      generalize -q.num = nn at *
      have hzn : ((canon rr).toList != [48]) = false := by rw [bne, hz]; rfl
      have PA := Lib.hid pa
      have SG := Lib.hid sg
      have NG := Lib.hid ng
      have D2 := Lib.hid d2
      have N1 := Lib.hid n1
      clear pa sg ng d1 d2 n1 n2 ad f1 f2 hn hr hqs hqs1 hns a1 a2 k1 dp he hq hN hN0
      go_enter Tryz.func33, Tryz.ntmps33
      go_wp2_with (first
        | (go_at_call 58; (with_reducible refine (PA.out _ (Below.refl _ _)).mono ?_); rintro e w1 ⟨rfl, q⟩; have B1 := Lib.hid (q.below w.heap.size); clear q)
        | (go_at_call 81; (with_reducible refine (SG.out _).mono ?_); rintro e w2 ⟨rfl, rfl⟩)
        | (go_at_call 70; (with_reducible refine (NG.out _).mono ?_); rintro e w3 ⟨rfl, q⟩; have B3 := Lib.hid (B1.out.trans (q.mono B1.out.size)); clear q)
        | (go_at_call 96; (with_reducible refine (D2.out _ B3.out).mono ?_); rintro e w4 ⟨rfl, q⟩; have B4 := Lib.hid (B3.out.trans (q.mono B3.out.size)); clear q)
        | (go_at_call 70; (with_reducible refine (N1.out _).mono ?_); rintro e w5 ⟨rfl, q⟩; have B5 := Lib.hid (B4.out.trans (q.mono B4.out.size)); clear q)
        | fail "arm")
      go_ret
      exact ⟨rfl, B5.out⟩
    · rw [f2 hr] at n2
      rw [decide_eq_false hr] at hz
      generalize q.num / (q.den : Int) = R at *
      generalize (-q.num) % (q.den : Int) = rr at *
      generalize (-q.num) / (q.den : Int) = qq at *
      generalize qq + 1 = q1 at *
      generalize -q.num = nn at *
      have hzn : ((canon rr).toList != [48]) = true := by rw [bne, hz]; rfl
      have PA := Lib.hid pa
      have SG := Lib.hid sg
      have NG := Lib.hid ng
      have D2 := Lib.hid d2
      have AD := Lib.hid ad
      have N2 := Lib.hid n2
      clear pa sg ng d1 d2 n1 n2 ad f1 f2 hn hr hqs hqs1 hns a1 a2 k1 dp he hq hN hN0
      go_enter Tryz.func33, Tryz.ntmps33
      go_wp2_with (first
        | (go_at_call 58; (with_reducible refine (PA.out _ (Below.refl _ _)).mono ?_); rintro e w1 ⟨rfl, q⟩; have B1 := Lib.hid (q.below w.heap.size); clear q)
        | (go_at_call 81; (with_reducible refine (SG.out _).mono ?_); rintro e w2 ⟨rfl, rfl⟩)
        | (go_at_call 70; (with_reducible refine (NG.out _).mono ?_); rintro e w3 ⟨rfl, q⟩; have B3 := Lib.hid (B1.out.trans (q.mono B1.out.size)); clear q)
        | (go_at_call 96; (with_reducible refine (D2.out _ B3.out).mono ?_); rintro e w4 ⟨rfl, q⟩; have B4 := Lib.hid (B3.out.trans (q.mono B3.out.size)); clear q)
        | (go_at_call 97; (with_reducible refine (AD.out _ B4.out).mono ?_); rintro e w6 ⟨rfl, q⟩; have B6 := Lib.hid (B4.out.trans (q.mono B4.out.size)); clear q)
        | (go_at_call 70; (with_reducible refine (N2.out _).mono ?_); rintro e w5 ⟨rfl, q⟩; have B5 := Lib.hid (B6.out.trans (q.mono B6.out.size)); clear q)
        | fail "arm")
      go_ret
      exact ⟨rfl, B5.out⟩
  · have hs0 : 0 ≤ q.num.sign := by
      rcases Int.lt_or_eq_of_le (show 0 ≤ q.num by omega) with h | h
      · rw [Int.sign_eq_one_of_pos h]; omega
      · rw [← h]; exact Int.le_refl _
    generalize q.num.sign = s at *
    generalize q.num / (q.den : Int) = R at *
    generalize q.num % (q.den : Int) = rr at *
    have PA := Lib.hid pa
    have SG := Lib.hid sg
    have D1 := Lib.hid d1
    clear pa sg ng d1 d2 n1 n2 ad f1 f2 hn hqs hqs1 hns a1 a2 k1 dp he hq hN hN0 hz
    go_enter Tryz.func33, Tryz.ntmps33
    go_wp2_with (first
      | (go_at_call 58; (with_reducible refine (PA.out _ (Below.refl _ _)).mono ?_); rintro e w1 ⟨rfl, q⟩; have B1 := Lib.hid (q.below w.heap.size); clear q)
      | (go_at_call 81; (with_reducible refine (SG.out _).mono ?_); rintro e w2 ⟨rfl, rfl⟩)
      | (go_at_call 96; (with_reducible refine (D1.out _ B1.out).mono ?_); rintro e w4 ⟨rfl, q⟩; have B4 := Lib.hid (B1.out.trans (q.mono B1.out.size)); clear q)
      | fail "arm")
    go_ret
    exact ⟨rfl, B4.out⟩

set_option maxHeartbeats 1000000 in
theorem rnearest_any (q : Rat) (N : Nat) (hN0 : 0 < N) (hN : N ≤ 1000) (hq : Sz q N) (w : World) (he : Env w) :
    Calls Tryz.prog 78 #[.string (canonR q)] w fun e w' => e = .returned (.string (canon ((q + half).num / ((q + half).den : Int)))) ∧ Below w.heap.size w w' := by
  have h1 := fun W (hW : Below w.heap.size w W) => radd_any q half N hN0 hN hq (half_sz N hN0) W (he.below hW)
  rw [k_half] at h1
  have h2 := fun W (hW : Below w.heap.size w W) => rfloor_any (q + half) (N + N + 1) (by omega) (by omega) (hq.add (half_sz N hN0)) W (he.below hW)
  generalize (q + half).num / ((q + half).den : Int) = R at *
  generalize canonR (q + half) = T at *
  have H1 := Lib.hid h1
  have H2 := Lib.hid h2
  clear h1 h2 he hq
  go_enter Tryz.func78, Tryz.ntmps78
  go_wp2_with (first
    | (go_at_call 41; (with_reducible refine (H1.out _ (Below.refl _ _)).mono ?_); rintro e w1 ⟨rfl, q⟩; have B1 := Lib.hid q; clear q)
    | (go_at_call 33; (with_reducible refine (H2.out _ B1.out).mono ?_); rintro e w2 ⟨rfl, q⟩; have B2 := Lib.hid (B1.out.trans (q.mono B1.out.size)); clear q)
    | fail "arm")
  go_ret
  exact ⟨rfl, B2.out⟩

set_option maxHeartbeats 1000000 in
theorem rnew_any (neg : Bool) (n : Int) (D : Nat) (w : World) (ht : Pow10 w) (hD : 0 < D) (hn : (canon n).size ≤ 9000) (hd : (canon (D : Int)).size ≤ 9000) :
    Calls Tryz.prog 30 #[.string (canon (if neg then -n else n)), .string (canon (if neg then -(D : Int) else (D : Int)))] w fun e w' => e = .returned (.tuple #[.string (canonR (mkRat n D)), .int .i64 0]) ∧ Below w.heap.size w w' := by
  have h1 := fun W => sign_any (if neg = true then -(D : Int) else (D : Int)) W
  have hsg : (if neg = true then -(D : Int) else (D : Int)).sign ≠ 0 := by
    cases neg
    · rw [if_neg (by simp), Int.sign_eq_one_of_pos (by omega)]; omega
    · rw [if_pos rfl, Int.sign_eq_neg_one_of_neg (by omega)]; omega
  have h2 := fun W (hW : Below w.heap.size w W) => lowest_any neg n D W (ht.below hW) hD hn hd
  generalize (if neg = true then -(D : Int) else (D : Int)).sign = s at *
  generalize (if neg = true then -(D : Int) else (D : Int)) = dd at *
  generalize (if neg = true then -n else n) = nn at *
  generalize canonR (mkRat n D) = R at *
  have hs : (s == 0) = false := beq_eq_false_iff_ne.2 hsg
  have H1 := Lib.hid h1
  have H2 := Lib.hid h2
  clear h1 h2 ht hn hd hsg hD
  go_enter Tryz.func30, Tryz.ntmps30
  go_wp2_with (first
    | (go_at_call 81; (with_reducible refine (H1.out _).mono ?_); rintro e w1 ⟨rfl, rfl⟩)
    | (go_at_call 71; (with_reducible refine (H2.out _ (Below.refl _ _)).mono ?_); rintro e w2 ⟨rfl, q⟩; have B2 := Lib.hid q; clear q)
    | fail "arm")
  go_ret2
  exact ⟨rfl, B2.out⟩

set_option maxHeartbeats 1000000 in
theorem rof_any (neg : Bool) (n : Int) (D : Nat) (w : World) (ht : Pow10 w) (hD : 0 < D) (hn0 : -1000000000000000000 ≤ n) (hn1 : n ≤ 1000000000000000000) (hd : D ≤ 1000000000000000000) :
    Calls Tryz.prog 31 #[.int .i64 (if neg then -n else n), .int .i64 (if neg then -(D : Int) else (D : Int))] w fun e w' => e = .returned (.tuple #[.string (canonR (mkRat n D)), .int .i64 0]) ∧ Below w.heap.size w w' := by
  have s1 : (canon n).size ≤ 20 := canon_size_lt n 19 (by omega) (by omega)
  have s2 : (canon (D : Int)).size ≤ 20 := canon_size_lt (D : Int) 19 (by omega) (by omega)
  have h1 := fun W (hW : Below w.heap.size w W) => of_any (if neg = true then -n else n) (by split <;> omega) (by split <;> omega) W (ht.below hW)
  have h2 := fun W (hW : Below w.heap.size w W) => of_any (if neg = true then -(D : Int) else (D : Int)) (by split <;> omega) (by split <;> omega) W (ht.below hW)
  have h3 := fun W (hW : Below w.heap.size w W) => rnew_any neg n D W (ht.below hW) hD (by omega) (by omega)
  generalize (if neg = true then -(D : Int) else (D : Int)) = dd at *
  generalize (if neg = true then -n else n) = nn at *
  generalize canonR (mkRat n D) = R at *
  have H1 := Lib.hid h1
  have H2 := Lib.hid h2
  have H3 := Lib.hid h3
  clear h1 h2 h3 ht hn0 hn1 hd hD s1 s2
  go_enter Tryz.func31, Tryz.ntmps31
  go_wp2_with (first
    | (go_at_call_of 95 (Value.int .i64 nn); (with_reducible refine (H1.out _ (Below.refl _ _)).mono ?_); rintro e w1 ⟨rfl, q⟩; have B1 := Lib.hid q; clear q)
    | (go_at_call 95; (with_reducible refine (H2.out _ B1.out).mono ?_); rintro e w2 ⟨rfl, q⟩; have B2 := Lib.hid (B1.out.trans (q.mono B1.out.size)); clear q)
    | (go_at_call 30; (with_reducible refine (H3.out _ B2.out).mono ?_); rintro e w3 ⟨rfl, q⟩; have B3 := Lib.hid (B2.out.trans (q.mono B2.out.size)); clear q)
    | fail "arm")
  go_ret2
  exact ⟨rfl, B3.out⟩

end Go.Proofs.YtjkbgjjfchhpfaaGreatDoor
