/- The walks of klipperef02.Neg, Sign, Sub, Compare, Abs, Floor, Nearest, Div and Round, and of rational.Abs, Min, Max, Whole and Round. -/
import Derived.Test.YtjkbgjjfchhpfaaGreatDoorRfC
import Derived.Test.YtjkbgjjfchhpfaaGreatDoorRatH
import Derived.Test.YtjkbgjjfchhpfaaGreatDoorRatD
namespace Go.Proofs.YtjkbgjjfchhpfaaGreatDoor
open Go.RowKit

set_option maxHeartbeats 1000000 in
theorem rnegR_any (q : Rat) (w : World) (hs : (canonR q).size ≤ 100000) :
    Calls Tryz.prog 45 #[.string (canonR q)] w fun e w' => e = .returned (.string (canonR (-q))) ∧ Below w.heap.size w w' := by
  have hz := canonR_beq0 q
  have h0 := canonR_pos q
  have hm := first_minus q h0
  have h1 : 1 ≤ (canonR q).size := h0
  by_cases hq : q = 0
  · rw [decide_eq_true hq] at hz
    have HR : Hid (canonR (-q) = canonR q) := by rw [hq]; rfl
    generalize canonR (-q) = R at *
    generalize canonR q = T at *
    clear hm hq
    go_enter Tryz.func45, Tryz.ntmps45
    go_wp2
    go_ret
    rw [HR.out]
    exact ⟨rfl, Below.refl _ _⟩
  · rw [decide_eq_false hq] at hz
    by_cases hn : q.num < 0
    · have HR := Lib.hid (canonR_neg_neg q hn)
      have h45 := hm.1 hn
      generalize canonR (-q) = R at *
      generalize canonR q = T at *
      have hc : ((T[0].toNat : Int) == 45) = true := by rw [h45]; rfl
      clear hm hq hn h45
      go_enter Tryz.func45, Tryz.ntmps45
      go_wp2
      go_ret
      rw [HR.out]
      exact ⟨rfl, Below.refl _ _⟩
    · have hp : 0 < q.num := by
        rcases Int.lt_or_eq_of_le (show 0 ≤ q.num by omega) with h | h
        · exact h
        · exact absurd (Rat.num_eq_zero.1 h.symm) hq
      have HR := Lib.hid (canonR_neg_pos q hp)
      have h45 : ¬ (canonR q)[0].toNat = 45 := fun h => hn (hm.2 h)
      generalize canonR (-q) = R at *
      generalize canonR q = T at *
      have hc : ((T[0].toNat : Int) == 45) = false := beq_eq_false_iff_ne.2 (by omega)
      clear hm hq hn h45 hp
      go_enter Tryz.func45, Tryz.ntmps45
      go_wp2
      go_ret
      rw [HR.out]
      exact ⟨rfl, Below.refl _ _⟩

set_option maxHeartbeats 1000000 in
theorem rsignR_any (q : Rat) (w : World) (_ : (canonR q).size ≤ 100000) :
    Calls Tryz.prog 52 #[.string (canonR q)] w fun e w' => e = .returned (.int .i64 q.num.sign) ∧ w = w' := by
  have hz := canonR_beq0 q
  have h0 := canonR_pos q
  have hm := first_minus q h0
  by_cases hq : q = 0
  · rw [decide_eq_true hq] at hz
    have HR : Hid (q.num.sign = 0) := by rw [hq]; rfl
    generalize q.num.sign = R at *
    generalize canonR q = T at *
    clear hm hq
    go_enter Tryz.func52, Tryz.ntmps52
    go_wp2
    go_ret
    rw [HR.out]
    exact ⟨rfl, rfl⟩
  · rw [decide_eq_false hq] at hz
    by_cases hn : q.num < 0
    · have HR := Lib.hid (Int.sign_eq_neg_one_of_neg hn)
      have h45 := hm.1 hn
      generalize q.num.sign = R at *
      generalize canonR q = T at *
      have hc : ((T[0].toNat : Int) == 45) = true := by rw [h45]; rfl
      clear hm hq hn h45
      go_enter Tryz.func52, Tryz.ntmps52
      go_wp2
      go_ret
      rw [HR.out]
      exact ⟨rfl, rfl⟩
    · have hp : 0 < q.num := by
        rcases Int.lt_or_eq_of_le (show 0 ≤ q.num by omega) with h | h
        · exact h
        · exact absurd (Rat.num_eq_zero.1 h.symm) hq
      have HR := Lib.hid (Int.sign_eq_one_of_pos hp)
      have h45 : ¬ (canonR q)[0].toNat = 45 := fun h => hn (hm.2 h)
      generalize q.num.sign = R at *
      generalize canonR q = T at *
      have hc : ((T[0].toNat : Int) == 45) = false := beq_eq_false_iff_ne.2 (by omega)
      clear hm hq hn h45 hp
      go_enter Tryz.func52, Tryz.ntmps52
      go_wp2
      go_ret
      rw [HR.out]
      exact ⟨rfl, rfl⟩

set_option maxHeartbeats 1000000 in
theorem rsubR_any (a b : Rat) (N : Nat) (hN0 : 0 < N) (hN : N ≤ 1000) (ha : Sz a N) (hb : Sz b N) (w : World) (he : Env w) :
    Calls Tryz.prog 43 #[.string (canonR a), .string (canonR b)] w fun e w' => e = .returned (.string (canonR (a - b))) ∧ Below w.heap.size w w' := by
  have h1 := fun W => rnegR_any b W (by have := hb.text hN0; omega)
  have h2 := fun W (hW : Below w.heap.size w W) => raddR_any a (-b) N hN0 hN ha hb.neg W (he.below hW)
  rw [← Rat.sub_eq_add_neg] at h2
  generalize canonR (a - b) = R at *
  generalize canonR (-b) = T at *
  have H1 := Lib.hid h1
  have H2 := Lib.hid h2
  clear h1 h2 he ha hb
  go_enter Tryz.func43, Tryz.ntmps43
  go_wp2_with (first
    | (go_at_call 45; (with_reducible refine (H1.out _).mono ?_); rintro e w1 ⟨rfl, q⟩; have B1 := Lib.hid q; clear q)
    | (go_at_call 40; (with_reducible refine (H2.out _ B1.out).mono ?_); rintro e w2 ⟨rfl, q⟩; have B2 := Lib.hid (B1.out.trans (q.mono B1.out.size)); clear q)
    | fail "arm")
  go_ret
  exact ⟨rfl, B2.out⟩

theorem rcompareR_any (a b : Rat) (N : Nat) (hN0 : 0 < N) (hN : N ≤ 1000) (ha : Sz a N) (hb : Sz b N) (w : World) (he : Env w) :
    Calls Tryz.prog 49 #[.string (canonR a), .string (canonR b)] w fun e w' => e = .returned (.int .i64 (cmpR a b)) ∧ Below w.heap.size w w' := by
  have h1 := fun W (hW : Below w.heap.size w W) => rsubR_any a b N hN0 hN ha hb W (he.below hW)
  have hsz : Sz (a - b) (N + N + 1) := by rw [Rat.sub_eq_add_neg]; exact ha.add hb.neg
  have h2 := fun W => rsignR_any (a - b) W (by have := hsz.text (by omega); omega)
  rw [← cmpR_sub] at h2
  generalize cmpR a b = R at *
  generalize canonR (a - b) = T at *
  have H1 := Lib.hid h1
  have H2 := Lib.hid h2
  clear h1 h2 he ha hb
  go_enter Tryz.func49, Tryz.ntmps49
  go_wp2_with (first
    | (go_at_call 43; (with_reducible refine (H1.out _ (Below.refl _ _)).mono ?_); rintro e w1 ⟨rfl, q⟩; have B1 := Lib.hid q; clear q)
    | (go_at_call 52; (with_reducible refine (H2.out _).mono ?_); rintro e w2 ⟨rfl, rfl⟩)
    | fail "arm")
  go_ret
  exact ⟨rfl, B1.out⟩

/-- The magnitude of a number. -/
def absQ (q : Rat) : Rat := if q.num < 0 then -q else q

set_option maxHeartbeats 1000000 in
theorem rabsR_any (q : Rat) (w : World) (hs : (canonR q).size ≤ 100000) :
    Calls Tryz.prog 28 #[.string (canonR q)] w fun e w' => e = .returned (.string (canonR (absQ q))) ∧ Below w.heap.size w w' := by
  have h1 := fun W => rsignR_any q W hs
  have h2 := fun W => rnegR_any q W hs
  by_cases hn : q.num < 0
  · have hR : canonR (absQ q) = canonR (-q) := by unfold absQ; rw [if_pos hn]
    rw [hR]
    have ds : decide (q.num.sign < 0) = true := by rw [Int.sign_eq_neg_one_of_neg hn]; rfl
    generalize q.num.sign = s at *
    generalize canonR (-q) = R at *
    generalize canonR q = T at *
    have H1 := Lib.hid h1
    have H2 := Lib.hid h2
    clear h1 h2 hn hR
    go_enter Tryz.func28, Tryz.ntmps28
    go_wp2_with (first
      | (go_at_call 52; (with_reducible refine (H1.out _).mono ?_); rintro e w2 ⟨rfl, rfl⟩)
      | (go_at_call 45; (with_reducible refine (H2.out _).mono ?_); rintro e w1 ⟨rfl, q⟩; have B1 := Lib.hid q; clear q)
      | fail "arm")
    go_ret
    exact ⟨rfl, B1.out⟩
  · have hR : canonR (absQ q) = canonR q := by unfold absQ; rw [if_neg hn]
    rw [hR]
    have ds : decide (q.num.sign < 0) = false := decide_eq_false (by
      rcases Int.lt_or_eq_of_le (show 0 ≤ q.num by omega) with h | h
      · rw [Int.sign_eq_one_of_pos h]; omega
      · rw [← h]; decide)
    generalize q.num.sign = s at *
    generalize canonR q = T at *
    have H1 := Lib.hid h1
    clear h1 h2 hn hR
    go_enter Tryz.func28, Tryz.ntmps28
    go_wp2_with (first
      | (go_at_call 52; (with_reducible refine (H1.out _).mono ?_); rintro e w2 ⟨rfl, rfl⟩)
      | fail "arm")
    go_ret
    exact ⟨rfl, Below.refl _ _⟩

theorem rabs_any (q : Rat) (w : World) :
    Calls Tryz.prog 46 #[.string (canonR q)] w fun e w' => e = .returned (.string (canonR (absQ q))) ∧ Below w.heap.size w w' := by
  have h0 := canonR_pos q
  have hm := first_minus q h0
  have h1 : 1 ≤ (canonR q).size := h0
  by_cases hn : q.num < 0
  · have hR : canonR (absQ q) = (canonR q).extract 1 (canonR q).size := by unfold absQ; rw [if_pos hn]; exact canonR_neg_neg q hn
    have HR := Lib.hid hR
    have h45 := hm.1 hn
    generalize canonR (absQ q) = R at *
    generalize canonR q = T at *
    have hc : ((T[0].toNat : Int) == 45) = true := by rw [h45]; rfl
    clear hm hn h45 hR
    go_enter Tryz.func46, Tryz.ntmps46
    go_wp2
    go_ret
    rw [HR.out]
    exact ⟨rfl, Below.refl _ _⟩
  · have hR : canonR (absQ q) = canonR q := by unfold absQ; rw [if_neg hn]
    rw [hR]
    have h45 : ¬ (canonR q)[0].toNat = 45 := fun h => hn (hm.2 h)
    generalize canonR q = T at *
    have hc : ((T[0].toNat : Int) == 45) = false := beq_eq_false_iff_ne.2 (by omega)
    clear hm hn h45 hR
    go_enter Tryz.func46, Tryz.ntmps46
    go_wp2
    go_ret
    exact ⟨rfl, Below.refl _ _⟩

set_option maxHeartbeats 1000000 in
theorem rfloorR_any (q : Rat) (N : Nat) (hN0 : 0 < N) (hN : N ≤ 4000) (hq : Sz q N) (w : World) (he : Env w) :
    Calls Tryz.prog 34 #[.string (canonR q)] w fun e w' => e = .returned (.string (canon (q.num / (q.den : Int)))) ∧ Below w.heap.size w w' := by
  have hsq := hq.text hN0
  have a1 := hq.num hN0
  have a2 := hq.den hN0
  have dp : (q.den : Int) ≠ 0 := by have := q.den_nz; omega
  have pa := fun W => partsR_any q.num q.den W (by have : (ratT q.num q.den).size = (canonR q).size := rfl; omega)
  rw [show ratT q.num q.den = canonR q from rfl] at pa
  have h2 := fun W (hW : Below w.heap.size w W) => divmodR_any q.num (q.den : Int) W (he.below hW).1 (by omega) (by omega) dp
  generalize q.num / (q.den : Int) = R at *
  generalize canonR q = T at *
  have H1 := Lib.hid pa
  have H2 := Lib.hid h2
  clear pa h2 he hq dp hsq a1 a2
  go_enter Tryz.func34, Tryz.ntmps34
  go_wp2_with (first
    | (go_at_call 57; (with_reducible refine (H1.out _).mono ?_); rintro e w1 ⟨rfl, q⟩; have B1 := Lib.hid (q.below w.heap.size); clear q)
    | (go_at_call 85; (with_reducible refine (H2.out _ B1.out).mono ?_); rintro e w2 ⟨rfl, q⟩; have B2 := Lib.hid (B1.out.trans (q.mono B1.out.size)); clear q)
    | fail "arm")
  go_ret
  exact ⟨rfl, B2.out⟩

set_option maxHeartbeats 1000000 in
theorem rnearestR_any (q : Rat) (N : Nat) (hN0 : 0 < N) (hN : N ≤ 1000) (hq : Sz q N) (w : World) (he : Env w) :
    Calls Tryz.prog 22 #[.string (canonR q)] w fun e w' => e = .returned (.string (canon ((q + half).num / ((q + half).den : Int)))) ∧ Below w.heap.size w w' := by
  have h1 := fun W (hW : Below w.heap.size w W) => raddR_any q half N hN0 hN hq (half_sz N hN0) W (he.below hW)
  rw [k_half] at h1
  have h2 := fun W (hW : Below w.heap.size w W) => rfloorR_any (q + half) (N + N + 1) (by omega) (by omega) (hq.add (half_sz N hN0)) W (he.below hW)
  generalize (q + half).num / ((q + half).den : Int) = R at *
  generalize canonR (q + half) = T at *
  have H1 := Lib.hid h1
  have H2 := Lib.hid h2
  clear h1 h2 he hq
  go_enter Tryz.func22, Tryz.ntmps22
  go_wp2_with (first
    | (go_at_call 40; (with_reducible refine (H1.out _ (Below.refl _ _)).mono ?_); rintro e w1 ⟨rfl, q⟩; have B1 := Lib.hid q; clear q)
    | (go_at_call 34; (with_reducible refine (H2.out _ B1.out).mono ?_); rintro e w2 ⟨rfl, q⟩; have B2 := Lib.hid (B1.out.trans (q.mono B1.out.size)); clear q)
    | fail "arm")
  go_ret
  exact ⟨rfl, B2.out⟩

set_option maxHeartbeats 1000000 in
theorem rdivR_any (a b : Rat) (N : Nat) (hN0 : 0 < N) (hN : N ≤ 1000) (ha : Sz a N) (hb : Sz b N) (hb0 : b ≠ 0) (w : World) (he : Env w) :
    Calls Tryz.prog 39 #[.string (canonR a), .string (canonR b)] w fun e w' => e = .returned (.string (canonR (a / b))) ∧ Below w.heap.size w w' := by
  have hsb := hb.text hN0
  have b1 := hb.num hN0
  have b2 := hb.den hN0
  have hn0 : b.num ≠ 0 := fun h => hb0 (Rat.num_eq_zero.1 h)
  have pb := fun W => partsR_any b.num b.den W (by have : (ratT b.num b.den).size = (canonR b).size := rfl; omega)
  rw [show ratT b.num b.den = canonR b from rfl] at pb
  obtain ⟨i1, i2⟩ := inv_parts b hb0
  have fr : ∀ W, Below w.heap.size w W → Calls Tryz.prog 21 #[.string (canon (b.den : Int)), .string (canon b.num)] W fun e w' => e = .returned (.string (canonR b⁻¹)) ∧ Below W.heap.size W w' := by
    intro W hW
    have hself : mkRat b⁻¹.num b⁻¹.den = b⁻¹ := Rat.mkRat_self _
    have hinv := hb.inv hb0
    have h1 := hinv.num hN0
    have h2 := hinv.den hN0
    by_cases hn : b.num < 0
    · rw [if_pos hn] at i1
      have := fraction_any true b⁻¹.num b⁻¹.den W (he.below hW).1 (Nat.pos_of_ne_zero b⁻¹.den_nz) (by omega) (by omega)
      rw [if_pos rfl, if_pos rfl, hself] at this
      rw [i1, i2, Int.neg_neg, show -((b.num.natAbs : Nat) : Int) = b.num by omega] at this
      exact this
    · rw [if_neg hn] at i1
      have := fraction_any false b⁻¹.num b⁻¹.den W (he.below hW).1 (Nat.pos_of_ne_zero b⁻¹.den_nz) (by omega) (by omega)
      rw [if_neg (by simp), if_neg (by simp), hself] at this
      rw [i1, i2, show ((b.num.natAbs : Nat) : Int) = b.num by omega] at this
      exact this
  have mu := fun W (hW : Below w.heap.size w W) => rmulR_any a b⁻¹ N hN0 hN ha (hb.inv hb0) W (he.below hW)
  rw [← Rat.div_def] at mu
  generalize canonR (a / b) = R at *
  generalize canonR b⁻¹ = TI at *
  generalize canonR a = TA at *
  generalize canonR b = TB at *
  have PB := Lib.hid pb
  have FR := Lib.hid fr
  have MU := Lib.hid mu
  clear pb fr mu i1 i2 hsb b1 b2 hn0 ha hb he
  go_enter Tryz.func39, Tryz.ntmps39
  go_wp2_with (first
    | (go_at_call 57; (with_reducible refine (PB.out _).mono ?_); rintro e w1 ⟨rfl, q⟩; have B1 := Lib.hid (q.below w.heap.size); clear q)
    | (go_at_call 21; (with_reducible refine (FR.out _ B1.out).mono ?_); rintro e w2 ⟨rfl, q⟩; have B2 := Lib.hid (B1.out.trans (q.mono B1.out.size)); clear q)
    | (go_at_call 23; (with_reducible refine (MU.out _ B2.out).mono ?_); rintro e w3 ⟨rfl, q⟩; have B3 := Lib.hid (B2.out.trans (q.mono B2.out.size)); clear q)
    | fail "arm")
  go_ret
  exact ⟨rfl, B3.out⟩

/-- The number rounded to a grid: its numerator. -/
def roundN (x : Rat) (g : Nat) : Int := (x * (g : Rat) + half).num / ((x * (g : Rat) + half).den : Int)

theorem nat_rat_num (g : Nat) : ((g : Rat)).num = (g : Int) ∧ ((g : Rat)).den = 1 := ⟨rfl, rfl⟩
theorem canonR_nat (g : Nat) : canonR (g : Rat) = canon (g : Int) := rfl
theorem mkRat_nat (g : Nat) : mkRat (g : Int) 1 = (g : Rat) := (Rat.mkRat_one _).trans rfl

theorem grid_sz (g N : Nat) (h : g < 10 ^ N) (h0 : 0 < N) : Sz (g : Rat) N := by
  refine ⟨?_, ?_⟩
  · show ((g : Int)).natAbs < 10 ^ N
    rw [Int.natAbs_natCast]; exact h
  · show 1 < 10 ^ N
    exact Nat.one_lt_pow (by omega) (by omega)

theorem round_sz {x : Rat} {g N : Nat} (hx : Sz x N) (hg : g < 10 ^ N) (h0 : 0 < N) : Sz (x * (g : Rat)) (N + N) ∧ (canon (roundN x g)).size ≤ N + N + (N + N) + 2 := by
  have h1 := hx.mul (grid_sz g N hg h0)
  have h2 := h1.add (half_sz (N + N) (by omega))
  refine ⟨h1, ?_⟩
  have h3 := canon_size_lt (roundN x g) (N + N + (N + N) + 1) (Nat.lt_of_le_of_lt (Int.natAbs_ediv_le_natAbs _ _) h2.1) (by omega)
  omega

set_option maxHeartbeats 1000000 in
theorem rroundR_any (x : Rat) (g N : Nat) (hN : N ≤ 250) (h7 : 7 ≤ N) (hx : Sz x N) (hg0 : 0 < g) (hg : g ≤ 1000000) (w : World) (he : Env w) :
    Calls Tryz.prog 36 #[.string (canonR x), .int .i64 (g : Int)] w fun e w' => e = .returned (.string (canonR (mkRat (roundN x g) g))) ∧ Below w.heap.size w w' := by
  have hgN : g < 10 ^ N := Nat.lt_of_lt_of_le (show g < 10 ^ 7 by omega) (Nat.pow_le_pow_right (by omega) h7)
  have s1 := grid_sz g N hgN (by omega)
  obtain ⟨s2, s3⟩ := round_sz hx hgN (by omega)
  have sg : (canon (g : Int)).size ≤ 8 := canon_size_lt (g : Int) 7 (by omega) (by omega)
  have h1 : ∀ W, Below w.heap.size w W → Calls Tryz.prog 24 #[.int .i64 (g : Int), .int .i64 1] W fun e w' => e = .returned (.string (canonR (g : Rat))) ∧ Below W.heap.size W w' := fun W hW => by
    have := refof_any (g : Int) 1 W (he.below hW).1 (by omega) (by omega) (by omega)
    rw [mkRat_nat] at this
    exact this
  have h2 := fun W (hW : Below w.heap.size w W) => rmulR_any x (g : Rat) N (by omega) (by omega) hx s1 W (he.below hW)
  have h3 := fun W (hW : Below w.heap.size w W) => rnearestR_any (x * (g : Rat)) (N + N) (by omega) (by omega) s2 W (he.below hW)
  rw [show (x * (g : Rat) + half).num / ((x * (g : Rat) + half).den : Int) = roundN x g from rfl] at h3
  have h4 := fun W (hW : Below w.heap.size w W) => ofR_any (g : Int) (by omega) (by omega) W (he.below hW).1
  have h5 := fun W (hW : Below w.heap.size w W) => fraction_any false (roundN x g) g W (he.below hW).1 hg0 (by omega) (by omega)
  simp only [Bool.false_eq_true, if_false] at h5
  generalize canonR (mkRat (roundN x g) g) = R at *
  generalize canonR (x * (g : Rat)) = T2 at *
  generalize canonR (g : Rat) = T1 at *
  generalize canonR x = T at *
  generalize canon (roundN x g) = CR at *
  generalize canon (g : Int) = CG at *
  generalize (g : Int) = gi at *
  have H1 := Lib.hid h1
  have H2 := Lib.hid h2
  have H3 := Lib.hid h3
  have H4 := Lib.hid h4
  have H5 := Lib.hid h5
  clear h1 h2 h3 h4 h5 s1 s2 s3 sg he hx hgN hg0 hg
  go_enter Tryz.func36, Tryz.ntmps36
  go_wp2_with (first
    | (go_at_call 24; (with_reducible refine (H1.out _ (Below.refl _ _)).mono ?_); rintro e w1 ⟨rfl, q⟩; have B1 := Lib.hid q; clear q)
    | (go_at_call 23; (with_reducible refine (H2.out _ B1.out).mono ?_); rintro e w2 ⟨rfl, q⟩; have B2 := Lib.hid (B1.out.trans (q.mono B1.out.size)); clear q)
    | (go_at_call 22; (with_reducible refine (H3.out _ B2.out).mono ?_); rintro e w3 ⟨rfl, q⟩; have B3 := Lib.hid (B2.out.trans (q.mono B2.out.size)); clear q)
    | (go_at_call 25; (with_reducible refine (H4.out _ B3.out).mono ?_); rintro e w4 ⟨rfl, q⟩; have B4 := Lib.hid (B3.out.trans (q.mono B3.out.size)); clear q)
    | (go_at_call 21; (with_reducible refine (H5.out _ B4.out).mono ?_); rintro e w5 ⟨rfl, q⟩; have B5 := Lib.hid (B4.out.trans (q.mono B4.out.size)); clear q)
    | fail "arm")
  go_ret
  exact ⟨rfl, B5.out⟩

theorem rwhole_any (n : Int) (h0 : -9223372036854775808 ≤ n) (h1 : n ≤ 9223372036854775807) (w : World) (ht : Pow10 w) :
    Calls Tryz.prog 32 #[.int .i64 n] w fun e w' => e = .returned (.string (canon n)) ∧ Below w.heap.size w w' := by
  have h2 := of_any n h0 h1 w ht
  generalize canon n = CN at *
  have H1 := Lib.hid h2
  clear h0 h1 h2 ht
  go_enter Tryz.func32, Tryz.ntmps32
  go_wp2_with (first
    | (go_at_call 95; (with_reducible refine H1.out.mono ?_); rintro e w1 ⟨rfl, q⟩; have B1 := Lib.hid q; clear q)
    | fail "arm")
  go_ret
  exact ⟨rfl, B1.out⟩

set_option maxHeartbeats 1000000 in
theorem rround_any (x : Rat) (g N : Nat) (hN : N ≤ 250) (h7 : 7 ≤ N) (hx : Sz x N) (hg0 : 0 < g) (hg : g ≤ 1000000) (w : World) (he : Env w) :
    Calls Tryz.prog 35 #[.string (canonR x), .int .i64 (g : Int)] w fun e w' => e = .returned (.tuple #[.string (canonR (mkRat (roundN x g) g)), .int .i64 0]) ∧ Below w.heap.size w w' := by
  have hgN : g < 10 ^ N := Nat.lt_of_lt_of_le (show g < 10 ^ 7 by omega) (Nat.pow_le_pow_right (by omega) h7)
  have s1 := grid_sz g N hgN (by omega)
  obtain ⟨s2, s3⟩ := round_sz hx hgN (by omega)
  have sg : (canon (g : Int)).size ≤ 8 := canon_size_lt (g : Int) 7 (by omega) (by omega)
  have h1 := fun W (hW : Below w.heap.size w W) => rwhole_any (g : Int) (by omega) (by omega) W (he.below hW).1
  have h2 := fun W (hW : Below w.heap.size w W) => rmul_any x (g : Rat) N (by omega) (by omega) hx s1 W (he.below hW)
  rw [canonR_nat] at h2
  have h3 := fun W (hW : Below w.heap.size w W) => rnearest_any (x * (g : Rat)) (N + N) (by omega) (by omega) s2 W (he.below hW)
  rw [show (x * (g : Rat) + half).num / ((x * (g : Rat) + half).den : Int) = roundN x g from rfl] at h3
  have h4 := fun W (hW : Below w.heap.size w W) => of_any (g : Int) (by omega) (by omega) W (he.below hW).1
  have h5 := fun W (hW : Below w.heap.size w W) => rlowest_any (roundN x g) g W (he.below hW).1 hg0 (by omega) (by omega)
  have d1 : decide ((g : Int) < 1) = false := decide_eq_false (by omega)
  have d2 : decide ((g : Int) > 1000000) = false := decide_eq_false (by omega)
  generalize canonR (mkRat (roundN x g) g) = R at *
  generalize canonR (x * (g : Rat)) = T2 at *
  generalize canonR x = T at *
  generalize canon (roundN x g) = CR at *
  generalize canon (g : Int) = CG at *
  have gi0 : 0 < (g : Int) := by omega
  have gi1 : (g : Int) ≤ 1000000 := by omega
  generalize (g : Int) = gi at *
  have H1 := Lib.hid h1
  have H2 := Lib.hid h2
  have H3 := Lib.hid h3
  have H4 := Lib.hid h4
  have H5 := Lib.hid h5
  clear h1 h2 h3 h4 h5 s1 s2 s3 sg he hx hgN hg0 hg
  go_enter Tryz.func35, Tryz.ntmps35
  go_wp2_with (first
    | (go_at_call 32; (with_reducible refine (H1.out _ (Below.refl _ _)).mono ?_); rintro e w1 ⟨rfl, q⟩; have B1 := Lib.hid q; clear q)
    | (go_at_call 38; (with_reducible refine (H2.out _ B1.out).mono ?_); rintro e w2 ⟨rfl, q⟩; have B2 := Lib.hid (B1.out.trans (q.mono B1.out.size)); clear q)
    | (go_at_call 78; (with_reducible refine (H3.out _ B2.out).mono ?_); rintro e w3 ⟨rfl, q⟩; have B3 := Lib.hid (B2.out.trans (q.mono B2.out.size)); clear q)
    | (go_at_call 95; (with_reducible refine (H4.out _ B3.out).mono ?_); rintro e w4 ⟨rfl, q⟩; have B4 := Lib.hid (B3.out.trans (q.mono B3.out.size)); clear q)
    | (go_at_call 71; (with_reducible refine (H5.out _ B4.out).mono ?_); rintro e w5 ⟨rfl, q⟩; have B5 := Lib.hid (B4.out.trans (q.mono B4.out.size)); clear q)
    | fail "arm")
  go_ret2
  exact ⟨rfl, B5.out⟩

theorem rround_off (T : ByteArray) (g : Int) (h0 : -9223372036854775808 ≤ g) (h1 : g ≤ 9223372036854775807) (h : g < 1 ∨ 1000000 < g) (w : World) :
    Calls Tryz.prog 35 #[.string T, .int .i64 g] w fun e w' => e = .returned (.tuple #[.string ⟨#[]⟩, .int .i64 3]) ∧ w = w' := by
  rcases h with h | h
  · have d1 : decide (g < 1) = true := decide_eq_true h
    clear h h0 h1
    go_enter Tryz.func35, Tryz.ntmps35
    go_wp2
    go_ret2
    exact ⟨rfl, rfl⟩
  · have d1 : decide (g < 1) = false := decide_eq_false (by omega)
    have d2 : decide (g > 1000000) = true := decide_eq_true h
    clear h h0 h1
    go_enter Tryz.func35, Tryz.ntmps35
    go_wp2
    go_ret2
    exact ⟨rfl, rfl⟩

end Go.Proofs.YtjkbgjjfchhpfaaGreatDoor
