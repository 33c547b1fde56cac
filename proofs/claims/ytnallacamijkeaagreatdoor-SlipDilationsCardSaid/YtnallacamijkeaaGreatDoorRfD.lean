/- The walks of klipperef02.Neg, Sign, Sub, Compare, Abs, Floor, Nearest, Div and Round, and of rational.Abs, Min, Max, Whole and Round. -/
import Derived.Test.YtnallacamijkeaaGreatDoorRfC
import Derived.Test.YtnallacamijkeaaGreatDoorRatH
import Derived.Test.YtnallacamijkeaaGreatDoorRatD
namespace Go.Proofs.YtnallacamijkeaaGreatDoor
set_option linter.all false
open Go.RowKit

set_option maxHeartbeats 1000000 in
theorem rnegR_any (q : Rat) (w : World) (hs : (canonR q).size ≤ 100000) :
  Calls Tryz.prog 36 #[.string (canonR q)] w fun e w' => e = .returned (.string (canonR (-q))) ∧ Below w.heap.size w w' := by
 have hz := canonR_beq0 q
 have h0 := canonR_pos q
 have hm := first_minus q h0
 have h1 : 1 ≤ (canonR q).size := h0
 by_cases hq : q = 0
 ·rw [decide_eq_true hq] at hz
  have HR : Hid (canonR (-q) = canonR q) := by rw [hq]; rfl
  generalize canonR (-q) = R at *
  generalize canonR q = T at *
  clear hm hq
  go_enter Tryz.func36, Tryz.ntmps36
  go_wp2
  go_ret
  rw [HR.out]
  exact ⟨rfl, Below.refl _ _⟩
 ·rw [decide_eq_false hq] at hz
  by_cases hn : q.num < 0
  ·have HR := Lib.hid (canonR_neg_neg q hn)
   have h45 := hm.1 hn
   generalize canonR (-q) = R at *
   generalize canonR q = T at *
   have hc : ((T[0].toNat : Int) == 45) = true := by rw [h45]; rfl
   clear hm hq hn h45
   go_enter Tryz.func36, Tryz.ntmps36
   go_wp2
   go_ret
   rw [HR.out]
   exact ⟨rfl, Below.refl _ _⟩
  ·have hp : 0 < q.num := by
    rcases Int.lt_or_eq_of_le (show 0 ≤ q.num by omega) with h | h
    ·exact h
    ·exact absurd (Rat.num_eq_zero.1 h.symm) hq
   have HR := Lib.hid (canonR_neg_pos q hp)
   have h45 : ¬ (canonR q)[0].toNat = 45 := fun h => hn (hm.2 h)
   generalize canonR (-q) = R at *
   generalize canonR q = T at *
   have hc : ((T[0].toNat : Int) == 45) = false := beq_eq_false_iff_ne.2 (by omega)
   clear hm hq hn h45 hp
   go_enter Tryz.func36, Tryz.ntmps36
   go_wp2
   go_ret
   rw [HR.out]
   exact ⟨rfl, Below.refl _ _⟩

set_option maxHeartbeats 1000000 in
theorem rsignR_any (q : Rat) (w : World) (_ : (canonR q).size ≤ 100000) :
  Calls Tryz.prog 9 #[.string (canonR q)] w fun e w' => e = .returned (.int .i64 q.num.sign) ∧ w = w' := by
 have hz := canonR_beq0 q
 have h0 := canonR_pos q
 have hm := first_minus q h0
 by_cases hq : q = 0
 ·rw [decide_eq_true hq] at hz
  have HR : Hid (q.num.sign = 0) := by rw [hq]; rfl
  generalize q.num.sign = R at *
  generalize canonR q = T at *
  clear hm hq
  go_enter Tryz.func9, Tryz.ntmps9
  go_wp2
  go_ret
  rw [HR.out]
  exact ⟨rfl, rfl⟩
 ·rw [decide_eq_false hq] at hz
  by_cases hn : q.num < 0
  ·have HR := Lib.hid (Int.sign_eq_neg_one_of_neg hn)
   have h45 := hm.1 hn
   generalize q.num.sign = R at *
   generalize canonR q = T at *
   have hc : ((T[0].toNat : Int) == 45) = true := by rw [h45]; rfl
   clear hm hq hn h45
   go_enter Tryz.func9, Tryz.ntmps9
   go_wp2
   go_ret
   rw [HR.out]
   exact ⟨rfl, rfl⟩
  ·have hp : 0 < q.num := by
    rcases Int.lt_or_eq_of_le (show 0 ≤ q.num by omega) with h | h
    ·exact h
    ·exact absurd (Rat.num_eq_zero.1 h.symm) hq
   have HR := Lib.hid (Int.sign_eq_one_of_pos hp)
   have h45 : ¬ (canonR q)[0].toNat = 45 := fun h => hn (hm.2 h)
   generalize q.num.sign = R at *
   generalize canonR q = T at *
   have hc : ((T[0].toNat : Int) == 45) = false := beq_eq_false_iff_ne.2 (by omega)
   clear hm hq hn h45 hp
   go_enter Tryz.func9, Tryz.ntmps9
   go_wp2
   go_ret
   rw [HR.out]
   exact ⟨rfl, rfl⟩

set_option maxHeartbeats 1000000 in
theorem rsubR_any (a b : Rat) (N : Nat) (hN0 : 0 < N) (hN : N ≤ 1000) (ha : Sz a N) (hb : Sz b N) (w : World) (he : Env w) :
  Calls Tryz.prog 12 #[.string (canonR a), .string (canonR b)] w fun e w' => e = .returned (.string (canonR (a - b))) ∧ Below w.heap.size w w' := by
 have h1 := fun W => rnegR_any b W (by have := hb.text hN0; omega)
 have h2 := fun W (hW : Below w.heap.size w W) => raddR_any a (-b) N hN0 hN ha hb.neg W (he.below hW)
 rw [← Rat.sub_eq_add_neg] at h2
 generalize canonR (a - b) = R at *
 generalize canonR (-b) = T at *
 have H1 := Lib.hid h1
 have H2 := Lib.hid h2
 clear h1 h2 he ha hb
 go_enter Tryz.func12, Tryz.ntmps12
 go_wp2_with (first
  | (go_at_call 36; (with_reducible refine (H1.out _).mono ?_); rintro e w1 ⟨rfl, q⟩; have B1 := Lib.hid q; clear q)
  | (go_at_call 8; (with_reducible refine (H2.out _ B1.out).mono ?_); rintro e w2 ⟨rfl, q⟩; have B2 := Lib.hid (B1.out.trans (q.mono B1.out.size)); clear q)
  | fail "arm")
 go_ret
 exact ⟨rfl, B2.out⟩

theorem rcompareR_any (a b : Rat) (N : Nat) (hN0 : 0 < N) (hN : N ≤ 1000) (ha : Sz a N) (hb : Sz b N) (w : World) (he : Env w) :
  Calls Tryz.prog 10 #[.string (canonR a), .string (canonR b)] w fun e w' => e = .returned (.int .i64 (cmpR a b)) ∧ Below w.heap.size w w' := by
 have h1 := fun W (hW : Below w.heap.size w W) => rsubR_any a b N hN0 hN ha hb W (he.below hW)
 have hsz : Sz (a - b) (N + N + 1) := by rw [Rat.sub_eq_add_neg]; exact ha.add hb.neg
 have h2 := fun W => rsignR_any (a - b) W (by have := hsz.text (by omega); omega)
 rw [← cmpR_sub] at h2
 generalize cmpR a b = R at *
 generalize canonR (a - b) = T at *
 have H1 := Lib.hid h1
 have H2 := Lib.hid h2
 clear h1 h2 he ha hb
 go_enter Tryz.func10, Tryz.ntmps10
 go_wp2_with (first
  | (go_at_call 12; (with_reducible refine (H1.out _ (Below.refl _ _)).mono ?_); rintro e w1 ⟨rfl, q⟩; have B1 := Lib.hid q; clear q)
  | (go_at_call 9; (with_reducible refine (H2.out _).mono ?_); rintro e w2 ⟨rfl, rfl⟩)
  | fail "arm")
 go_ret
 exact ⟨rfl, B1.out⟩

def absQ (q : Rat) : Rat := if q.num < 0 then -q else q

set_option maxHeartbeats 1000000 in
theorem rdivR_any (a b : Rat) (N : Nat) (hN0 : 0 < N) (hN : N ≤ 1000) (ha : Sz a N) (hb : Sz b N) (hb0 : b ≠ 0) (w : World) (he : Env w) :
  Calls Tryz.prog 11 #[.string (canonR a), .string (canonR b)] w fun e w' => e = .returned (.string (canonR (a / b))) ∧ Below w.heap.size w w' := by
 have hsb := hb.text hN0
 have b1 := hb.num hN0
 have b2 := hb.den hN0
 have hn0 : b.num ≠ 0 := fun h => hb0 (Rat.num_eq_zero.1 h)
 have pb := fun W => partsR_any b.num b.den W (by have : (ratT b.num b.den).size = (canonR b).size := rfl; omega)
 rw [show ratT b.num b.den = canonR b from rfl] at pb
 obtain ⟨i1, i2⟩ := inv_parts b hb0
 have fr : ∀ W, Below w.heap.size w W → Calls Tryz.prog 17 #[.string (canon (b.den : Int)), .string (canon b.num)] W fun e w' => e = .returned (.string (canonR b⁻¹)) ∧ Below W.heap.size W w' := by
  intro W hW
  have hself : mkRat b⁻¹.num b⁻¹.den = b⁻¹ := Rat.mkRat_self _
  have hinv := hb.inv hb0
  have h1 := hinv.num hN0
  have h2 := hinv.den hN0
  by_cases hn : b.num < 0
  ·rw [if_pos hn] at i1
   have := fraction_any true b⁻¹.num b⁻¹.den W (he.below hW).1 (Nat.pos_of_ne_zero b⁻¹.den_nz) (by omega) (by omega)
   rw [if_pos rfl, if_pos rfl, hself] at this
   rw [i1, i2, Int.neg_neg, show -((b.num.natAbs : Nat) : Int) = b.num by omega] at this
   exact this
  ·rw [if_neg hn] at i1
   have := fraction_any false b⁻¹.num b⁻¹.den W (he.below hW).1 (Nat.pos_of_ne_zero b⁻¹.den_nz) (by omega) (by omega)
   rw [if_neg (by simp), if_neg (by simp), hself] at this
   rw [i1, i2, show ((b.num.natAbs : Nat) : Int) = b.num by omega] at this
   exact this
 have mu := fun W (hW : Below w.heap.size w W) => rmulR_any a b⁻¹ N hN0 hN ha (hb.inv hb0) W (he.below hW)
 rw [← Rat.div_def] at mu
 generalize canonR (a / b) = R at *
 generalize canonR b⁻¹ = TI at *
 generalize canonR a = TA at *
 generalize canonR b = TB at *
 have PB := Lib.hid pb
 have FR := Lib.hid fr
 have MU := Lib.hid mu
 clear pb fr mu i1 i2 hsb b1 b2 hn0 ha hb he
 go_enter Tryz.func11, Tryz.ntmps11
 go_wp2_with (first
  | (go_at_call 32; (with_reducible refine (PB.out _).mono ?_); rintro e w1 ⟨rfl, q⟩; have B1 := Lib.hid (q.below w.heap.size); clear q)
  | (go_at_call 17; (with_reducible refine (FR.out _ B1.out).mono ?_); rintro e w2 ⟨rfl, q⟩; have B2 := Lib.hid (B1.out.trans (q.mono B1.out.size)); clear q)
  | (go_at_call 35; (with_reducible refine (MU.out _ B2.out).mono ?_); rintro e w3 ⟨rfl, q⟩; have B3 := Lib.hid (B2.out.trans (q.mono B2.out.size)); clear q)
  | fail "arm")
 go_ret
 exact ⟨rfl, B3.out⟩

def roundN (x : Rat) (g : Nat) : Int := (x * (g : Rat) + half).num / ((x * (g : Rat) + half).den : Int)

theorem nat_rat_num (g : Nat) : ((g : Rat)).num = (g : Int) ∧ ((g : Rat)).den = 1 := ⟨rfl, rfl⟩
theorem canonR_nat (g : Nat) : canonR (g : Rat) = canon (g : Int) := rfl
theorem mkRat_nat (g : Nat) : mkRat (g : Int) 1 = (g : Rat) := (Rat.mkRat_one _).trans rfl

theorem grid_sz (g N : Nat) (h : g < 10 ^ N) (h0 : 0 < N) : Sz (g : Rat) N := by
 refine ⟨?_, ?_⟩
 ·show ((g : Int)).natAbs < 10 ^ N
  rw [Int.natAbs_natCast]; exact h
 ·show 1 < 10 ^ N
  exact Nat.one_lt_pow (by omega) (by omega)

theorem round_sz {x : Rat} {g N : Nat} (hx : Sz x N) (hg : g < 10 ^ N) (h0 : 0 < N) : Sz (x * (g : Rat)) (N + N) ∧ (canon (roundN x g)).size ≤ N + N + (N + N) + 2 := by
 have h1 := hx.mul (grid_sz g N hg h0)
 have h2 := h1.add (half_sz (N + N) (by omega))
 refine ⟨h1, ?_⟩
 have h3 := canon_size_lt (roundN x g) (N + N + (N + N) + 1) (Nat.lt_of_le_of_lt (Int.natAbs_ediv_le_natAbs _ _) h2.1) (by omega)
 omega

end Go.Proofs.YtnallacamijkeaaGreatDoor
