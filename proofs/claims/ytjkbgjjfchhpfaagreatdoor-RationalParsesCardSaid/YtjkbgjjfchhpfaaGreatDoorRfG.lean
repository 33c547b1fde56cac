/- The walks of klipperef02.Root and of rational.Root, where there is a root and where there is none. -/
import Derived.Test.YtjkbgjjfchhpfaaGreatDoorRfF
import Derived.Test.YtjkbgjjfchhpfaaGreatDoorRatE
import Derived.Test.YtjkbgjjfchhpfaaGreatDoorGRefB
namespace Go.Proofs.YtjkbgjjfchhpfaaGreatDoor
open Go.RowKit

theorem has_root (n : Nat) : ∃ r, IsRoot n r := by
  induction n with
  | zero => exact ⟨0, by simp, by simp⟩
  | succ n ih =>
    obtain ⟨r, h1, h2⟩ := ih
    by_cases h : (r + 1) * (r + 1) ≤ n + 1
    · refine ⟨r + 1, h, ?_⟩
      have : (r + 1) * (r + 1) < (r + 1 + 1) * (r + 1 + 1) := Nat.mul_lt_mul'' (by omega) (by omega)
      omega
    · exact ⟨r, by omega, by omega⟩

theorem rootR_at (z : Int) (r : Nat) (hz : 0 ≤ z) (hr : IsRoot z.natAbs r) (w : World) (ht : Pow10 w) (hs : (canon z).size ≤ 200) :
    Calls Tryz.prog 93 #[.string (canon z)] w fun e w' => e = .returned (.string (canon (r : Int))) ∧ Below w.heap.size w w' := by
  obtain ⟨n, rfl⟩ := Int.eq_ofNat_of_zero_le hz
  have hr' : IsRoot n r := hr
  rcases Nat.eq_zero_or_pos n with h | h
  · subst h
    have : r = 0 := isRoot_unique hr' ⟨by simp, by simp⟩
    subst this
    exact (rootR_zero w).mono fun e w' ⟨h1, h2⟩ => ⟨h1, by subst h2; exact Below.refl _ _⟩
  · exact (rootR_pos n w h ht hs).mono fun e w' ⟨⟨r2, h2, h3⟩, h4⟩ => ⟨by rw [isRoot_unique hr' h2]; exact h3, h4⟩

/-- The integers below the roots of a number's parts, and what the walks want of them. -/
structure RootP (q : Rat) (a b : Nat) (N : Nat) : Prop where
  pos : 0 ≤ q.num
  ra : IsRoot q.num.natAbs a
  rb : IsRoot q.den b
  sz : Sz q N

theorem RootP.sa {q : Rat} {a b N : Nat} (h : RootP q a b N) (h0 : 0 < N) : (canon (a : Int)).size ≤ N + 1 := canon_size_lt _ N (by rw [Int.natAbs_natCast]; exact root_small h.ra h.sz.1) h0
theorem RootP.sb {q : Rat} {a b N : Nat} (h : RootP q a b N) (h0 : 0 < N) : (canon (b : Int)).size ≤ N + 1 := canon_size_lt _ N (by rw [Int.natAbs_natCast]; exact root_small h.rb h.sz.2) h0
theorem RootP.bpos {q : Rat} {a b N : Nat} (h : RootP q a b N) : 0 < b := by
  have h1 := h.rb.2
  have h2 := q.den_nz
  rcases Nat.eq_zero_or_pos b with h3 | h3
  · rw [h3] at h1; omega
  · exact h3

theorem coprime_root {q : Rat} {a b : Nat} (ha : q.num = (a : Int) * (a : Int)) (hb : q.den = b * b) : a.gcd b = 1 := by
  have hr : q.num.natAbs.gcd q.den = 1 := q.reduced
  have hna : q.num.natAbs = a * a := by rw [ha, Int.natAbs_mul]; rfl
  rw [hna, hb] at hr
  have h1 : a.gcd b ∣ (a * a).gcd (b * b) := Nat.dvd_gcd (Nat.dvd_trans (Nat.gcd_dvd_left _ _) (Nat.dvd_mul_left _ _)) (Nat.dvd_trans (Nat.gcd_dvd_right _ _) (Nat.dvd_mul_left _ _))
  rw [hr] at h1
  exact Nat.dvd_one.1 h1

theorem root_text {q : Rat} {a b : Nat} (ha : q.num = (a : Int) * (a : Int)) (hb : q.den = b * b) (h0 : 0 < b) : canonR (mkRat (a : Int) b) = ratT (a : Int) b := by
  rw [canonR_mk _ _ (by omega), Int.natAbs_natCast, coprime_root ha hb]
  simp

set_option maxRecDepth 100000 in
set_option maxHeartbeats 2000000 in
theorem rrootR_yes (q : Rat) (a b N : Nat) (hN0 : 0 < N) (hN : N ≤ 190) (hp : RootP q a b N) (ha : q.num = (a : Int) * (a : Int)) (hb : q.den = b * b) (w : World) (he : Env w) :
    Calls Tryz.prog 27 #[.string (canonR q)] w fun e w' => e = .returned (.tuple #[.string (ratT (a : Int) b), .bool true]) ∧ Below w.heap.size w w' := by
  have hsq := hp.sz.text hN0
  have a1 := hp.sz.num hN0
  have a2 := hp.sz.den hN0
  have s1 := hp.sa hN0
  have s2 := hp.sb hN0
  have pa := fun W => partsR_any q.num q.den W (by have : (ratT q.num q.den).size = (canonR q).size := rfl; omega)
  rw [show ratT q.num q.den = canonR q from rfl] at pa
  have sg := fun W => signR_any q.num W (by omega)
  have hs0 : 0 ≤ q.num.sign := by
    rcases Int.lt_or_eq_of_le hp.pos with h | h
    · rw [Int.sign_eq_one_of_pos h]; omega
    · rw [← h]; exact Int.le_refl _
  have r1 := fun W (hW : Below w.heap.size w W) => rootR_at q.num a hp.pos hp.ra W (he.below hW).1 (by omega)
  have r2 := fun W (hW : Below w.heap.size w W) => rootR_at (q.den : Int) b (by omega) (by rw [Int.natAbs_natCast]; exact hp.rb) W (he.below hW).1 (by omega)
  have m1 := fun W (hW : Below w.heap.size w W) => mulR_any (a : Int) (a : Int) W (he.below hW).1 (by omega) (by omega)
  have m2 := fun W (hW : Below w.heap.size w W) => mulR_any (b : Int) (b : Int) W (he.below hW).1 (by omega) (by omega)
  rw [← ha] at m1
  rw [show (b : Int) * (b : Int) = (q.den : Int) by rw [hb, Int.natCast_mul]] at m2
  have fr := fun W (hW : Below w.heap.size w W) => fraction_any false (a : Int) b W (he.below hW).1 hp.bpos (by omega) (by omega)
  simp only [Bool.false_eq_true, if_false] at fr
  rw [root_text ha hb hp.bpos] at fr
  have e1 : ((canon q.num).toList != (canon q.num).toList) = false := by simp
  have e2 : ((canon (q.den : Int)).toList != (canon (q.den : Int)).toList) = false := by simp
  generalize ratT (a : Int) b = R at *
  generalize canonR q = T at *
  generalize canon q.num = C1 at *
  generalize canon (q.den : Int) = C2 at *
  generalize canon (a : Int) = C3 at *
  generalize canon (b : Int) = C4 at *
  generalize q.num.sign = s at *
  have dsg : decide (s < 0) = false := decide_eq_false (by omega)
  have PA := Lib.hid pa
  have SG := Lib.hid sg
  have R1 := Lib.hid r1
  have R2 := Lib.hid r2
  have M1 := Lib.hid m1
  have M2 := Lib.hid m2
  have FR := Lib.hid fr
  have B := Lib.hid (Below.refl w.heap.size w)
  clear pa sg r1 r2 m1 m2 fr he hp ha hb hs0
  go_enter Tryz.func27, Tryz.ntmps27
  go_wp2_with (first
    | (go_at_call 57; (with_reducible refine (PA.out _).mono ?_); rintro e wx ⟨rfl, q⟩; replace B := Lib.hid (B.out.trans (q.below _)); clear q)
    | (go_at_call 84; (with_reducible refine (SG.out _).mono ?_); rintro e wx ⟨rfl, q⟩; replace B := Lib.hid (B.out.trans (q.mono B.out.size)); clear q)
    | (go_at_call_of 93 (Value.string C1); (with_reducible refine (R1.out _ B.out).mono ?_); rintro e wx ⟨rfl, q⟩; replace B := Lib.hid (B.out.trans (q.mono B.out.size)); clear q)
    | (go_at_call 93; (with_reducible refine (R2.out _ B.out).mono ?_); rintro e wx ⟨rfl, q⟩; replace B := Lib.hid (B.out.trans (q.mono B.out.size)); clear q)
    | (go_at_call_of 88 (Value.string C3); (with_reducible refine (M1.out _ B.out).mono ?_); rintro e wx ⟨rfl, q⟩; replace B := Lib.hid (B.out.trans (q.mono B.out.size)); clear q)
    | (go_at_call 88; (with_reducible refine (M2.out _ B.out).mono ?_); rintro e wx ⟨rfl, q⟩; replace B := Lib.hid (B.out.trans (q.mono B.out.size)); clear q)
    | (go_at_call 21; (with_reducible refine (FR.out _ B.out).mono ?_); rintro e wx ⟨rfl, q⟩; replace B := Lib.hid (B.out.trans (q.mono B.out.size)); clear q)
    | fail "arm")
  go_ret2
  exact ⟨rfl, B.out⟩

set_option maxRecDepth 100000 in
set_option maxHeartbeats 2000000 in
theorem rrootR_no (q : Rat) (a b N : Nat) (hN0 : 0 < N) (hN : N ≤ 190) (hp : RootP q a b N) (hno : ¬ (q.num = (a : Int) * (a : Int) ∧ q.den = b * b)) (w : World) (he : Env w) :
    Calls Tryz.prog 27 #[.string (canonR q)] w fun e w' => e = .returned (.tuple #[.string ⟨#[]⟩, .bool false]) ∧ Below w.heap.size w w' := by
  have hsq := hp.sz.text hN0
  have a1 := hp.sz.num hN0
  have a2 := hp.sz.den hN0
  have s1 := hp.sa hN0
  have s2 := hp.sb hN0
  have pa := fun W => partsR_any q.num q.den W (by have : (ratT q.num q.den).size = (canonR q).size := rfl; omega)
  rw [show ratT q.num q.den = canonR q from rfl] at pa
  have sg := fun W => signR_any q.num W (by omega)
  have hs0 : 0 ≤ q.num.sign := by
    rcases Int.lt_or_eq_of_le hp.pos with h | h
    · rw [Int.sign_eq_one_of_pos h]; omega
    · rw [← h]; exact Int.le_refl _
  have r1 := fun W (hW : Below w.heap.size w W) => rootR_at q.num a hp.pos hp.ra W (he.below hW).1 (by omega)
  have r2 := fun W (hW : Below w.heap.size w W) => rootR_at (q.den : Int) b (by omega) (by rw [Int.natAbs_natCast]; exact hp.rb) W (he.below hW).1 (by omega)
  have m1 := fun W (hW : Below w.heap.size w W) => mulR_any (a : Int) (a : Int) W (he.below hW).1 (by omega) (by omega)
  have m2 := fun W (hW : Below w.heap.size w W) => mulR_any (b : Int) (b : Int) W (he.below hW).1 (by omega) (by omega)
  have hcase : ((canon ((a : Int) * (a : Int))).toList == (canon q.num).toList) = false ∨ (((canon ((a : Int) * (a : Int))).toList == (canon q.num).toList) = true ∧ ((canon ((b : Int) * (b : Int))).toList == (canon (q.den : Int)).toList) = false) := by
    by_cases h : (a : Int) * (a : Int) = q.num
    · refine .inr ⟨by rw [h]; simp, ?_⟩
      rw [canon_beq, decide_eq_false]
      intro h2
      exact hno ⟨h.symm, by rw [← Int.natCast_mul] at h2; omega⟩
    · exact .inl (by rw [canon_beq, decide_eq_false h])
  generalize canonR q = T at *
  generalize canon q.num = C1 at *
  generalize canon (q.den : Int) = C2 at *
  generalize canon (a : Int) = C3 at *
  generalize canon (b : Int) = C4 at *
  generalize canon ((a : Int) * (a : Int)) = C5 at *
  generalize canon ((b : Int) * (b : Int)) = C6 at *
  generalize q.num.sign = s at *
  have dsg : decide (s < 0) = false := decide_eq_false (by omega)
  have PA := Lib.hid pa
  have SG := Lib.hid sg
  have R1 := Lib.hid r1
  have R2 := Lib.hid r2
  have M1 := Lib.hid m1
  have M2 := Lib.hid m2
  have B := Lib.hid (Below.refl w.heap.size w)
  clear pa sg r1 r2 m1 m2 he hp hno hs0
  rcases hcase with t1 | ⟨t1, t2⟩
  all_goals
    go_enter Tryz.func27, Tryz.ntmps27
    go_wp2_with (first
      | (go_at_call 57; (with_reducible refine (PA.out _).mono ?_); rintro e wx ⟨rfl, q⟩; replace B := Lib.hid (B.out.trans (q.below _)); clear q)
      | (go_at_call 84; (with_reducible refine (SG.out _).mono ?_); rintro e wx ⟨rfl, q⟩; replace B := Lib.hid (B.out.trans (q.mono B.out.size)); clear q)
      | (go_at_call_of 93 (Value.string C1); (with_reducible refine (R1.out _ B.out).mono ?_); rintro e wx ⟨rfl, q⟩; replace B := Lib.hid (B.out.trans (q.mono B.out.size)); clear q)
      | (go_at_call 93; (with_reducible refine (R2.out _ B.out).mono ?_); rintro e wx ⟨rfl, q⟩; replace B := Lib.hid (B.out.trans (q.mono B.out.size)); clear q)
      | (go_at_call_of 88 (Value.string C3); (with_reducible refine (M1.out _ B.out).mono ?_); rintro e wx ⟨rfl, q⟩; replace B := Lib.hid (B.out.trans (q.mono B.out.size)); clear q)
      | (go_at_call 88; (with_reducible refine (M2.out _ B.out).mono ?_); rintro e wx ⟨rfl, q⟩; replace B := Lib.hid (B.out.trans (q.mono B.out.size)); clear q)
      | fail "arm")
    go_ret2
    exact ⟨rfl, B.out⟩

theorem neg_sign {z : Int} (h : z < 0) : decide (z.sign < 0) = true := by rw [Int.sign_eq_neg_one_of_neg h]; rfl

set_option maxHeartbeats 1000000 in
theorem rrootR_neg (q : Rat) (N : Nat) (hN0 : 0 < N) (hN : N ≤ 1000) (hq : Sz q N) (hn : q.num < 0) (w : World) :
    Calls Tryz.prog 27 #[.string (canonR q)] w fun e w' => e = .returned (.tuple #[.string ⟨#[]⟩, .bool false]) ∧ Below w.heap.size w w' := by
  have hsq := hq.text hN0
  have a1 := hq.num hN0
  have pa := fun W => partsR_any q.num q.den W (by have : (ratT q.num q.den).size = (canonR q).size := rfl; omega)
  rw [show ratT q.num q.den = canonR q from rfl] at pa
  have sg := fun W => signR_any q.num W (by omega)
  have dsg := neg_sign hn
  generalize canonR q = T at *
  generalize canon q.num = C1 at *
  generalize canon (q.den : Int) = C2 at *
  generalize q.num.sign = s at *
  have PA := Lib.hid pa
  have SG := Lib.hid sg
  have B := Lib.hid (Below.refl w.heap.size w)
  clear pa sg hq hn
  go_enter Tryz.func27, Tryz.ntmps27
  go_wp2_with (first
    | (go_at_call 57; (with_reducible refine (PA.out _).mono ?_); rintro e wx ⟨rfl, q⟩; replace B := Lib.hid (B.out.trans (q.below _)); clear q)
    | (go_at_call 84; (with_reducible refine (SG.out _).mono ?_); rintro e wx ⟨rfl, q⟩; replace B := Lib.hid (B.out.trans (q.mono B.out.size)); clear q)
    | fail "arm")
  go_ret2
  exact ⟨rfl, B.out⟩

theorem rroot_neg (q : Rat) (hn : q.num < 0) (w : World) (hs : (canonR q).size ≤ 100000) :
    Calls Tryz.prog 26 #[.string (canonR q)] w fun e w' => e = .returned (.tuple #[.string ⟨#[]⟩, .bool false]) ∧ w = w' := by
  have sg := fun W => rsign_any q W hs
  have dsg := neg_sign hn
  generalize canonR q = T at *
  generalize q.num.sign = s at *
  have SG := Lib.hid sg
  clear sg hn
  go_enter Tryz.func26, Tryz.ntmps26
  go_wp2_with (first
    | (go_at_call 51; (with_reducible refine (SG.out _).mono ?_); rintro e wx ⟨rfl, rfl⟩)
    | fail "arm")
  go_ret2
  exact ⟨rfl, rfl⟩

set_option maxRecDepth 100000 in
set_option maxHeartbeats 2000000 in
theorem rroot_no (q : Rat) (a b N : Nat) (hN0 : 0 < N) (hN : N ≤ 1000) (hp : RootP q a b N) (hno : ¬ (q.num = (a : Int) * (a : Int) ∧ q.den = b * b)) (w : World) (he : Env w) :
    Calls Tryz.prog 26 #[.string (canonR q)] w fun e w' => e = .returned (.tuple #[.string ⟨#[]⟩, .bool false]) ∧ Below w.heap.size w w' := by
  have hsq := hp.sz.text hN0
  have a1 := hp.sz.num hN0
  have a2 := hp.sz.den hN0
  have s1 := hp.sa hN0
  have s2 := hp.sb hN0
  have pa := fun W (hW : Below w.heap.size w W) => rparts_any q.num q.den W (he.below hW).2 (by have : (ratT q.num q.den).size = (canonR q).size := rfl; omega)
  rw [show ratT q.num q.den = canonR q from rfl] at pa
  have sg := fun W => rsign_any q W (by omega)
  have hs0 : 0 ≤ q.num.sign := by
    rcases Int.lt_or_eq_of_le hp.pos with h | h
    · rw [Int.sign_eq_one_of_pos h]; omega
    · rw [← h]; exact Int.le_refl _
  have r1 := fun W (hW : Below w.heap.size w W) => root_at q.num a hp.pos hp.ra W (he.below hW).1 (by omega)
  have r2 := fun W (hW : Below w.heap.size w W) => root_at (q.den : Int) b (by omega) (by rw [Int.natAbs_natCast]; exact hp.rb) W (he.below hW).1 (by omega)
  have m1 := fun W (hW : Below w.heap.size w W) => mul_any (a : Int) (a : Int) W (he.below hW).1 (by omega) (by omega)
  have m2 := fun W (hW : Below w.heap.size w W) => mul_any (b : Int) (b : Int) W (he.below hW).1 (by omega) (by omega)
  have hcase : ((canon ((a : Int) * (a : Int))).toList == (canon q.num).toList) = false ∨ (((canon ((a : Int) * (a : Int))).toList == (canon q.num).toList) = true ∧ ((canon ((b : Int) * (b : Int))).toList == (canon (q.den : Int)).toList) = false) := by
    by_cases h : (a : Int) * (a : Int) = q.num
    · refine .inr ⟨by rw [h]; simp, ?_⟩
      rw [canon_beq, decide_eq_false]
      intro h2
      exact hno ⟨h.symm, by rw [← Int.natCast_mul] at h2; omega⟩
    · exact .inl (by rw [canon_beq, decide_eq_false h])
  generalize canonR q = T at *
  generalize canon q.num = C1 at *
  generalize canon (q.den : Int) = C2 at *
  generalize canon (a : Int) = C3 at *
  generalize canon (b : Int) = C4 at *
  generalize canon ((a : Int) * (a : Int)) = C5 at *
  generalize canon ((b : Int) * (b : Int)) = C6 at *
  generalize q.num.sign = s at *
  have dsg : decide (s < 0) = false := decide_eq_false (by omega)
  have PA := Lib.hid pa
  have SG := Lib.hid sg
  have R1 := Lib.hid r1
  have R2 := Lib.hid r2
  have M1 := Lib.hid m1
  have M2 := Lib.hid m2
  have B := Lib.hid (Below.refl w.heap.size w)
  clear pa sg r1 r2 m1 m2 he hp hno hs0
  rcases hcase with t1 | ⟨t1, t2⟩
  all_goals
    go_enter Tryz.func26, Tryz.ntmps26
    go_wp2_with (first
      | (go_at_call 58; (with_reducible refine (PA.out _ B.out).mono ?_); rintro e wx ⟨rfl, q⟩; replace B := Lib.hid (B.out.trans (q.below _)); clear q)
      | (go_at_call 51; (with_reducible refine (SG.out _).mono ?_); rintro e wx ⟨rfl, rfl⟩)
      | (go_at_call_of 90 (Value.string C1); (with_reducible refine (R1.out _ B.out).mono ?_); rintro e wx ⟨rfl, q⟩; replace B := Lib.hid (B.out.trans (q.mono B.out.size)); clear q)
      | (go_at_call 90; (with_reducible refine (R2.out _ B.out).mono ?_); rintro e wx ⟨rfl, q⟩; replace B := Lib.hid (B.out.trans (q.mono B.out.size)); clear q)
      | (go_at_call_of 91 (Value.string C3); (with_reducible refine (M1.out _ B.out).mono ?_); rintro e wx ⟨rfl, q⟩; replace B := Lib.hid (B.out.trans (q.mono B.out.size)); clear q)
      | (go_at_call 91; (with_reducible refine (M2.out _ B.out).mono ?_); rintro e wx ⟨rfl, q⟩; replace B := Lib.hid (B.out.trans (q.mono B.out.size)); clear q)
      | fail "arm")
    go_ret2
    exact ⟨rfl, B.out⟩

theorem square_parts (q : Rat) : (q * q).num = q.num * q.num ∧ (q * q).den = q.den * q.den := by
  have hr : q.num.natAbs.gcd q.den = 1 := q.reduced
  have hc : Nat.Coprime (q.num * q.num).natAbs (q.den * q.den) := by
    rw [Int.natAbs_mul]
    have h1 : Nat.Coprime (q.num.natAbs * q.num.natAbs) q.den := Nat.Coprime.mul_left hr hr
    exact Nat.Coprime.mul_right h1 h1
  have e : q * q = ⟨q.num * q.num, q.den * q.den, Nat.mul_ne_zero q.den_nz q.den_nz, hc⟩ := by
    rw [rmul_eq]
    exact Rat.mkRat_self ⟨q.num * q.num, q.den * q.den, Nat.mul_ne_zero q.den_nz q.den_nz, hc⟩
  rw [e]
  exact ⟨rfl, rfl⟩

theorem abs_text (q : Rat) : canonR (absQ q) = ratT ((q.num.natAbs : Nat) : Int) q.den := by
  unfold absQ
  by_cases h : q.num < 0
  · rw [if_pos h]
    unfold canonR
    rw [Rat.neg_num, Rat.neg_den, show -q.num = ((q.num.natAbs : Nat) : Int) by omega]
  · rw [if_neg h]
    unfold canonR
    rw [show q.num = ((q.num.natAbs : Nat) : Int) by omega]
    rw [Int.natAbs_natCast]

theorem rroot_square (q : Rat) (hq : Sz q 80) (w : World) (he : Env w) :
    Calls Tryz.prog 26 #[.string (canonR (q * q))] w fun e w' => e = .returned (.tuple #[.string (canonR (absQ q)), .bool true]) ∧ Below w.heap.size w w' := by
  obtain ⟨h1, h2⟩ := square_parts q
  rw [abs_text]
  refine rroot_yes (q * q) q.num.natAbs q.den 160 (by omega) (by omega) (hq.mul hq) ?_ ?_ h2 w he
  · rw [h1, ← Int.natAbs_mul_self]; exact Int.natCast_nonneg _
  · rw [h1, ← Int.natCast_mul, Int.natAbs_mul_self]

end Go.Proofs.YtjkbgjjfchhpfaaGreatDoor
