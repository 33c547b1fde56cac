/- The walks of klipperef02.lowest, small (with both signs turned) and Fraction. -/
import Derived.Test.YtnallacamijkeaaGreatDoorRatM
import Derived.Test.YtnallacamijkeaaGreatDoorRatA
import Derived.Test.YtnallacamijkeaaGreatDoorGRefB
namespace Go.Proofs.YtnallacamijkeaaGreatDoor
set_option linter.all false
open Go.RowKit

set_option maxRecDepth 100000 in
set_option maxHeartbeats 4000000 in
theorem lowR_of (n : Int) (d : Nat) (w : World) (ht : Pow10 w) (hd : 0 < d) (hn0 : -4000000000000000000 ≤ n) (hn1 : n ≤ 4000000000000000000) (hd1 : (d : Int) ≤ 4000000000000000000) :
  Calls Tryz.prog 31 #[.int .i64 n, .int .i64 (d : Int)] w fun e w' => e = .returned (.string (canonR (mkRat n d))) ∧ Below w.heap.size w w' := by
 by_cases h1 : d = 1
 ·subst h1
  have hr : canonR (mkRat n 1) = canon n := by
   rw [canonR_mk n 1 (by omega), Nat.gcd_one_right]
   show ratT (n / ((1 : Nat) : Int)) (1 / 1) = canon n
   rw [show n / ((1 : Nat) : Int) = n by simp]
   rfl
  rw [hr]
  have i1 := fun W (hW : Below w.heap.size w W) => itoa_any n (by omega) (by omega) W (ht.below hW)
  have hsn : (canon n).size ≤ 20 := canon_size_lt n 19 (by omega) (by omega)
  have I1 := Lib.hid i1
  clear i1 ht hr hd
  have t0 : (((1 : Nat) : Int) != 1) = false := rfl
  have t1 : (((1 : Nat) : Int) == 1) = true := rfl
  generalize canon n = CN at *
  go_enter Tryz.func31, Tryz.ntmps31
  go_wp2_with (first
   | (go_at_call 50; (with_reducible refine (I1.out _ (Below.refl _ _)).mono ?_); rintro e w3 ⟨rfl, q⟩; have B3 := Lib.hid q; clear q)
   | fail "arm")
  go_ret
  exact ⟨rfl, B3.out⟩
 have hd1n : ((d : Int) != 1) = true := by rw [bne_iff_ne]; omega
 have hmk := canonR_mk n d (by omega)
 have hgp : 0 < n.natAbs.gcd d := Nat.gcd_pos_of_pos_right _ hd
 have hgn : ((n.natAbs.gcd d : Nat) : Int) ∣ n := Int.ofNat_dvd_left.2 (Nat.gcd_dvd_left _ _)
 have hgl : n.natAbs.gcd d ≤ d := Nat.gcd_le_right _ hd
 have hq := tdiv_gcd n _ hgn hgp
 have hqb : (n / ((n.natAbs.gcd d : Nat) : Int)).natAbs ≤ n.natAbs := Int.natAbs_ediv_le_natAbs _ _
 have hqd : d / n.natAbs.gcd d ≤ d := Nat.div_le_self _ _
 have hqd0 : 0 < d / n.natAbs.gcd d := Nat.div_pos hgl hgp
 have hgg : Int.gcd (n.natAbs : Int) (d : Int) = n.natAbs.gcd d := by unfold Int.gcd; rw [Int.natAbs_natCast, Int.natAbs_natCast]
 obtain ⟨g, hg⟩ : ∃ g, n.natAbs.gcd d = g := ⟨_, rfl⟩
 rw [hg] at hmk hgp hgl hq hqb hqd hqd0 hgg
 obtain ⟨q, hqq⟩ : ∃ q, n / (g : Int) = q := ⟨_, rfl⟩
 obtain ⟨e, he⟩ : ∃ e, d / g = e := ⟨_, rfl⟩
 have hde : (d : Int) / (g : Int) = (e : Int) := by rw [← he]; simp
 have hde2 : (d : Int).tdiv (g : Int) = (e : Int) := by rw [Int.tdiv_eq_ediv_of_nonneg (by omega)]; exact hde
 rw [hqq] at hmk hq hqb
 rw [he] at hmk hqd hqd0
 rw [hmk]
 have hr1 : e = 1 → ratT q e = canon q := fun h => by rw [h]; rfl
 have hr2 : e ≠ 1 → ratT q e = canon q ++ (⟨#[47]⟩ : ByteArray) ++ canon (e : Int) := fun h => ratT_frac q e h
 obtain ⟨R, hR⟩ : ∃ R, ratT q e = R := ⟨_, rfl⟩
 rw [hR] at hr1 hr2 ⊢
 have HR1 := Lib.hid hr1
 have HR2 := Lib.hid hr2
 clear hr1 hr2 hR
 have hq0 : -4000000000000000000 ≤ q := by omega
 have hq1 : q ≤ 4000000000000000000 := by omega
 have he4 : (e : Int) ≤ 4000000000000000000 := by omega
 have i1 := fun W (hW : Below w.heap.size w W) => itoa_any q (by omega) (by omega) W (ht.below hW)
 have i2 := fun W (hW : Below w.heap.size w W) => itoa_any (e : Int) (by omega) (by omega) W (ht.below hW)
 have hsq : (canon q).size ≤ 20 := canon_size_lt q 19 (by omega) (by omega)
 have hse : (canon (e : Int)).size ≤ 20 := canon_size_lt (e : Int) 19 (by omega) (by omega)
 obtain ⟨an, han⟩ : ∃ an : Nat, n.natAbs = an := ⟨_, rfl⟩
 rw [han] at hgg
 have han2 : (an : Int) ≤ 4000000000000000000 := by omega
 have I1 := Lib.hid i1
 have I2 := Lib.hid i2
 have HGG := Lib.hid hgg
 have HQ := Lib.hid hq
 have HD2 := Lib.hid hde2
 have HD3 := Lib.hid hde
 have hmx : max n (-n) = (an : Int) := by omega
 clear i1 i2 ht hmk hgn hqb hgg hqq he hg hq hde2 hde hqd han h1
 go_enter Tryz.func31, Tryz.ntmps31
 go_wp2
 go_loopw [5, 6] (fun xv yv wr => ∃ (x y : Nat), xv = .int .i64 x ∧ yv = .int .i64 y ∧ x ≤ 4000000000000000000 ∧ y ≤ 4000000000000000000 ∧ Below w.heap.size w wr ∧ Hid (Int.gcd x y = g)) (fun _ yv _ => (intOf yv).natAbs)
 case atStart => exact ⟨an, d, rfl, rfl, by omega, by omega, Below.refl _ _, HGG.out⟩
 case round =>
  obtain ⟨x, y, rfl, rfl, c1, c2, hb, HG⟩ := hrel
  have HB := Lib.hid hb
  clear hb
  by_cases hy : y = 0
  ·subst hy
   have hgx : x = g := by rw [← HG.out]; simp
   subst hgx
   have t0 : ((x : Int) == 0) = false := beq_eq_false_iff_ne.2 (by omega)
   have hq := HQ.out
   have hd2 := HD2.out
   have hd3 := HD3.out
   by_cases he1 : e = 1
   ·have HR := Lib.hid (HR1.out he1)
    have te : ((e : Int) == 1) = true := by rw [he1]; rfl
    clear I2 HG HGG HQ HD2 HD3
    go_wp2
    go_quiet (fail)
    go_wp2_with (go_at_call 50; (with_reducible refine (I1.out _ ?_).mono ?_); exact HB.out.trans ((Drew.of _ _).below _); rintro e w3 ⟨rfl, q⟩; have B3 := Lib.hid ((HB.out.trans ((Drew.of _ _).below _)).trans (q.mono HB.out.size)); clear q)
    go_ret
    rw [HR.out]
    exact ⟨rfl, B3.out⟩
   ·have te : ((e : Int) == 1) = false := beq_eq_false_iff_ne.2 (by omega)
    have HR := Lib.hid (HR2.out he1)
    clear HG HGG HQ HD2 HD3
    go_wp2
    go_quiet (fail)
    go_wp2_with (first
     | (go_at_call_of 50 (Value.int .i64 q); (with_reducible refine (I1.out _ ?_).mono ?_); exact HB.out.trans ((Drew.of _ _).below _); rintro e w3 ⟨rfl, q⟩; have B3 := Lib.hid ((HB.out.trans ((Drew.of _ _).below _)).trans (q.mono HB.out.size)); clear q)
     | (go_at_call 50; (with_reducible refine (I2.out _ B3.out).mono ?_); rintro e w4 ⟨rfl, q⟩; have B4 := Lib.hid (B3.out.trans (q.mono B3.out.size)); clear q)
     | fail "arm")
    go_ret
    rw [HR.out]
    exact ⟨rfl, B4.out⟩
  ·have t1 : ((y : Int) != 0) = true := by rw [bne_iff_ne]; omega
   have t2 : ((y : Int) == 0) = false := beq_eq_false_iff_ne.2 (by omega)
   have HN := Lib.hid ((gcd_tmod x y).trans HG.out)
   have hmod : (x : Int).tmod (y : Int) = ((x % y : Nat) : Int) := by rw [Int.tmod_eq_emod_of_nonneg (by omega)]; simp
   have hmod2 : (x : Int) % (y : Int) = ((x % y : Nat) : Int) := by simp
   rw [hmod] at HN
   have hm := Nat.mod_lt x (Nat.pos_of_ne_zero hy)
   obtain ⟨m, hmm⟩ : ∃ m, x % y = m := ⟨_, rfl⟩
   rw [hmm] at HN hmod hmod2 hm
   clear HG hmm
   go_wp2
   go_quiet (fail)
   go_wp2
   go_roundw
   case rel => exact ⟨y, m, rfl, rfl, c2, by omega, HB.out.trans ((Drew.of _ _).below _), HN.out⟩
   case measure => simp [intOf]; omega

set_option maxRecDepth 100000 in
set_option maxHeartbeats 4000000 in
theorem refsmall_neg (n : Int) (d : Nat) (w : World) (ht : Pow10 w) (hd : 0 < d) (hsn : (canon (-n)).size ≤ 9) (hsd : (canon (-(d : Int))).size ≤ 9) :
  Calls Tryz.prog 45 #[.string (canon (-n)), .string (canon (-(d : Int)))] w fun e w' => e = .returned (.string (canonR (mkRat n d))) ∧ Below w.heap.size w w' := by
 have hnl := itoa_len_small (z := -n) (k := 9) hsn
 have hdl := itoa_len_small (z := -(d : Int)) (k := 9) hsd
 rw [Int.natAbs_neg, Int.natAbs_natCast] at hdl
 rw [Int.natAbs_neg] at hnl
 have t1 := fun W => atoi_any (-n) (by omega) W
 have t2 := fun W => atoi_any (-(d : Int)) (by omega) W
 have hmk := canonR_mk n d (by omega)
 have hgp : 0 < n.natAbs.gcd d := Nat.gcd_pos_of_pos_right _ hd
 have hgn : ((n.natAbs.gcd d : Nat) : Int) ∣ n := Int.ofNat_dvd_left.2 (Nat.gcd_dvd_left _ _)
 have hgl : n.natAbs.gcd d ≤ d := Nat.gcd_le_right _ hd
 have hq := tdiv_gcd n _ hgn hgp
 have hqb : (n / ((n.natAbs.gcd d : Nat) : Int)).natAbs ≤ n.natAbs := Int.natAbs_ediv_le_natAbs _ _
 have hqd : d / n.natAbs.gcd d ≤ d := Nat.div_le_self _ _
 have hqd0 : 0 < d / n.natAbs.gcd d := Nat.div_pos hgl hgp
 have hgg : Int.gcd (n.natAbs : Int) (d : Int) = n.natAbs.gcd d := by unfold Int.gcd; rw [Int.natAbs_natCast, Int.natAbs_natCast]
 obtain ⟨g, hg⟩ : ∃ g, n.natAbs.gcd d = g := ⟨_, rfl⟩
 rw [hg] at hmk hgp hgl hq hqb hqd hqd0 hgg
 obtain ⟨q, hqq⟩ : ∃ q, n / (g : Int) = q := ⟨_, rfl⟩
 obtain ⟨e, he⟩ : ∃ e, d / g = e := ⟨_, rfl⟩
 have hde : (d : Int) / (g : Int) = (e : Int) := by rw [← he]; simp
 have hde2 : (d : Int).tdiv (g : Int) = (e : Int) := by rw [Int.tdiv_eq_ediv_of_nonneg (by omega)]; exact hde
 rw [hqq] at hmk hq hqb
 rw [he] at hmk hqd hqd0
 rw [hmk]
 have hr1 : e = 1 → ratT q e = canon q := fun h => by rw [h]; rfl
 have hr2 : e ≠ 1 → ratT q e = canon q ++ (⟨#[47]⟩ : ByteArray) ++ canon (e : Int) := fun h => ratT_frac q e h
 obtain ⟨R, hR⟩ : ∃ R, ratT q e = R := ⟨_, rfl⟩
 rw [hR] at hr1 hr2 ⊢
 have HR1 := Lib.hid hr1
 have HR2 := Lib.hid hr2
 clear hr1 hr2 hR
 have hn0 : -1000000000 ≤ n := by omega
 have hn1 : n ≤ 1000000000 := by omega
 have hd1 : (d : Int) ≤ 1000000000 := by omega
 have hq0 : -1000000000 ≤ q := by omega
 have hq1 : q ≤ 1000000000 := by omega
 have he4 : (e : Int) ≤ 1000000000 := by omega
 have i1 := fun W (hW : Below w.heap.size w W) => itoa_any q (by omega) (by omega) W (ht.below hW)
 have i2 := fun W (hW : Below w.heap.size w W) => itoa_any (e : Int) (by omega) (by omega) W (ht.below hW)
 have hsq : (canon q).size ≤ 20 := canon_size_lt q 19 (by omega) (by omega)
 have hse : (canon (e : Int)).size ≤ 20 := canon_size_lt (e : Int) 19 (by omega) (by omega)
 obtain ⟨an, han⟩ : ∃ an : Nat, n.natAbs = an := ⟨_, rfl⟩
 rw [han] at hgg
 have han2 : (an : Int) ≤ 1000000000 := by omega
 have I1 := Lib.hid i1
 have I2 := Lib.hid i2
 have HGG := Lib.hid hgg
 have HQ := Lib.hid hq
 have HD2 := Lib.hid hde2
 have HD3 := Lib.hid hde
 have dd : decide (-(d : Int) < 0) = true := decide_eq_true (by omega)
 have hcase : n = -(an : Int) ∧ decide (n < 0) = true ∨ n = (an : Int) ∧ decide (n < 0) = false := by
  by_cases h : n < 0
  ·exact .inl ⟨by omega, decide_eq_true h⟩
  ·exact .inr ⟨by omega, decide_eq_false h⟩
 generalize canon (-n) = CN at *
 generalize canon (-(d : Int)) = CD at *
 obtain ⟨dn, hdn⟩ : ∃ x, -(d : Int) = x := ⟨_, rfl⟩
 obtain ⟨nn, hnn⟩ : ∃ x, -n = x := ⟨_, rfl⟩
 rw [hdn] at dd t2
 rw [hnn] at t1
 have hdn2 : -dn = (d : Int) := by omega
 have hnn2 : -nn = n := by omega
 have hdn3 : -1000000000 ≤ dn ∧ dn ≤ 0 := by omega
 have hnn3 : -1000000000 ≤ nn ∧ nn ≤ 1000000000 := by omega
 have T1 := Lib.hid t1
 have T2 := Lib.hid t2
 clear i1 i2 ht hmk hgn hqb hgg hqq he hg hq hde2 hde hqd t1 t2 hnl hdl han hdn hnn
 rcases hcase with ⟨hne, dn⟩ | ⟨hne, dn⟩
 all_goals
  have HNE := Lib.hid hne
  first | (have hneg : -n = (an : Int) := by omega) | skip
  clear hne
  go_enter Tryz.func45, Tryz.ntmps45
  go_wp2_with (first
   | (go_at_call_of 80 (Value.string CN); (with_reducible refine (T1.out _).mono ?_); rintro e w1 ⟨rfl, q⟩; have B1 := Lib.hid q; clear q)
   | (go_at_call 80; (with_reducible refine (T2.out _).mono ?_); rintro e w2 ⟨rfl, q⟩; have B2 := Lib.hid (B1.out.trans (q.mono B1.out.size)); clear q)
   | fail "arm")
  go_loopw [9, 10] (fun xv yv wr => ∃ (x y : Nat), xv = .int .i64 x ∧ yv = .int .i64 y ∧ x ≤ 1000000000 ∧ y ≤ 1000000000 ∧ Below w.heap.size w wr ∧ Hid (Int.gcd x y = g)) (fun _ yv _ => (intOf yv).natAbs)
  case atStart => exact ⟨an, d, i64_q (by have := HNE.out; omega), i64_q (by omega), by omega, by omega, B2.out, HGG.out⟩
  case round =>
   clear B1 B2
   obtain ⟨x, y, rfl, rfl, c1, c2, hb, HG⟩ := hrel
   have HB := Lib.hid hb
   clear hb
   by_cases hy : y = 0
   ·subst hy
    have hgx : x = g := by rw [← HG.out]; simp
    subst hgx
    have t0 : ((x : Int) == 0) = false := beq_eq_false_iff_ne.2 (by omega)
    have hq := HQ.out
    have hd2 := HD2.out
    have hd3 := HD3.out
    by_cases he1 : e = 1
    ·have HR := Lib.hid (HR1.out he1)
     have te : ((e : Int) == 1) = true := by rw [he1]; rfl
     clear I2 HG HGG HQ HD2 HD3
     go_wp2
     go_quiet (fail)
     go_wp2_with (go_at_call 50; (with_reducible refine (I1.out _ ?_).mono ?_); exact HB.out.trans ((Drew.of _ _).below _); rintro e w3 ⟨rfl, q⟩; have B3 := Lib.hid ((HB.out.trans ((Drew.of _ _).below _)).trans (q.mono HB.out.size)); clear q)
     go_ret
     rw [HR.out]
     exact ⟨rfl, B3.out⟩
    ·have te : ((e : Int) == 1) = false := beq_eq_false_iff_ne.2 (by omega)
     have HR := Lib.hid (HR2.out he1)
     clear HG HGG HQ HD2 HD3
     go_wp2
     go_quiet (fail)
     go_wp2_with (first
      | (go_at_call_of 50 (Value.int .i64 q); (with_reducible refine (I1.out _ ?_).mono ?_); exact HB.out.trans ((Drew.of _ _).below _); rintro e w3 ⟨rfl, q⟩; have B3 := Lib.hid ((HB.out.trans ((Drew.of _ _).below _)).trans (q.mono HB.out.size)); clear q)
      | (go_at_call 50; (with_reducible refine (I2.out _ B3.out).mono ?_); rintro e w4 ⟨rfl, q⟩; have B4 := Lib.hid (B3.out.trans (q.mono B3.out.size)); clear q)
      | fail "arm")
     go_ret
     rw [HR.out]
     exact ⟨rfl, B4.out⟩
   ·have t1 : ((y : Int) != 0) = true := by rw [bne_iff_ne]; omega
    have t2 : ((y : Int) == 0) = false := beq_eq_false_iff_ne.2 (by omega)
    have HN := Lib.hid ((gcd_tmod x y).trans HG.out)
    have hmod : (x : Int).tmod (y : Int) = ((x % y : Nat) : Int) := by rw [Int.tmod_eq_emod_of_nonneg (by omega)]; simp
    have hmod2 : (x : Int) % (y : Int) = ((x % y : Nat) : Int) := by simp
    rw [hmod] at HN
    have hm := Nat.mod_lt x (Nat.pos_of_ne_zero hy)
    obtain ⟨m, hmm⟩ : ∃ m, x % y = m := ⟨_, rfl⟩
    rw [hmm] at HN hmod hmod2 hm
    clear HG hmm
    go_wp2
    go_quiet (fail)
    go_wp2
    go_roundw
    case rel => exact ⟨y, m, rfl, rfl, c2, by omega, HB.out.trans ((Drew.of _ _).below _), HN.out⟩
    case measure => simp [intOf]; omega

theorem refsmall_pos (n : Int) (D : Nat) (w : World) (ht : Pow10 w) (hD : 0 < D) (neg : Bool) (hn : (canon (if neg then -n else n)).size ≤ 9) (hd : (canon (if neg then -(D : Int) else (D : Int))).size ≤ 9) :
  Calls Tryz.prog 45 #[.string (canon (if neg then -n else n)), .string (canon (if neg then -(D : Int) else (D : Int)))] w fun e w' => e = .returned (.string (canonR (mkRat n D))) ∧ Below w.heap.size w w' := by
 cases neg with
 | false =>
  rw [if_neg (by simp)] at hn hd ⊢
  rw [if_neg (by simp)]
  exact refsmall_of n D w ht hD hn hd
 | true =>
  rw [if_pos rfl] at hn hd ⊢
  rw [if_pos rfl]
  exact refsmall_neg n D w ht hD hn hd

set_option maxRecDepth 100000 in
set_option maxHeartbeats 4000000 in
theorem fraction_any (neg : Bool) (n : Int) (D : Nat) (w : World) (ht : Pow10 w) (hD : 0 < D) (hn : (canon n).size ≤ 8000) (hd : (canon (D : Int)).size ≤ 8000) :
  Calls Tryz.prog 17 #[.string (canon (if neg then -n else n)), .string (canon (if neg then -(D : Int) else (D : Int)))] w fun e w' => e = .returned (.string (canonR (mkRat n D))) ∧ Below w.heap.size w w' := by
 by_cases hs : (canon (if neg then -n else n)).size ≤ 9 ∧ (canon (if neg then -(D : Int) else (D : Int))).size ≤ 9
 ·have h1 := fun W (hW : Below w.heap.size w W) => refsmall_pos n D W (ht.below hW) hD neg hs.1 hs.2
  have d1 : decide (((canon (if neg then -n else n)).size : Int) ≤ 9) = true := decide_eq_true (by omega)
  have d2 : decide (((canon (if neg then -(D : Int) else (D : Int))).size : Int) ≤ 9) = true := decide_eq_true (by omega)
  generalize canonR (mkRat n D) = R at *
  generalize canon (if neg then -n else n) = CN at *
  generalize canon (if neg then -(D : Int) else (D : Int)) = CD at *
  have H1 := Lib.hid h1
  clear h1 ht hD hs hn hd
  go_enter Tryz.func17, Tryz.ntmps17
  go_wp2_with (first
   | (go_at_call 45; (with_reducible refine (H1.out _ (Below.refl _ _)).mono ?_); rintro e w1 ⟨rfl, q⟩; have B1 := Lib.hid q; clear q)
   | fail "arm")
  go_ret
  exact ⟨rfl, B1.out⟩
 ·have hnn := canon_neg_size n 8000 hn
  have hdn := canon_neg_size (D : Int) 8000 hd
  have hlong : (decide (((canon (if neg then -n else n)).size : Int) ≤ 9) = false) ∨ (decide (((canon (if neg then -n else n)).size : Int) ≤ 9) = true ∧ decide (((canon (if neg then -(D : Int) else (D : Int))).size : Int) ≤ 9) = false) := by
   by_cases h : (canon (if neg then -n else n)).size ≤ 9
   ·exact .inr ⟨decide_eq_true (by omega), decide_eq_false (by omega)⟩
   ·exact .inl (decide_eq_false (by omega))
  have hg := fun W (hW : Below w.heap.size w W) => gcdR_any n (D : Int) W (ht.below hW) (by omega) (by omega)
  rw [show Int.gcd n (D : Int) = n.natAbs.gcd D from rfl] at hg
  have hgp := gcd_pos n D hD
  have hmk := canonR_mk n D (by omega)
  have hgD : n.natAbs.gcd D ≤ D := Nat.gcd_le_right _ hD
  have hgs : (canon ((n.natAbs.gcd D : Nat) : Int)).size ≤ 9001 := by
   have h1 := itoa_len_small (z := (D : Int)) (k := 8000) hd
   rw [Int.natAbs_natCast] at h1
   have := canon_size_lt ((n.natAbs.gcd D : Nat) : Int) 8000 (by rw [Int.natAbs_natCast]; omega) (by omega)
   omega
  have d1 := fun W (hW : Below w.heap.size w W) => divmodR_any n ((n.natAbs.gcd D : Nat) : Int) W (ht.below hW) (by omega) (by omega) (by omega)
  have d2 := fun W (hW : Below w.heap.size w W) => divmodR_any (D : Int) ((n.natAbs.gcd D : Nat) : Int) W (ht.below hW) (by omega) (by omega) (by omega)
  have hqn : (canon (n / ((n.natAbs.gcd D : Nat) : Int))).size ≤ 9001 := by
   have h1 := itoa_len_small (z := n) (k := 8000) hn
   have := canon_size_lt _ 8000 (Nat.lt_of_le_of_lt (Int.natAbs_ediv_le_natAbs n ((n.natAbs.gcd D : Nat) : Int)) h1) (by omega)
   omega
  have hqd : (canon ((D / n.natAbs.gcd D : Nat) : Int)).size ≤ 9001 := by
   have h1 := itoa_len_small (z := (D : Int)) (k := 8000) hd
   rw [Int.natAbs_natCast] at h1
   have := canon_size_lt ((D / n.natAbs.gcd D : Nat) : Int) 8000 (by rw [Int.natAbs_natCast]; exact Nat.lt_of_le_of_lt (Nat.div_le_self _ _) h1) (by omega)
   omega
  rw [show (D : Int) / ((n.natAbs.gcd D : Nat) : Int) = ((D / n.natAbs.gcd D : Nat) : Int) by simp] at d2
  have n1 := fun W => negR_any (-n) W (by omega)
  have n2 := fun W => negR_any (-(D : Int)) W (by omega)
  rw [Int.neg_neg] at n1 n2
  have s1 := fun W => signR_any (if neg = true then -(D : Int) else (D : Int)) W (by cases neg <;> simp <;> omega)
  have hsg : (if neg = true then -(D : Int) else (D : Int)).sign = if neg = true then -1 else 1 := by
   cases neg
   ·rw [if_neg (by simp), if_neg (by simp)]; exact Int.sign_eq_one_of_pos (by omega)
   ·rw [if_pos rfl, if_pos rfl]; exact Int.sign_eq_neg_one_of_neg (by omega)
  rw [hsg] at s1
  obtain ⟨g, hgg⟩ : ∃ g, n.natAbs.gcd D = g := ⟨_, rfl⟩
  rw [hgg] at hg d1 d2 hmk hqn hqd
  obtain ⟨R, hR⟩ : ∃ R, canonR (mkRat n D) = R := ⟨_, rfl⟩
  obtain ⟨dg, hdg⟩ : ∃ x, D / g = x := ⟨_, rfl⟩
  obtain ⟨ng, hng⟩ : ∃ x, n / (g : Int) = x := ⟨_, rfl⟩
  rw [hR, hng, hdg] at hmk
  rw [hR]
  rw [hdg] at d2 hqd
  rw [hng] at d1 hqn
  have hb1 := canon_beq1 (dg : Int)
  have e1 : dg = 1 → R = canon ng := fun h => by rw [hmk, h]; rfl
  have e2 : dg ≠ 1 → R = canon ng ++ (⟨#[47]⟩ : ByteArray) ++ canon (dg : Int) := fun h => by rw [hmk]; exact ratT_frac ng dg h
  generalize canon (n % (g : Int)) = X1 at *
  generalize canon ((D : Int) % (g : Int)) = X2 at *
  generalize canon ng = CNG at *
  generalize canon (dg : Int) = CDG at *
  generalize canon (g : Int) = CG at *
  have HG := Lib.hid hg
  have D1 := Lib.hid d1
  have D2 := Lib.hid d2
  have N1 := Lib.hid n1
  have N2 := Lib.hid n2
  have E1 := Lib.hid e1
  have E2 := Lib.hid e2
  have HB1 := Lib.hid hb1
  clear hg d1 d2 n1 n2 hb1 e1 e2 hsg hmk hgD hgs hs hn hd hnn hdn ht hgg hR hdg hng hgp hD
  have hone : (dg = 1 ∧ (CDG.toList == [49]) = true) ∨ (dg ≠ 1 ∧ (CDG.toList == [49]) = false) := by
   by_cases h : dg = 1
   ·exact .inl ⟨h, by rw [HB1.out, h]; rfl⟩
   ·exact .inr ⟨h, by rw [HB1.out]; exact decide_eq_false (by omega)⟩
  clear HB1
  cases neg with
  | false =>
   simp only [Bool.false_eq_true, if_false] at s1 hlong ⊢
   have S1 := Lib.hid s1
   clear s1
   generalize canon n = CN at *
   generalize canon (D : Int) = CD at *
   rcases hone with ⟨h1, t1⟩ | ⟨h1, t1⟩
   ·have ER := Lib.hid (E1.out h1)
    clear E1 E2 h1
    rcases hlong with hl | ⟨hl1, hl2⟩
    all_goals
     go_enter Tryz.func17, Tryz.ntmps17
     go_wp2_with (first
      | (go_at_call 46; (with_reducible refine (S1.out _).mono ?_); rintro e w1 ⟨rfl, q⟩; have B1 := Lib.hid q; clear q)
      | (go_at_call 48; (with_reducible refine (HG.out _ B1.out).mono ?_); rintro e w2 ⟨rfl, q⟩; have B2 := Lib.hid (B1.out.trans (q.mono B1.out.size)); clear q)
      | (go_at_call_of 49 (Value.string CN); (with_reducible refine (D1.out _ B2.out).mono ?_); rintro e w6 ⟨rfl, q⟩; have B6 := Lib.hid (B2.out.trans (q.mono B2.out.size)); clear q)
      | (go_at_call 49; (with_reducible refine (D2.out _ B6.out).mono ?_); rintro e w7 ⟨rfl, q⟩; have B7 := Lib.hid (B6.out.trans (q.mono B6.out.size)); clear q)
      | fail "arm")
     go_ret
     rw [ER.out]
     exact ⟨rfl, B7.out⟩
   ·have ER := Lib.hid (E2.out h1)
    clear E1 E2 h1
    rcases hlong with hl | ⟨hl1, hl2⟩
    all_goals
     go_enter Tryz.func17, Tryz.ntmps17
     go_wp2_with (first
      | (go_at_call 46; (with_reducible refine (S1.out _).mono ?_); rintro e w1 ⟨rfl, q⟩; have B1 := Lib.hid q; clear q)
      | (go_at_call 48; (with_reducible refine (HG.out _ B1.out).mono ?_); rintro e w2 ⟨rfl, q⟩; have B2 := Lib.hid (B1.out.trans (q.mono B1.out.size)); clear q)
      | (go_at_call_of 49 (Value.string CN); (with_reducible refine (D1.out _ B2.out).mono ?_); rintro e w6 ⟨rfl, q⟩; have B6 := Lib.hid (B2.out.trans (q.mono B2.out.size)); clear q)
      | (go_at_call 49; (with_reducible refine (D2.out _ B6.out).mono ?_); rintro e w7 ⟨rfl, q⟩; have B7 := Lib.hid (B6.out.trans (q.mono B6.out.size)); clear q)
      | fail "arm")
     go_ret
     rw [ER.out]
     exact ⟨rfl, B7.out⟩
  | true =>
   simp only [if_true] at s1 hlong ⊢
   have S1 := Lib.hid s1
   clear s1
   rcases hone with ⟨h1, t1⟩ | ⟨h1, t1⟩
   ·have ER := Lib.hid (E1.out h1)
    clear E1 E2 h1
    rcases hlong with hl | ⟨hl1, hl2⟩
    all_goals
     go_enter Tryz.func17, Tryz.ntmps17
     go_wp2_with (first
      | (go_at_call 46; (with_reducible refine (S1.out _).mono ?_); rintro e w1 ⟨rfl, q⟩; have B1 := Lib.hid q; clear q)
      | (go_at_call_of 47 (Value.string (canon (-n))); (with_reducible refine (N1.out _).mono ?_); rintro e w4 ⟨rfl, q⟩; have B4 := Lib.hid (B1.out.trans (q.mono B1.out.size)); clear q)
      | (go_at_call_of 47 (Value.string (canon (-(D : Int)))); (with_reducible refine (N2.out _).mono ?_); rintro e w5 ⟨rfl, q⟩; have B5 := Lib.hid (B4.out.trans (q.mono B4.out.size)); clear q)
      | (go_at_call 48; (with_reducible refine (HG.out _ B5.out).mono ?_); rintro e w2 ⟨rfl, q⟩; have B2 := Lib.hid (B5.out.trans (q.mono B5.out.size)); clear q)
      | (go_at_call_of 49 (Value.string (canon n)); (with_reducible refine (D1.out _ B2.out).mono ?_); rintro e w6 ⟨rfl, q⟩; have B6 := Lib.hid (B2.out.trans (q.mono B2.out.size)); clear q)
      | (go_at_call 49; (with_reducible refine (D2.out _ B6.out).mono ?_); rintro e w7 ⟨rfl, q⟩; have B7 := Lib.hid (B6.out.trans (q.mono B6.out.size)); clear q)
      | fail "arm")
     go_ret
     rw [ER.out]
     exact ⟨rfl, B7.out⟩
   ·have ER := Lib.hid (E2.out h1)
    clear E1 E2 h1
    rcases hlong with hl | ⟨hl1, hl2⟩
    all_goals
     go_enter Tryz.func17, Tryz.ntmps17
     go_wp2_with (first
      | (go_at_call 46; (with_reducible refine (S1.out _).mono ?_); rintro e w1 ⟨rfl, q⟩; have B1 := Lib.hid q; clear q)
      | (go_at_call_of 47 (Value.string (canon (-n))); (with_reducible refine (N1.out _).mono ?_); rintro e w4 ⟨rfl, q⟩; have B4 := Lib.hid (B1.out.trans (q.mono B1.out.size)); clear q)
      | (go_at_call_of 47 (Value.string (canon (-(D : Int)))); (with_reducible refine (N2.out _).mono ?_); rintro e w5 ⟨rfl, q⟩; have B5 := Lib.hid (B4.out.trans (q.mono B4.out.size)); clear q)
      | (go_at_call 48; (with_reducible refine (HG.out _ B5.out).mono ?_); rintro e w2 ⟨rfl, q⟩; have B2 := Lib.hid (B5.out.trans (q.mono B5.out.size)); clear q)
      | (go_at_call_of 49 (Value.string (canon n)); (with_reducible refine (D1.out _ B2.out).mono ?_); rintro e w6 ⟨rfl, q⟩; have B6 := Lib.hid (B2.out.trans (q.mono B2.out.size)); clear q)
      | (go_at_call 49; (with_reducible refine (D2.out _ B6.out).mono ?_); rintro e w7 ⟨rfl, q⟩; have B7 := Lib.hid (B6.out.trans (q.mono B6.out.size)); clear q)
      | fail "arm")
     go_ret
     rw [ER.out]
     exact ⟨rfl, B7.out⟩

end Go.Proofs.YtnallacamijkeaaGreatDoor
