/- The walks of klipperef02.small, Fraction (at short parts) and Of, and of klippelaw02.Make. -/
import Derived.Test.YtnallacamijkeaaGreatDoorRatS
import Derived.Test.YtnallacamijkeaaGreatDoorRatB
import Derived.Test.YtnallacamijkeaaGreatDoorGRefB
namespace Go.Proofs.YtnallacamijkeaaGreatDoor
set_option linter.all false
open Go.RowKit

set_option maxRecDepth 100000 in
set_option maxHeartbeats 4000000 in
theorem refsmall_of (n : Int) (d : Nat) (w : World) (ht : Pow10 w) (hd : 0 < d) (hsn : (canon n).size ≤ 9) (hsd : (canon (d : Int)).size ≤ 9) :
  Calls Tryz.prog 45 #[.string (canon n), .string (canon (d : Int))] w fun e w' => e = .returned (.string (canonR (mkRat n d))) ∧ Below w.heap.size w w' := by
 have hnl := itoa_len_small (z := n) (k := 9) hsn
 have hdl := itoa_len_small (z := (d : Int)) (k := 9) hsd
 rw [Int.natAbs_natCast] at hdl
 have t1 := fun W => atoi_any n (by omega) W
 have t2 := fun W => atoi_any (d : Int) (by omega) W
 have hmk := canonR_mk n d (by omega)
 have hgp : 0 < n.natAbs.gcd d := Nat.gcd_pos_of_pos_right _ hd
 have hgn : ((n.natAbs.gcd d : Nat) : Int) ∣ n := Int.ofNat_dvd_left.2 (Nat.gcd_dvd_left _ _)
 have hgl : n.natAbs.gcd d ≤ d := Nat.gcd_le_right _ hd
 have hq := tdiv_gcd n _ hgn hgp
 have hqb : (n / ((n.natAbs.gcd d : Nat) : Int)).natAbs ≤ n.natAbs := Int.natAbs_ediv_le_natAbs _ _
 have hqd : d / n.natAbs.gcd d ≤ d := Nat.div_le_self _ _
 have hqd0 : 0 < d / n.natAbs.gcd d := Nat.div_pos hgl hgp
 have hgg : Int.gcd (n.natAbs : Int) (d : Int) = n.natAbs.gcd d := by unfold Int.gcd; rw [Int.natAbs_natCast, Int.natAbs_natCast]
 obtain ⟨g, hg⟩ : ∃ g, n.natAbs.gcd d = g := ⟨_, rfl⟩
 rw [hg] at hmk hgp hgl hq hqb hqd hqd0 hgg
 obtain ⟨q, hqq⟩ : ∃ q, n / (g : Int) = q := ⟨_, rfl⟩
 obtain ⟨e, he⟩ : ∃ e, d / g = e := ⟨_, rfl⟩
 have hde : (d : Int) / (g : Int) = (e : Int) := by rw [← he]; simp
 have hde2 : (d : Int).tdiv (g : Int) = (e : Int) := by rw [Int.tdiv_eq_ediv_of_nonneg (by omega)]; exact hde
 rw [hqq] at hmk hq hqb
 rw [he] at hmk hqd hqd0
 rw [hmk]
 have hr1 : e = 1 → ratT q e = canon q := fun h => by rw [h]; rfl
 have hr2 : e ≠ 1 → ratT q e = canon q ++ (⟨#[47]⟩ : ByteArray) ++ canon (e : Int) := fun h => ratT_frac q e h
 obtain ⟨R, hR⟩ : ∃ R, ratT q e = R := ⟨_, rfl⟩
 rw [hR] at hr1 hr2 ⊢
 have HR1 := Lib.hid hr1
 have HR2 := Lib.hid hr2
 clear hr1 hr2 hR
 have hn0 : -1000000000 ≤ n := by omega
 have hn1 : n ≤ 1000000000 := by omega
 have hd1 : (d : Int) ≤ 1000000000 := by omega
 have hq0 : -1000000000 ≤ q := by omega
 have hq1 : q ≤ 1000000000 := by omega
 have he4 : (e : Int) ≤ 1000000000 := by omega
 have i1 := fun W (hW : Below w.heap.size w W) => itoa_any q (by omega) (by omega) W (ht.below hW)
 have i2 := fun W (hW : Below w.heap.size w W) => itoa_any (e : Int) (by omega) (by omega) W (ht.below hW)
 have hsq : (canon q).size ≤ 20 := canon_size_lt q 19 (by omega) (by omega)
 have hse : (canon (e : Int)).size ≤ 20 := canon_size_lt (e : Int) 19 (by omega) (by omega)
 obtain ⟨an, han⟩ : ∃ an : Nat, n.natAbs = an := ⟨_, rfl⟩
 rw [han] at hgg
 have han2 : (an : Int) ≤ 1000000000 := by omega
 have T1 := Lib.hid t1
 have T2 := Lib.hid t2
 have I1 := Lib.hid i1
 have I2 := Lib.hid i2
 have HGG := Lib.hid hgg
 have HQ := Lib.hid hq
 have HD2 := Lib.hid hde2
 have HD3 := Lib.hid hde
 have dd : decide ((d : Int) < 0) = false := decide_eq_false (by omega)
 have hcase : n = -(an : Int) ∧ decide (n < 0) = true ∨ n = (an : Int) ∧ decide (n < 0) = false := by
  by_cases h : n < 0
  ·exact .inl ⟨by omega, decide_eq_true h⟩
  ·exact .inr ⟨by omega, decide_eq_false h⟩
 generalize canon n = CN at *
 generalize canon (d : Int) = CD at *
 clear i1 i2 ht hmk hgn hqb hgg hqq he hg hq hde2 hde hqd t1 t2 hnl hdl han
 rcases hcase with ⟨hne, dn⟩ | ⟨hne, dn⟩
 all_goals
  have HNE := Lib.hid hne
  first | (have hneg : -n = (an : Int) := by omega) | skip
  clear hne
  go_enter Tryz.func45, Tryz.ntmps45
  go_wp2_with (first
   | (go_at_call_of 80 (Value.string CN); (with_reducible refine (T1.out _).mono ?_); rintro e w1 ⟨rfl, q⟩; have B1 := Lib.hid q; clear q)
   | (go_at_call 80; (with_reducible refine (T2.out _).mono ?_); rintro e w2 ⟨rfl, q⟩; have B2 := Lib.hid (B1.out.trans (q.mono B1.out.size)); clear q)
   | fail "arm")
  go_loopw [9, 10] (fun xv yv wr => ∃ (x y : Nat), xv = .int .i64 x ∧ yv = .int .i64 y ∧ x ≤ 1000000000 ∧ y ≤ 1000000000 ∧ Below w.heap.size w wr ∧ Hid (Int.gcd x y = g)) (fun _ yv _ => (intOf yv).natAbs)
  case atStart => exact ⟨an, d, by (first | rfl | (rw [HNE.out]) | (rw [HNE.out, Int.neg_neg])), rfl, by omega, by omega, B2.out, HGG.out⟩
  case round =>
   clear B1 B2
   obtain ⟨x, y, rfl, rfl, c1, c2, hb, HG⟩ := hrel
   have HB := Lib.hid hb
   clear hb
   by_cases hy : y = 0
   ·subst hy
    have hgx : x = g := by rw [← HG.out]; simp
    subst hgx
    have t0 : ((x : Int) == 0) = false := beq_eq_false_iff_ne.2 (by omega)
    have hq := HQ.out
    have hd2 := HD2.out
    have hd3 := HD3.out
    by_cases he1 : e = 1
    ·have HR := Lib.hid (HR1.out he1)
     have te : ((e : Int) == 1) = true := by rw [he1]; rfl
     clear I2 HG HGG HQ HD2 HD3
     go_wp2
     go_quiet (fail)
     go_wp2_with (go_at_call 50; (with_reducible refine (I1.out _ ?_).mono ?_); exact HB.out.trans ((Drew.of _ _).below _); rintro e w3 ⟨rfl, q⟩; have B3 := Lib.hid ((HB.out.trans ((Drew.of _ _).below _)).trans (q.mono HB.out.size)); clear q)
     go_ret
     rw [HR.out]
     exact ⟨rfl, B3.out⟩
    ·have te : ((e : Int) == 1) = false := beq_eq_false_iff_ne.2 (by omega)
     have HR := Lib.hid (HR2.out he1)
     clear HG HGG HQ HD2 HD3
     go_wp2
     go_quiet (fail)
     go_wp2_with (first
      | (go_at_call_of 50 (Value.int .i64 q); (with_reducible refine (I1.out _ ?_).mono ?_); exact HB.out.trans ((Drew.of _ _).below _); rintro e w3 ⟨rfl, q⟩; have B3 := Lib.hid ((HB.out.trans ((Drew.of _ _).below _)).trans (q.mono HB.out.size)); clear q)
      | (go_at_call 50; (with_reducible refine (I2.out _ B3.out).mono ?_); rintro e w4 ⟨rfl, q⟩; have B4 := Lib.hid (B3.out.trans (q.mono B3.out.size)); clear q)
      | fail "arm")
     go_ret
     rw [HR.out]
     exact ⟨rfl, B4.out⟩
   ·have t1 : ((y : Int) != 0) = true := by rw [bne_iff_ne]; omega
    have t2 : ((y : Int) == 0) = false := beq_eq_false_iff_ne.2 (by omega)
    have HN := Lib.hid ((gcd_tmod x y).trans HG.out)
    have hmod : (x : Int).tmod (y : Int) = ((x % y : Nat) : Int) := by rw [Int.tmod_eq_emod_of_nonneg (by omega)]; simp
    have hmod2 : (x : Int) % (y : Int) = ((x % y : Nat) : Int) := by simp
    rw [hmod] at HN
    have hm := Nat.mod_lt x (Nat.pos_of_ne_zero hy)
    obtain ⟨m, hmm⟩ : ∃ m, x % y = m := ⟨_, rfl⟩
    rw [hmm] at HN hmod hmod2 hm
    clear HG hmm
    go_wp2
    go_quiet (fail)
    go_wp2
    go_roundw
    case rel => exact ⟨y, m, rfl, rfl, c2, by omega, HB.out.trans ((Drew.of _ _).below _), HN.out⟩
    case measure => simp [intOf]; omega

set_option maxHeartbeats 1000000 in
theorem fraction_short (n : Int) (d : Nat) (w : World) (ht : Pow10 w) (hd : 0 < d) (hsn : (canon n).size ≤ 9) (hsd : (canon (d : Int)).size ≤ 9) :
  Calls Tryz.prog 17 #[.string (canon n), .string (canon (d : Int))] w fun e w' => e = .returned (.string (canonR (mkRat n d))) ∧ Below w.heap.size w w' := by
 have h1 := fun W (hW : Below w.heap.size w W) => refsmall_of n d W (ht.below hW) hd hsn hsd
 have d1 : decide (((canon n).size : Int) ≤ 9) = true := decide_eq_true (by omega)
 have d2 : decide (((canon (d : Int)).size : Int) ≤ 9) = true := decide_eq_true (by omega)
 generalize canonR (mkRat n d) = R at *
 generalize canon n = CN at *
 generalize canon (d : Int) = CD at *
 have H1 := Lib.hid h1
 clear h1 ht hd
 go_enter Tryz.func17, Tryz.ntmps17
 go_wp2_with (first
  | (go_at_call 45; (with_reducible refine (H1.out _ (Below.refl _ _)).mono ?_); rintro e w1 ⟨rfl, q⟩; have B1 := Lib.hid q; clear q)
  | fail "arm")
 go_ret
 exact ⟨rfl, B1.out⟩

set_option maxHeartbeats 1000000 in
theorem refof_any (n : Int) (d : Nat) (w : World) (ht : Pow10 w) (hd : 0 < d) (hn : n.natAbs < 10000000) (hd1 : d < 10000000) :
  Calls Tryz.prog 6 #[.int .i64 n, .int .i64 (d : Int)] w fun e w' => e = .returned (.string (canonR (mkRat n d))) ∧ Below w.heap.size w w' := by
 have s1 : (canon n).size ≤ 8 := canon_size_lt n 7 (by omega) (by omega)
 have s2 : (canon (d : Int)).size ≤ 8 := canon_size_lt (d : Int) 7 (by omega) (by omega)
 have h1 := fun W (hW : Below w.heap.size w W) => ofR_any n (by omega) (by omega) W (ht.below hW)
 have h2 := fun W (hW : Below w.heap.size w W) => ofR_any (d : Int) (by omega) (by omega) W (ht.below hW)
 have h3 := fun W (hW : Below w.heap.size w W) => fraction_short n d W (ht.below hW) hd (by omega) (by omega)
 generalize canonR (mkRat n d) = R at *
 obtain ⟨dd, hdd⟩ : ∃ dd, (d : Int) = dd := ⟨_, rfl⟩
 rw [hdd] at h2 h3 ⊢
 have H1 := Lib.hid h1
 have H2 := Lib.hid h2
 have H3 := Lib.hid h3
 clear h1 h2 h3 ht hd hn hd1 s1 s2 hdd
 go_enter Tryz.func6, Tryz.ntmps6
 go_wp2_with (first
  | (go_at_call_of 18 (Value.int .i64 n); (with_reducible refine (H1.out _ (Below.refl _ _)).mono ?_); rintro e w1 ⟨rfl, q⟩; have B1 := Lib.hid q; clear q)
  | (go_at_call 18; (with_reducible refine (H2.out _ B1.out).mono ?_); rintro e w2 ⟨rfl, q⟩; have B2 := Lib.hid (B1.out.trans (q.mono B1.out.size)); clear q)
  | (go_at_call 17; (with_reducible refine (H3.out _ B2.out).mono ?_); rintro e w3 ⟨rfl, q⟩; have B3 := Lib.hid (B2.out.trans (q.mono B2.out.size)); clear q)
  | fail "arm")
 go_ret
 exact ⟨rfl, B3.out⟩

end Go.Proofs.YtnallacamijkeaaGreatDoor
