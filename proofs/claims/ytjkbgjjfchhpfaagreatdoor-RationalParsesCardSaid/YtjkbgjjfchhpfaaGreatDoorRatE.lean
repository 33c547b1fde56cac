/- The walks of rational.plain, power, Root, and of Parse and Decimal at the chapter's examples. -/
import Derived.Test.YtjkbgjjfchhpfaaGreatDoorRatD
import Derived.BigQuiet
namespace Go.Proofs.YtjkbgjjfchhpfaaGreatDoor
open Go.RowKit

theorem plain_text (l : List UInt8) (hd : AllDig l) : (Lib.trimLeftB l 48 = [] → canon (dval l : Int) = ⟨#[48]⟩) ∧ (Lib.trimLeftB l 48 ≠ [] → canon (dval l : Int) = ⟨(Lib.trimLeftB l 48).toArray⟩) := by
  obtain ⟨h1, h2, h3, h4⟩ := trimB_val l
  constructor
  · intro h
    rw [h] at h1
    rw [← h1]
    exact canon_zero
  · intro h
    rcases h2 with h2 | ⟨c, m, h2, hc⟩
    · exact absurd h2 h
    · have h5 := h4 hd
      rw [h2] at h5
      have h6 := eq_dec h5 (fun e => hc (UInt8.toNat_inj.1 e))
      rw [canon_nat, ← h1, h2, ← h6]

set_option maxHeartbeats 2000000 in
theorem plain_any (T : ByteArray) (w : World) (hd : AllDig T.data.toList) (h0 : 0 < T.size) (hs : T.size ≤ 1000000) :
    Calls Tryz.prog 69 #[.string T] w fun e w' => e = .returned (.tuple #[.string (canon (dval T.data.toList : Int)), .bool true]) ∧ w = w' := by
  have hl : T.data.toList.length = T.size := (Lib.size_eq T).symm
  have hne : T.toList.isEmpty = false := by
    rw [ByteArray.toList_eq]
    cases h : T.data.toList with
    | nil => rw [h] at hl; simp at hl; omega
    | cons c l => rfl
  have hne2 : (T.toList == []) = false := by rw [List.isEmpty_eq_false_iff] at hne; exact beq_eq_false_iff_ne.2 hne
  obtain ⟨p1, p2⟩ := plain_text T.data.toList hd
  have tl := fun W => Tryz.strings_TrimLeft_one T 48 (by decide) W
  obtain ⟨S, hS⟩ : ∃ S, Lib.trimLeftB T.data.toList 48 = S := ⟨_, rfl⟩
  obtain ⟨R, hR⟩ : ∃ R, canon (dval T.data.toList : Int) = R := ⟨_, rfl⟩
  rw [hS, hR] at p1 p2
  rw [hS] at tl
  rw [hR]
  have HD := Lib.hid hd
  have TL := Lib.hid tl
  have P1 := Lib.hid p1
  have P2 := Lib.hid p2
  clear hd tl p1 p2 hS hR hl
  go_enter Tryz.func69, Tryz.ntmps69
  go_wp2
  go_loop [9] (fun iv => ∃ k : Nat, k ≤ T.size ∧ iv = .int .i64 k) (fun iv => T.size - (intOf iv).toNat)
  case atStart => exact ⟨0, Nat.zero_le _, rfl⟩
  case round =>
    obtain ⟨k, hk, rfl⟩ := hrel
    by_cases hlt : k < T.size
    · have hdk := HD.out T[k] (List.getElem_mem (l := T.data.toList) (by rw [← Lib.size_eq]; exact hlt))
      have b1 : decide ((T[k].toNat : Int) < 48) = false := decide_eq_false (by omega)
      have b2 : decide ((57 : Int) < (T[k].toNat : Int)) = false := decide_eq_false (by omega)
      have c1 := hdk.1
      have c2 := hdk.2
      clear hdk
      go_wp2
      go_round
      case rel => exact ⟨k + 1, by omega, by go_num⟩
      case measure => simp [intOf]; omega
    · obtain rfl : k = T.size := by omega
      by_cases he : S = []
      · have HR := Lib.hid (P1.out he)
        have h1 : ((⟨S.toArray⟩ : ByteArray).toList == []) = true := by rw [he, ByteArray.toList_eq]; rfl
        have h2 : (⟨S.toArray⟩ : ByteArray).toList.isEmpty = true := by rw [he, ByteArray.toList_eq]; rfl
        generalize (⟨S.toArray⟩ : ByteArray) = Z at *
        clear P1 P2 he
        go_wp2_with (go_at_call 117; (with_reducible refine (TL.out _).mono ?_); rintro e w1 ⟨rfl, rfl⟩)
        go_ret2
        rw [HR.out]
        exact ⟨rfl, rfl⟩
      · have HR := Lib.hid (P2.out he)
        have h2 : (⟨S.toArray⟩ : ByteArray).toList.isEmpty = false := by
          rw [ByteArray.toList_eq]
          cases S with
          | nil => exact absurd rfl he
          | cons c l => rfl
        have h1 : ((⟨S.toArray⟩ : ByteArray).toList == []) = false := by rw [List.isEmpty_eq_false_iff] at h2; exact beq_eq_false_iff_ne.2 h2
        generalize (⟨S.toArray⟩ : ByteArray) = Z at *
        clear P1 P2 he
        go_wp2_with (go_at_call 117; (with_reducible refine (TL.out _).mono ?_); rintro e w1 ⟨rfl, rfl⟩)
        go_ret2
        rw [HR.out]
        exact ⟨rfl, rfl⟩

theorem root_at (z : Int) (r : Nat) (hz : 0 ≤ z) (hr : IsRoot z.natAbs r) (w : World) (ht : Pow10 w) (hs : (canon z).size ≤ 5000) :
    Calls Tryz.prog 90 #[.string (canon z)] w fun e w' => e = .returned (.tuple #[.string (canon (r : Int)), .int .i64 0]) ∧ Below w.heap.size w w' := by
  obtain ⟨n, rfl⟩ := Int.eq_ofNat_of_zero_le hz
  have hr' : IsRoot n r := hr
  rcases Nat.eq_zero_or_pos n with h | h
  · subst h
    have : r = 0 := isRoot_unique hr' ⟨by simp, by simp⟩
    subst this
    exact root_zero w
  · exact (root_pos n w h ht (by have : (canon (n : Int)).size ≤ 5000 := hs; omega)).mono fun e w' ⟨⟨r2, h2, h3⟩, h4⟩ => ⟨by rw [isRoot_unique hr' h2]; exact h3, h4⟩

theorem root_small {n r N : Nat} (h : IsRoot n r) (hn : n < 10 ^ N) : r < 10 ^ N := Nat.lt_of_le_of_lt (Nat.le_trans (Nat.le_mul_self r) h.1) hn

set_option maxRecDepth 100000 in
set_option maxHeartbeats 2000000 in
theorem rroot_yes (q : Rat) (a b N : Nat) (hN0 : 0 < N) (hN : N ≤ 1000) (hq : Sz q N) (h0 : 0 ≤ q.num) (ha : q.num = (a : Int) * (a : Int)) (hb : q.den = b * b) (w : World) (he : Env w) :
    Calls Tryz.prog 26 #[.string (canonR q)] w fun e w' => e = .returned (.tuple #[.string (ratT (a : Int) b), .bool true]) ∧ Below w.heap.size w w' := by
  have hsq := hq.text hN0
  have a1 := hq.num hN0
  have a2 := hq.den hN0
  have ra : IsRoot q.num.natAbs a := by
    have : q.num.natAbs = a * a := by rw [ha, Int.natAbs_mul]; rfl
    rw [this]
    exact ⟨Nat.le_refl _, by have := Nat.mul_lt_mul'' (Nat.lt_succ_self a) (Nat.lt_succ_self a); exact this⟩
  have rb : IsRoot ((q.den : Int)).natAbs b := by
    rw [Int.natAbs_natCast, hb]
    exact ⟨Nat.le_refl _, by have := Nat.mul_lt_mul'' (Nat.lt_succ_self b) (Nat.lt_succ_self b); exact this⟩
  have za : a < 10 ^ N := root_small ra hq.1
  have zb : b < 10 ^ N := root_small rb (by rw [Int.natAbs_natCast]; exact hq.2)
  have s1 : (canon (a : Int)).size ≤ N + 1 := canon_size_lt _ N (by rw [Int.natAbs_natCast]; exact za) hN0
  have s2 : (canon (b : Int)).size ≤ N + 1 := canon_size_lt _ N (by rw [Int.natAbs_natCast]; exact zb) hN0
  have pa := fun W (hW : Below w.heap.size w W) => rparts_any q.num q.den W (he.below hW).2 (by have : (ratT q.num q.den).size = (canonR q).size := rfl; omega)
  rw [show ratT q.num q.den = canonR q from rfl] at pa
  have sg := fun W => rsign_any q W (by omega)
  have hs0 : 0 ≤ q.num.sign := by
    rcases Int.lt_or_eq_of_le h0 with h | h
    · rw [Int.sign_eq_one_of_pos h]; omega
    · rw [← h]; exact Int.le_refl _
  have r1 := fun W (hW : Below w.heap.size w W) => root_at q.num a h0 ra W (he.below hW).1 (by omega)
  have r2 := fun W (hW : Below w.heap.size w W) => root_at (q.den : Int) b (by omega) rb W (he.below hW).1 (by omega)
  have m1 := fun W (hW : Below w.heap.size w W) => mul_any (a : Int) (a : Int) W (he.below hW).1 (by omega) (by omega)
  have m2 := fun W (hW : Below w.heap.size w W) => mul_any (b : Int) (b : Int) W (he.below hW).1 (by omega) (by omega)
  rw [← ha] at m1
  rw [show (b : Int) * (b : Int) = (q.den : Int) by rw [hb, Int.natCast_mul]] at m2
  have jn := fun W => join_any (a : Int) b W (by omega) (by omega)
  have e1 : ((canon q.num).toList != (canon q.num).toList) = false := by simp
  have e2 : ((canon (q.den : Int)).toList != (canon (q.den : Int)).toList) = false := by simp
  generalize ratT (a : Int) b = R at *
  generalize canonR q = T at *
  generalize canon q.num = C1 at *
  generalize canon (q.den : Int) = C2 at *
  generalize canon (a : Int) = C3 at *
  generalize canon (b : Int) = C4 at *
  generalize q.num.sign = s at *
  have dsg : decide (s < 0) = false := decide_eq_false (by omega)
  have PA := Lib.hid pa
  have SG := Lib.hid sg
  have R1 := Lib.hid r1
  have R2 := Lib.hid r2
  have M1 := Lib.hid m1
  have M2 := Lib.hid m2
  have JN := Lib.hid jn
  clear pa sg r1 r2 m1 m2 jn ra rb za zb s1 s2 a1 a2 hsq ha hb h0 he hq hN hN0 hs0
  go_enter Tryz.func26, Tryz.ntmps26
  go_wp2_with (first
    | (go_at_call 51; (with_reducible refine (SG.out _).mono ?_); rintro e w1 ⟨rfl, rfl⟩)
    | (go_at_call 58; (with_reducible refine (PA.out _ (Below.refl _ _)).mono ?_); rintro e w2 ⟨rfl, q⟩; have B2 := Lib.hid (q.below w.heap.size); clear q)
    | (go_at_call_of 90 (Value.string C1); (with_reducible refine (R1.out _ B2.out).mono ?_); rintro e w3 ⟨rfl, q⟩; have B3 := Lib.hid (B2.out.trans (q.mono B2.out.size)); clear q)
    | (go_at_call 90; (with_reducible refine (R2.out _ B3.out).mono ?_); rintro e w4 ⟨rfl, q⟩; have B4 := Lib.hid (B3.out.trans (q.mono B3.out.size)); clear q)
    | (go_at_call_of 91 (Value.string C3); (with_reducible refine (M1.out _ B4.out).mono ?_); rintro e w5 ⟨rfl, q⟩; have B5 := Lib.hid (B4.out.trans (q.mono B4.out.size)); clear q)
    | (go_at_call 91; (with_reducible refine (M2.out _ B5.out).mono ?_); rintro e w6 ⟨rfl, q⟩; have B6 := Lib.hid (B5.out.trans (q.mono B5.out.size)); clear q)
    | (go_at_call 92; (with_reducible refine (JN.out _).mono ?_); rintro e w7 ⟨rfl, rfl⟩)
    | fail "arm")
  go_ret2
  exact ⟨rfl, B6.out⟩

end Go.Proofs.YtjkbgjjfchhpfaaGreatDoor
