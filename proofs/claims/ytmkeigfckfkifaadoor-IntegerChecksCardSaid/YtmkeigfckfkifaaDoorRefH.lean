/- The walk of klipperef01.made: a sign and pieces become an integer; Neg at an integer that is not negative. -/
import Derived.Test.YtmkeigfckfkifaaDoorRefG
import Derived.Test.YtmkeigfckfkifaaDoorRefP
namespace Go.Proofs.YtmkeigfckfkifaaDoor
open Go.RowKit

theorem canon_nat (n : Nat) : canon (n : Int) = ⟨(Lib.decDigits n).toArray⟩ := by unfold canon; rw [itoa_of_nat]
theorem canon_negnat (n : Nat) (h : 0 < n) : canon (-(n : Int)) = ⟨(45 :: Lib.decDigits n).toArray⟩ := by unfold canon; rw [itoa_of_neg n h]

theorem dec_len_lim4 (n : Nat) : (Lib.decDigits n).length ≤ 4 * (lim4 n).length + 1 := by
  have h := lim_lt_pow 10000 (by omega) n
  rw [show (10000 : Nat) = 10 ^ 4 from rfl, ← Nat.pow_mul] at h
  have h2 : (10 : Nat) ^ (4 * (lim (10 ^ 4) n).length) ≤ 10 ^ (4 * (lim4 n).length + 1) := Nat.pow_le_pow_right (by omega) (by have : (lim4 n).length = (lim (10 ^ 4) n).length := rfl; omega)
  exact decDigits_len_le _ n (by omega) (by omega)

set_option maxHeartbeats 1000000 in
theorem made_any (m : Bool) (A : Option Addr) (c n : Nat) (w : World) (h : Sl w .i64 A c (lim4 n)) (hlen : (lim4 n).length ≤ 20000) (ht : Pow10 w) :
    Calls Tryd.prog 40 #[.bool m, .slice A (lim4 n).length c] w fun e w' => e = .returned (.string (canon (if m then -(n : Int) else (n : Int)))) ∧ Below w.heap.size w w' := by
  have hcu := cut_lim A c n w h (by omega)
  have hgi := give_any A c n w h hlen ht
  have hdl := dec_len_lim4 n
  have hsz : (⟨(Lib.decDigits n).toArray⟩ : ByteArray).size ≤ 100000 := by
    show (Lib.decDigits n).length ≤ 100000
    omega
  obtain ⟨Z, hZ⟩ : ∃ Z : Int, (if m = true then -(n : Int) else (n : Int)) = Z := ⟨_, rfl⟩
  rw [hZ]
  have HCU := Lib.hid hcu
  have HGI := Lib.hid hgi
  clear hcu hgi hdl h hlen ht
  cases m with
  | false =>
    have HF : Hid (canon Z = ⟨(Lib.decDigits n).toArray⟩) := by rw [← hZ, if_neg (by simp)]; exact canon_nat n
    clear hZ
    generalize (⟨(Lib.decDigits n).toArray⟩ : ByteArray) = G at *
    go_enter Tryd.func40, Tryd.ntmps40
    go_wp2_with (first
      | (go_at_call 68; refine HCU.out.mono ?_; rintro e w' ⟨rfl, rfl⟩)
      | (go_at_call 69; refine HGI.out.mono ?_; rintro e w1 ⟨rfl, b1⟩; have B1 := Lib.hid b1; clear b1))
    go_ret
    rw [HF.out]
    exact ⟨rfl, B1.out⟩
  | true =>
    rcases Nat.eq_zero_or_pos (lim4 n).length with h0 | h0
    · have hn : n = 0 := (lim4_len_zero n).1 h0
      have HF : Hid (canon Z = ⟨(Lib.decDigits n).toArray⟩) := by
        rw [← hZ, if_pos rfl, ← canon_nat n, hn]; rfl
      have d1 : decide ((0 : Int) < ((lim4 n).length : Int)) = false := decide_eq_false (by omega)
      have d2 : decide (0 < (lim4 n).length) = false := decide_eq_false (by omega)
      generalize (⟨(Lib.decDigits n).toArray⟩ : ByteArray) = G at *
      clear h0 hn hZ
      go_enter Tryd.func40, Tryd.ntmps40
      go_wp2_with (first
        | (go_at_call 68; refine HCU.out.mono ?_; rintro e w' ⟨rfl, rfl⟩)
        | (go_at_call 69; refine HGI.out.mono ?_; rintro e w1 ⟨rfl, b1⟩; have B1 := Lib.hid b1; clear b1))
      go_ret
      rw [HF.out]
      exact ⟨rfl, B1.out⟩
    · have hn : 0 < n := by
        rcases Nat.eq_zero_or_pos n with h1 | h1
        · subst h1; simp [lim4, lim_zero] at h0
        · exact h1
      have HF : Hid (canon Z = (⟨#[45]⟩ : ByteArray) ++ ⟨(Lib.decDigits n).toArray⟩) := by
        rw [← hZ, if_pos rfl]
        exact (canon_negnat n hn).trans (minus_app ⟨(Lib.decDigits n).toArray⟩).symm
      generalize (⟨(Lib.decDigits n).toArray⟩ : ByteArray) = G at *
      clear hn hZ
      go_enter Tryd.func40, Tryd.ntmps40
      go_wp2_with (first
        | (go_at_call 68; refine HCU.out.mono ?_; rintro e w' ⟨rfl, rfl⟩)
        | (go_at_call 69; refine HGI.out.mono ?_; rintro e w1 ⟨rfl, b1⟩; have B1 := Lib.hid b1; clear b1))
      go_ret
      rw [HF.out]
      exact ⟨rfl, B1.out⟩

theorem negR_nat (n : Nat) (w : World) (hs : (canon (n : Int)).size ≤ 1000000) :
    Calls Tryd.prog 34 #[.string (canon (n : Int))] w fun e w' => e = .returned (.string (canon (-(n : Int)))) ∧ Below w.heap.size w w' := by
  rcases Nat.eq_zero_or_pos n with h | h
  · subst h
    have h1 := negR_zero (canon ((0 : Nat) : Int)) w canon_zero_list
    exact h1
  · have hd : (canon (n : Int)).data.toList = Lib.decDigits n := by rw [canon_nat]
    have h1 := negR_plain (canon (n : Int)) w (by rw [canon_beq0]; simp; omega) hs (fun h0 => by
      have h2 := decDigits_all n (canon (n : Int))[0] (by rw [← hd]; exact List.getElem_mem (l := (canon (n : Int)).data.toList) h0)
      exact beq_eq_false_iff_ne.2 (by omega))
    rw [hd, ← canon_negnat n h] at h1
    exact h1

end Go.Proofs.YtmkeigfckfkifaaDoor
