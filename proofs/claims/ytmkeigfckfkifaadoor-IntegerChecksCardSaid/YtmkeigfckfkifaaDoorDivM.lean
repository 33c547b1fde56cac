/- The long division in pieces: what its loop keeps. No program in sight. -/
import Derived.Test.YtmkeigfckfkifaaDoorDivA
namespace Go.Proofs.YtmkeigfckfkifaaDoor

theorem drop_val (n k : Nat) (hk : k ≤ (lim9 n).length) : valB 1000000000 ((lim9 n).drop k) = ((n / 1000000000 ^ k : Nat) : Int) := by
  have h1 := valB_split 1000000000 (lim9 n) k
  have h2 := ((lim9_digs n).take k).val_nonneg (by omega)
  have h3 := ((lim9_digs n).take k).val_lt (by omega)
  have hl : ((lim9 n).take k).length = k := by simp; omega
  rw [hl] at h1 h3
  rw [lim9_val] at h1
  have h4 : (n : Int) / 1000000000 ^ k = valB 1000000000 ((lim9 n).drop k) ∧ (n : Int) % 1000000000 ^ k = valB 1000000000 ((lim9 n).take k) := by
    refine (Int.ediv_emod_unique (Int.pow_pos (by omega))).2 ⟨?_, h2, h3⟩
    rw [h1]
  rw [← h4.1]
  simp

theorem estimate (r b p : Nat) (hp : 0 < b / p) : r / b ≤ (r / p) / (b / p) := by
  have hp0 : 0 < p := by
    rcases Nat.eq_zero_or_pos p with h | h
    · subst h; simp at hp
    · exact h
  rw [Nat.le_div_iff_mul_le hp, Nat.le_div_iff_mul_le hp0]
  have h1 : b / p * p ≤ b := Nat.div_mul_le_self b p
  have h2 : r / b * b ≤ r := Nat.div_mul_le_self r b
  calc r / b * (b / p) * p = r / b * (b / p * p) := by rw [Nat.mul_assoc]
    _ ≤ r / b * b := Nat.mul_le_mul_left _ h1
    _ ≤ r := h2

/-- The last piece of a magnitude. -/
theorem top_val (n : Nat) (hn : 0 < n) : (lim9 n)[(lim9 n).length - 1]?.getD 0 = ((n / 1000000000 ^ ((lim9 n).length - 1) : Nat) : Int) := by
  have hl : 0 < (lim9 n).length := by
    rcases Nat.eq_zero_or_pos (lim9 n).length with h | h
    · have := (lim_len_zero 1000000000 (by omega) n).1 h; omega
    · exact h
  rw [← drop_val n _ (by omega), drop_getD _ _ (by omega), List.drop_eq_nil_of_le (by omega)]
  simp [valB]

/-- The last two pieces of a magnitude. -/
theorem top_val2 (n : Nat) (hl : 2 ≤ (lim9 n).length) :
    (lim9 n)[(lim9 n).length - 1]?.getD 0 * 1000000000 + (lim9 n)[(lim9 n).length - 2]?.getD 0 = ((n / 1000000000 ^ ((lim9 n).length - 2) : Nat) : Int) := by
  rw [← drop_val n _ (by omega), drop_getD _ ((lim9 n).length - 2) (by omega), show (lim9 n).length - 2 + 1 = (lim9 n).length - 1 by omega, drop_getD _ ((lim9 n).length - 1) (by omega), List.drop_eq_nil_of_le (by omega)]
  simp [valB]
  omega

/-- A rest with one piece more has as many pieces as the divisor, or one more. -/
theorem len_cases (r b : Nat) (h1 : b ≤ r) (h2 : r < b * 1000000000) : (lim9 r).length = (lim9 b).length ∨ (lim9 r).length = (lim9 b).length + 1 := by
  have h3 : (lim9 b).length ≤ (lim9 r).length := lim_len_mono 1000000000 (by omega) b r h1
  have h4 : (lim9 r).length ≤ (lim9 b).length + 1 := by
    refine lim_len_le 1000000000 (by omega) _ _ ?_
    rw [Nat.pow_succ]
    exact Nat.lt_of_lt_of_le h2 (Nat.mul_le_mul_right _ (Nat.le_of_lt (lim_lt_pow 1000000000 (by omega) b)))
  omega

/-- The digit that the program tries is not too small, and a digit. -/
theorem tried (r b p d0 t : Nat) (hd : r / p = d0) (ht : b / p = t) (h0 : 0 < t) (h2 : r < b * 1000000000) : r / b ≤ min (d0 / t) 999999999 ∧ min (d0 / t) 999999999 < 1000000000 := by
  subst hd ht
  have h1 := estimate r b p h0
  have hb : 0 < b := by omega
  have h3 : r / b < 1000000000 := by rw [Nat.div_lt_iff_lt_mul hb]; omega
  omega

/-- What the loop of the division keeps: the pieces from m on are divided. -/
def DInv (Z : List Int) (b m : Nat) (ql : List Int) (r : Nat) : Prop :=
  ql.length = Z.length ∧ Digs 1000000000 ql ∧ (∀ j : Nat, j < m → ql[j]?.getD 0 = 0) ∧ r < b ∧ valB 1000000000 (Z.drop m) = valB 1000000000 (ql.drop m) * b + r

theorem dinv_start (Z : List Int) (b : Nat) (hb : 0 < b) : DInv Z b Z.length (List.replicate Z.length 0) 0 := by
  refine ⟨by simp, Digs.zeros (by omega) _, fun j hj => by simp [hj], hb, ?_⟩
  rw [List.drop_eq_nil_of_le (Nat.le_refl _), List.drop_eq_nil_of_le (by simp)]
  simp [valB]

theorem dinv_next {Z : List Int} {b m r x : Nat} {ql : List Int} (hm : m < Z.length) (hx : Z[m]?.getD 0 = (x : Int)) (hx9 : x < 1000000000) (h : DInv Z b (m + 1) ql r) :
    x + 1000000000 * r < b * 1000000000 ∧ DInv Z b m (ql.set m (((x + 1000000000 * r) / b : Nat) : Int)) ((x + 1000000000 * r) % b) := by
  obtain ⟨h1, h2, h3, h4, h5⟩ := h
  have hlt : x + 1000000000 * r < b * 1000000000 := by omega
  have hb : 0 < b := by omega
  have hq : (x + 1000000000 * r) / b < 1000000000 := by rw [Nat.div_lt_iff_lt_mul hb]; omega
  have hr := Nat.mod_lt (x + 1000000000 * r) hb
  have hdm := Nat.div_add_mod (x + 1000000000 * r) b
  generalize (x + 1000000000 * r) / b = q at *
  generalize (x + 1000000000 * r) % b = rr at *
  refine ⟨hlt, by simpa using h1, h2.set _ (by omega) (by omega), fun j hj => ?_, hr, ?_⟩
  · rw [List.getElem?_set_ne (by omega)]
    exact h3 j (by omega)
  · rw [drop_getD Z m hm, hx]
    have e2 : (ql.set m (q : Int)).drop m = (q : Int) :: ql.drop (m + 1) := by
      rw [drop_getD _ m (by simp; omega), List.drop_set_of_lt (by omega)]
      simp [h1, hm]
    rw [e2]
    simp only [valB, h5]
    have e3 : (b : Int) * q + rr = (x : Int) + 1000000000 * r := by omega
    generalize valB 1000000000 (ql.drop (m + 1)) = t at *
    grind

theorem dinv_skip {Z : List Int} {b m r x : Nat} {ql : List Int} (hm : m < Z.length) (hx : Z[m]?.getD 0 = (x : Int)) (hx9 : x < 1000000000) (h : DInv Z b (m + 1) ql r) (hlt : x + 1000000000 * r < b) :
    DInv Z b m ql (x + 1000000000 * r) := by
  have h1 := (dinv_next hm hx hx9 h).2
  rw [Nat.div_eq_of_lt hlt, Nat.mod_eq_of_lt hlt] at h1
  have h2 : ql.set m ((0 : Nat) : Int) = ql := by
    have h3 := h.2.2.1 m (by omega)
    have h4 : m < ql.length := by rw [h.1]; exact hm
    rw [List.getElem?_eq_getElem h4, Option.getD_some] at h3
    rw [show ((0 : Nat) : Int) = ql[m] by rw [h3]; rfl]
    exact List.set_getElem_self h4
  rwa [h2] at h1

theorem dinv_end {a b r : Nat} {ql : List Int} (h : DInv (lim9 a) b 0 ql r) : valB 1000000000 ql = ((a / b : Nat) : Int) ∧ r = a % b := by
  obtain ⟨h1, h2, h3, h4, h5⟩ := h
  rw [List.drop_zero, List.drop_zero, lim9_val] at h5
  have h6 : (a : Int) / b = valB 1000000000 ql ∧ (a : Int) % b = r := by
    refine (Int.ediv_emod_unique (by omega)).2 ⟨?_, by omega, by omega⟩
    rw [h5, Int.mul_comm, Int.add_comm]
  refine ⟨by rw [← h6.1]; simp, ?_⟩
  have := h6.2
  rw [← Int.natCast_emod] at this
  exact (Int.ofNat.inj this).symm

end Go.Proofs.YtmkeigfckfkifaaDoor
