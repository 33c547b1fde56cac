/- Plain mathematics of the reference: pieces of four digits become a numeral. No program in sight. -/
import Derived.Test.YtmkeigfckfkifaaDoorRefN
import Derived.Test.YtmkeigfckfkifaaDoorDec
namespace Go.Proofs.YtmkeigfckfkifaaDoor

theorem drop_val4 (n k : Nat) (hk : k ≤ (lim4 n).length) : valB 10000 ((lim4 n).drop k) = ((n / 10000 ^ k : Nat) : Int) := by
  have h1 := valB_split 10000 (lim4 n) k
  have h2 := ((lim4_digs n).take k).val_nonneg (by omega)
  have h3 := ((lim4_digs n).take k).val_lt (by omega)
  have hl : ((lim4 n).take k).length = k := by simp; omega
  rw [hl] at h1 h3
  rw [lim4_val] at h1
  have h4 : (n : Int) / 10000 ^ k = valB 10000 ((lim4 n).drop k) ∧ (n : Int) % 10000 ^ k = valB 10000 ((lim4 n).take k) := by
    refine (Int.ediv_emod_unique (Int.pow_pos (by omega))).2 ⟨?_, h2, h3⟩
    rw [h1]
  rw [← h4.1]
  simp

theorem piece_val4 (n k : Nat) (hk : k < (lim4 n).length) : ((n / 10000 ^ k : Nat) : Int) = (lim4 n)[k]?.getD 0 + 10000 * ((n / 10000 ^ (k + 1) : Nat) : Int) := by
  rw [← drop_val4 n k (by omega), ← drop_val4 n (k + 1) (by omega), drop_getD _ _ hk]
  rfl

theorem div_past4 (n : Nat) : n / 10000 ^ (lim4 n).length = 0 := Nat.div_eq_of_lt (lim_lt_pow 10000 (by omega) n)

theorem top_pos4 (n k : Nat) (hn : 0 < n) (hk : k < (lim4 n).length) : 0 < n / 10000 ^ k := by
  have h := lim_ge_pow 10000 (by omega) n hn
  have h1 : 10000 ^ k ≤ 10000 ^ ((lim 10000 n).length - 1) := Nat.pow_le_pow_right (by omega) (by have : (lim4 n).length = (lim 10000 n).length := rfl; omega)
  exact Nat.div_pos (by omega) (Nat.pow_pos (by omega))

theorem four (d : Nat) (h : d < 10000) : ∃ l, Lib.decDigits (10000 + d) = 49 :: l ∧ l.length = 4 ∧ AllDig l ∧ dval l = d := by
  obtain ⟨c, l, e, _, _⟩ := (decDigits_facts (10000 + d)).2.2
  have h1 := decDigits_len_le 5 (10000 + d) (by omega) (by omega)
  have h2 := decDigits_len_ge 4 (10000 + d) (by omega)
  have h3 := decDigits_all (10000 + d)
  have h4 := decDigits_val (10000 + d)
  rw [e] at h1 h2 h3 h4
  simp only [List.length_cons] at h1 h2
  have hl : l.length = 4 := by omega
  have h5 := dval_lt h3.tail
  rw [hl] at h5
  rw [dval_cons, hl] at h4
  have h6 := h3.head
  have hc : c.toNat = 49 := by omega
  have hc2 : c = 49 := UInt8.toNat_inj.1 hc
  refine ⟨l, by rw [e, hc2], hl, h3.tail, by omega⟩

theorem dec_step (q d : Nat) (hq : 0 < q) (hd : d < 10000) : Lib.decDigits (d + 10000 * q) = Lib.decDigits q ++ (Lib.decDigits (10000 + d)).drop 1 := by
  obtain ⟨l, e, hl, ha, hv⟩ := four d hd
  obtain ⟨c, m, e2, hc, _⟩ := (decDigits_facts q).2.2
  rw [e, List.drop_one, List.tail_cons]
  have h1 : AllDig (Lib.decDigits q ++ l) := (decDigits_all q).append ha
  have h2 : dval (Lib.decDigits q ++ l) = d + 10000 * q := by
    rw [dval_append, decDigits_val, hl, hv]; omega
  rw [e2] at h1 h2 ⊢
  rw [List.cons_append] at h1 h2 ⊢
  rw [eq_dec h1 (hc hq), h2]

end Go.Proofs.YtmkeigfckfkifaaDoor
