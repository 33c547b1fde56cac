/- Plain mathematics of decimal digits: what a row of digits is worth; the numeral of a number. No program in sight. -/
import Derived.Test.YtmkeigfckfkifaaDoorNum
import Derived.Lib.ItoaMem
import Derived.Lib.ParseIntBTie
import Derived.Lib.AtoiTie
import Derived.Lib.Strings
import Derived.Lib.Bytealg
namespace Go.Proofs.YtmkeigfckfkifaaDoor

/-- What a row of digits is worth. -/
def dval (l : List UInt8) : Nat := l.foldl (fun a c => a * 10 + (c.toNat - 48)) 0

theorem dval_from (l : List UInt8) : ∀ a : Nat, l.foldl (fun a c => a * 10 + (c.toNat - 48)) a = a * 10 ^ l.length + dval l := by
  induction l with
  | nil => intro a; simp [dval]
  | cons c l ih =>
    intro a
    simp only [List.foldl_cons, List.length_cons, dval]
    rw [ih, ih (0 * 10 + (c.toNat - 48)), Nat.pow_succ]
    simp only [Nat.zero_mul, Nat.zero_add, Nat.add_mul]
    rw [Nat.mul_assoc, Nat.mul_comm 10, Nat.add_assoc]

theorem dval_nil : dval [] = 0 := rfl
theorem dval_append (l m : List UInt8) : dval (l ++ m) = dval l * 10 ^ m.length + dval m := by
  unfold dval
  rw [List.foldl_append, dval_from m]
  rfl
theorem dval_snoc (l : List UInt8) (c : UInt8) : dval (l ++ [c]) = dval l * 10 + (c.toNat - 48) := by
  rw [dval_append]; simp [dval]
theorem dval_cons (c : UInt8) (l : List UInt8) : dval (c :: l) = (c.toNat - 48) * 10 ^ l.length + dval l := by
  have := dval_append [c] l
  simpa [dval] using this

/-- All are digits. -/
def AllDig (l : List UInt8) : Prop := ∀ c ∈ l, 48 ≤ c.toNat ∧ c.toNat ≤ 57

theorem AllDig.nil : AllDig [] := fun _ h => by simp at h
theorem AllDig.append {l m : List UInt8} (h : AllDig l) (k : AllDig m) : AllDig (l ++ m) := by
  intro c hc
  rcases List.mem_append.1 hc with hc | hc
  · exact h c hc
  · exact k c hc
theorem AllDig.take {l : List UInt8} (h : AllDig l) (n : Nat) : AllDig (l.take n) := fun c hc => h c (List.mem_of_mem_take hc)
theorem AllDig.drop {l : List UInt8} (h : AllDig l) (n : Nat) : AllDig (l.drop n) := fun c hc => h c (List.mem_of_mem_drop hc)
theorem AllDig.tail {c : UInt8} {l : List UInt8} (h : AllDig (c :: l)) : AllDig l := fun d hd => h d (List.mem_cons_of_mem _ hd)
theorem AllDig.head {c : UInt8} {l : List UInt8} (h : AllDig (c :: l)) : 48 ≤ c.toNat ∧ c.toNat ≤ 57 := h c (List.mem_cons_self ..)
theorem AllDig.one {c : UInt8} (h : 48 ≤ c.toNat ∧ c.toNat ≤ 57) : AllDig [c] := fun d hd => by
  rw [List.mem_singleton.1 hd]; exact h

theorem dval_lt {l : List UInt8} (h : AllDig l) : dval l < 10 ^ l.length := by
  induction l with
  | nil => simp [dval]
  | cons c l ih =>
    have h1 := ih h.tail
    have h2 := h.head
    rw [dval_cons, List.length_cons, Nat.pow_succ]
    have h3 : (c.toNat - 48) * 10 ^ l.length ≤ 9 * 10 ^ l.length := Nat.mul_le_mul_right _ (by omega)
    omega

theorem digit_toNat (d : Nat) (h : d < 10) : (UInt8.ofNat (48 + d)).toNat = 48 + d := by
  rw [UInt8.toNat_ofNat']; omega

theorem decDigits_lt (u : Nat) (h : u < 10) : Lib.decDigits u = [UInt8.ofNat (48 + u)] := by rw [Lib.decDigits, dif_pos h]
theorem decDigits_ge (u : Nat) (h : ¬ u < 10) : Lib.decDigits u = Lib.decDigits (u / 10) ++ [UInt8.ofNat (48 + u % 10)] := by rw [Lib.decDigits, dif_neg h]

/-- The numeral: digits; its worth; it does not begin with 0, but for 0 itself. -/
theorem decDigits_facts : ∀ u : Nat, AllDig (Lib.decDigits u) ∧ dval (Lib.decDigits u) = u ∧ ∃ c l, Lib.decDigits u = c :: l ∧ (0 < u → c.toNat ≠ 48) ∧ (u = 0 → l = []) := by
  intro u
  induction u using Nat.strongRecOn with
  | _ u ih =>
    by_cases h : u < 10
    · rw [decDigits_lt u h]
      have e := digit_toNat u h
      refine ⟨AllDig.one (by omega), by simp [dval]; omega, _, [], rfl, fun h0 => by omega, fun _ => rfl⟩
    · rw [decDigits_ge u h]
      obtain ⟨h1, h2, c, l, h3, h4, h5⟩ := ih (u / 10) (by omega)
      have e := digit_toNat (u % 10) (by omega)
      refine ⟨h1.append (AllDig.one (by omega)), ?_, c, l ++ [UInt8.ofNat (48 + u % 10)], by rw [h3]; rfl, fun _ => h4 (by omega), fun h0 => by omega⟩
      rw [dval_snoc, h2, e]
      omega

theorem decDigits_all (u : Nat) : AllDig (Lib.decDigits u) := (decDigits_facts u).1
theorem decDigits_val (u : Nat) : dval (Lib.decDigits u) = u := (decDigits_facts u).2.1
theorem decDigits_ne (u : Nat) : Lib.decDigits u ≠ [] := by
  obtain ⟨_, _, c, l, h, _⟩ := decDigits_facts u
  rw [h]; simp
theorem decDigits_len_pos (u : Nat) : 0 < (Lib.decDigits u).length := List.length_pos_iff.2 (decDigits_ne u)

/-- A row of digits that does not begin with 0 is the numeral of its worth. -/
theorem eq_decDigits : ∀ (n : Nat) (c : UInt8) (l : List UInt8), l.length = n → AllDig (c :: l) → c.toNat ≠ 48 → 0 < dval (c :: l) ∧ c :: l = Lib.decDigits (dval (c :: l)) := by
  intro n
  induction n with
  | zero =>
    intro c l hl hd hc
    obtain rfl := List.eq_nil_of_length_eq_zero hl
    have h := hd.head
    have e : dval [c] = c.toNat - 48 := by simp [dval]
    refine ⟨by omega, ?_⟩
    rw [e, decDigits_lt _ (by omega)]
    congr 1
    apply UInt8.toNat_inj.1
    rw [digit_toNat _ (by omega)]
    omega
  | succ n ih =>
    intro c l hl hd hc
    obtain ⟨m, d, rfl⟩ : ∃ m d, l = m ++ [d] := ⟨l.dropLast, l.getLast (by intro h; simp [h] at hl), (List.dropLast_concat_getLast _).symm⟩
    have hm : AllDig (c :: m) := fun x hx => hd x (by
      rcases List.mem_cons.1 hx with rfl | hx
      · simp
      · simp [hx])
    have hdd := hd d (by simp)
    obtain ⟨h1, h2⟩ := ih c m (by simpa using hl) hm hc
    have e : dval (c :: (m ++ [d])) = dval (c :: m) * 10 + (d.toNat - 48) := dval_snoc (c :: m) d
    refine ⟨by omega, ?_⟩
    rw [e, decDigits_ge _ (by omega)]
    have e1 : (dval (c :: m) * 10 + (d.toNat - 48)) / 10 = dval (c :: m) := by omega
    have e2 : (dval (c :: m) * 10 + (d.toNat - 48)) % 10 = d.toNat - 48 := by omega
    rw [e1, e2, ← h2]
    have e3 : UInt8.ofNat (48 + (d.toNat - 48)) = d := by
      apply UInt8.toNat_inj.1
      rw [digit_toNat _ (by omega)]
      omega
    rw [e3]
    rfl

theorem eq_dec {c : UInt8} {l : List UInt8} (hd : AllDig (c :: l)) (hc : c.toNat ≠ 48) : c :: l = Lib.decDigits (dval (c :: l)) := (eq_decDigits _ c l rfl hd hc).2

theorem decDigits_inj {a b : Nat} (h : Lib.decDigits a = Lib.decDigits b) : a = b := by
  rw [← decDigits_val a, h, decDigits_val]

theorem decDigits_len_le (k u : Nat) (h : u < 10 ^ k) (hk : 0 < k) : (Lib.decDigits u).length ≤ k := by
  rw [Lib.decDigits_length]
  rcases Nat.lt_or_ge k (Lib.nDigits u) with h1 | h1
  · exfalso
    obtain ⟨_, _, c, l, h3, h4, h5⟩ := decDigits_facts u
    have hl : (Lib.decDigits u).length = Lib.nDigits u := Lib.decDigits_length u
    have hu : 0 < u := by
      rcases Nat.eq_zero_or_pos u with h0 | h0
      · rw [h3, h5 h0] at hl; simp at hl; omega
      · exact h0
    have h6 := decDigits_val u
    rw [h3, dval_cons] at h6
    rw [h3] at hl
    simp only [List.length_cons] at hl
    have h7 := (h3 ▸ decDigits_all u : AllDig (c :: l)).head
    have h8 := h4 hu
    have h9 : 1 * 10 ^ l.length ≤ (c.toNat - 48) * 10 ^ l.length := Nat.mul_le_mul_right _ (by omega)
    have h10 : 10 ^ k ≤ 10 ^ l.length := Nat.pow_le_pow_right (by omega) (by omega)
    omega
  · exact h1

theorem decDigits_len_ge (k u : Nat) (h : 10 ^ k ≤ u) : k < (Lib.decDigits u).length := by
  have h1 := dval_lt (decDigits_all u)
  rw [decDigits_val] at h1
  rcases Nat.lt_or_ge k (Lib.decDigits u).length with h2 | h2
  · exact h2
  · have := Nat.pow_le_pow_right (show 0 < 10 by omega) h2
    omega

theorem decDigits_len_mono {a b : Nat} (h : a ≤ b) : (Lib.decDigits a).length ≤ (Lib.decDigits b).length := by
  have h1 := dval_lt (decDigits_all b)
  rw [decDigits_val] at h1
  exact decDigits_len_le _ a (by omega) (decDigits_len_pos b)

/-- Digits of the same number, compared as strings. -/
theorem compare_digits : ∀ (l m : List UInt8), l.length = m.length → AllDig l → AllDig m → Lib.compareBytes l m = if dval l < dval m then -1 else if dval m < dval l then 1 else 0 := by
  intro l
  induction l with
  | nil => intro m h _ _; obtain rfl := List.eq_nil_of_length_eq_zero h.symm; rfl
  | cons a l ih =>
    intro m h hl hm
    cases m with
    | nil => simp at h
    | cons b m =>
      have hlm : l.length = m.length := by simpa using h
      have h1 := ih m hlm hl.tail hm.tail
      have ha := hl.head
      have hb := hm.head
      have hx := dval_lt hl.tail
      have hy := dval_lt hm.tail
      simp only [Lib.compareBytes, dval_cons]
      rw [hlm] at hx ⊢
      by_cases c1 : a < b
      · rw [if_pos c1]
        have c2 : a.toNat < b.toNat := UInt8.lt_iff_toNat_lt.1 c1
        have c3 : (a.toNat - 48 + 1) * 10 ^ m.length ≤ (b.toNat - 48) * 10 ^ m.length := Nat.mul_le_mul_right _ (by omega)
        rw [Nat.add_mul] at c3
        rw [if_pos (by omega)]
      · rw [if_neg c1]
        by_cases c4 : b < a
        · rw [if_pos c4]
          have c2 : b.toNat < a.toNat := UInt8.lt_iff_toNat_lt.1 c4
          have c3 : (b.toNat - 48 + 1) * 10 ^ m.length ≤ (a.toNat - 48) * 10 ^ m.length := Nat.mul_le_mul_right _ (by omega)
          rw [Nat.add_mul] at c3
          rw [if_neg (by omega), if_pos (by omega)]
        · rw [if_neg c4, h1]
          have e : a = b := by
            apply UInt8.toNat_inj.1
            have c5 : ¬ a.toNat < b.toNat := fun h => c1 (UInt8.lt_iff_toNat_lt.2 h)
            have c6 : ¬ b.toNat < a.toNat := fun h => c4 (UInt8.lt_iff_toNat_lt.2 h)
            omega
          subst e
          simp only [Nat.add_lt_add_iff_left]

/-- The digits as strconv reads them. -/
theorem parse10_digits : ∀ (l : List UInt8) (acc : Nat), AllDig l → acc * 10 ^ l.length + dval l < 18446744073709551616 → Lib.parseUint10 acc l = .ok (acc * 10 ^ l.length + dval l) := by
  intro l
  induction l with
  | nil => intro acc _ _; simp [Lib.parseUint10, dval]
  | cons c l ih =>
    intro acc hd hb
    have h1 := hd.head
    rw [dval_cons, List.length_cons, Nat.pow_succ] at hb
    have hp : 1 ≤ 10 ^ l.length := Nat.one_le_pow _ _ (by omega)
    have e : acc * (10 ^ l.length * 10) + ((c.toNat - 48) * 10 ^ l.length + dval l) = (acc * 10 + (c.toNat - 48)) * 10 ^ l.length + dval l := by
      rw [Nat.add_mul, Nat.mul_comm (10 ^ l.length) 10, ← Nat.mul_assoc, Nat.add_assoc]
    have h2 : (acc * 10 + (c.toNat - 48)) * 1 ≤ (acc * 10 + (c.toNat - 48)) * 10 ^ l.length := Nat.mul_le_mul_left _ hp
    rw [Lib.parseUint10, if_pos h1, if_neg (by omega), if_neg (by omega), ih _ hd.tail (by omega), dval_cons, List.length_cons, Nat.pow_succ, e]

theorem parseMag_digits {l : List UInt8} (hne : l ≠ []) (hd : AllDig l) (hb : dval l < 18446744073709551616) : Lib.parseMag l = .ok (dval l) := by
  unfold Lib.parseMag
  rw [if_neg hne, parse10_digits l 0 hd (by simpa using hb)]
  simp

theorem parseU64_digits {l : List UInt8} (hne : l ≠ []) (hd : AllDig l) (hl : l.length ≤ 19) : Lib.parseUintB 64 l = .ok (dval l) := by
  rw [Lib.parseUintB_64]
  refine parseMag_digits hne hd ?_
  have h1 := dval_lt hd
  have h2 : 10 ^ l.length ≤ 10 ^ 19 := Nat.pow_le_pow_right (by omega) hl
  omega

/-! ### The numeral of an integer -/

theorem itoa_of_nat (u : Nat) : Lib.itoa (u : Int) = Lib.decDigits u := Lib.itoa_nonneg u
theorem itoa_of_neg (u : Nat) (h : 0 < u) : Lib.itoa (-(u : Int)) = 45 :: Lib.decDigits u := Lib.itoa_neg u h

/-- The digits of an integer's magnitude. -/
def mdig (z : Int) : List UInt8 := Lib.decDigits z.natAbs

theorem itoa_cases (z : Int) : (0 ≤ z ∧ Lib.itoa z = mdig z) ∨ (z < 0 ∧ Lib.itoa z = 45 :: mdig z) := by
  unfold Lib.itoa mdig
  by_cases h : z < 0
  · exact .inr ⟨h, by rw [if_pos h]⟩
  · refine .inl ⟨by omega, ?_⟩
    rw [if_neg h]
    congr 1
    omega

theorem mdig_all (z : Int) : AllDig (mdig z) := decDigits_all _
theorem mdig_val (z : Int) : dval (mdig z) = z.natAbs := decDigits_val _

theorem itoa_inj {a b : Int} (h : Lib.itoa a = Lib.itoa b) : a = b := by
  have hdig : ∀ u c l, Lib.decDigits u = c :: l → c ≠ 45 := by
    intro u c l e h45
    have := (e ▸ decDigits_all u : AllDig (c :: l)).head
    subst h45
    simp at this
  rcases itoa_cases a with ⟨ha, e1⟩ | ⟨ha, e1⟩ <;> rcases itoa_cases b with ⟨hb, e2⟩ | ⟨hb, e2⟩
  · rw [e1, e2] at h
    have := decDigits_inj h
    omega
  · rw [e1, e2] at h
    exact absurd rfl (hdig _ _ _ h)
  · rw [e1, e2] at h
    exact absurd rfl (hdig _ _ _ h.symm)
  · rw [e1, e2] at h
    have := decDigits_inj (List.cons.inj h).2
    omega

theorem atoi_itoa (z : Int) (h : z.natAbs < 9223372036854775808) : Lib.atoiAll (Lib.itoa z) = .ok z := by
  rcases itoa_cases z with ⟨hz, e⟩ | ⟨hz, e⟩
  · rw [e]
    obtain ⟨c, l, hcl⟩ : ∃ c l, mdig z = c :: l := by
      obtain ⟨_, _, c, l, h3, _⟩ := decDigits_facts z.natAbs
      exact ⟨c, l, h3⟩
    have hh := (hcl ▸ mdig_all z : AllDig (c :: l)).head
    rw [hcl, Lib.atoiAll_plain c l (by omega) (by omega), ← hcl, parseMag_digits (by rw [hcl]; simp) (mdig_all z) (by rw [mdig_val]; omega), mdig_val]
    simp only [Lib.signless]
    rw [if_neg (by omega)]
    congr 1
    omega
  · rw [e, Lib.atoiAll_minus, parseMag_digits (l := mdig z) (decDigits_ne _) (mdig_all z) (by rw [mdig_val]; omega), mdig_val]
    simp only [Lib.signed]
    rw [if_neg (by omega)]
    congr 1
    omega

theorem itoa_len_small {z : Int} {k : Nat} (h : (Lib.itoa z).length ≤ k) : z.natAbs < 10 ^ k := by
  have h1 := dval_lt (mdig_all z)
  rw [mdig_val] at h1
  have h2 : (mdig z).length ≤ (Lib.itoa z).length := by
    rcases itoa_cases z with ⟨_, e⟩ | ⟨_, e⟩ <;> rw [e] <;> simp
  have h3 : 10 ^ (mdig z).length ≤ 10 ^ k := Nat.pow_le_pow_right (by omega) (by omega)
  omega

/-- '-' is cut off. -/
theorem trim_minus_neg (z : Int) (h : z < 0) : Lib.trimPrefix (Lib.itoa z) [45] = mdig z ∧ Lib.hasPrefix (Lib.itoa z) [45] = true := by
  rcases itoa_cases z with ⟨h1, e⟩ | ⟨h1, e⟩
  · omega
  · rw [e]
    have : Lib.hasPrefix (45 :: mdig z) [45] = true := by simp [Lib.hasPrefix, List.isPrefixOf]
    exact ⟨by unfold Lib.trimPrefix; rw [this]; simp, this⟩

theorem noMinus {l : List UInt8} (h : AllDig l) : Lib.hasPrefix l [45] = false := by
  cases l with
  | nil => rfl
  | cons c l =>
    have hc := h.head
    have : (45 == c) = false := by
      rw [beq_eq_false_iff_ne]
      rintro rfl
      simp at hc
    simp [Lib.hasPrefix, List.isPrefixOf, this]

theorem trim_minus_nn (z : Int) (h : 0 ≤ z) : Lib.trimPrefix (Lib.itoa z) [45] = mdig z ∧ Lib.hasPrefix (Lib.itoa z) [45] = false := by
  rcases itoa_cases z with ⟨h1, e⟩ | ⟨h1, e⟩
  · rw [e]
    have := noMinus (mdig_all z)
    exact ⟨by unfold Lib.trimPrefix; rw [this]; simp, this⟩
  · omega

theorem trim_minus (z : Int) : Lib.trimPrefix (Lib.itoa z) [45] = mdig z ∧ Lib.hasPrefix (Lib.itoa z) [45] = decide (z < 0) := by
  by_cases h : z < 0
  · rw [(trim_minus_neg z h).1, (trim_minus_neg z h).2]; simp [h]
  · rw [(trim_minus_nn z (by omega)).1, (trim_minus_nn z (by omega)).2]; simp [h]

end Go.Proofs.YtmkeigfckfkifaaDoor
