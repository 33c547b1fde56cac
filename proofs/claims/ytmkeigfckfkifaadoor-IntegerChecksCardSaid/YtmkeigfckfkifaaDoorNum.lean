/- Plain mathematics of numbers in pieces: lists of digits in a base, the least first. No program in sight. -/
import Derived.Test.YtmkeigfckfkifaaDoorMem
namespace Go.Proofs.YtmkeigfckfkifaaDoor

/-- The value of a list of pieces. -/
def valB (B : Int) : List Int → Int
  | [] => 0
  | x :: l => x + B * valB B l

theorem valB_append (B : Int) (l m : List Int) : valB B (l ++ m) = valB B l + B ^ l.length * valB B m := by
  induction l with
  | nil => simp [valB]
  | cons x l ih =>
    simp only [List.cons_append, valB, ih, List.length_cons]
    grind

theorem valB_snoc (B : Int) (l : List Int) (x : Int) : valB B (l ++ [x]) = valB B l + B ^ l.length * x := by
  rw [valB_append]; simp [valB]

theorem valB_trim (B : Int) (l : List Int) : valB B (trimL l) = valB B l := by
  induction l with
  | nil => rfl
  | cons x l ih =>
    simp only [trimL]
    split
    · rename_i h
      rw [h.1] at ih
      simp [valB, h.2, ← ih]
    · simp [valB, ih]

/-- All pieces are in their range. -/
def Digs (B : Int) (l : List Int) : Prop := ∀ x ∈ l, 0 ≤ x ∧ x < B

theorem Digs.nil {B : Int} : Digs B [] := fun _ h => by simp at h
theorem Digs.cons {B x : Int} {l : List Int} (h0 : 0 ≤ x) (h1 : x < B) (h : Digs B l) : Digs B (x :: l) := by
  intro y hy
  rcases List.mem_cons.1 hy with rfl | hy
  · exact ⟨h0, h1⟩
  · exact h y hy
theorem Digs.append {B : Int} {l m : List Int} (h : Digs B l) (k : Digs B m) : Digs B (l ++ m) := by
  intro y hy
  rcases List.mem_append.1 hy with hy | hy
  · exact h y hy
  · exact k y hy
theorem Digs.snoc {B x : Int} {l : List Int} (h : Digs B l) (h0 : 0 ≤ x) (h1 : x < B) : Digs B (l ++ [x]) := h.append (Digs.nil.cons h0 h1)
theorem Digs.take {B : Int} {l : List Int} (h : Digs B l) (n : Nat) : Digs B (l.take n) := fun x hx => h x (List.mem_of_mem_take hx)
theorem Digs.drop {B : Int} {l : List Int} (h : Digs B l) (n : Nat) : Digs B (l.drop n) := fun x hx => h x (List.mem_of_mem_drop hx)
theorem Digs.at_ {B : Int} {l : List Int} (h : Digs B l) (hB : 0 < B) (n : Nat) : 0 ≤ l[n]?.getD 0 ∧ l[n]?.getD 0 < B := by
  cases e : l[n]? with
  | none => simp [hB]
  | some x => simpa using h x (List.mem_of_getElem? e)
theorem Digs.set {B x : Int} {l : List Int} (h : Digs B l) (n : Nat) (h0 : 0 ≤ x) (h1 : x < B) : Digs B (l.set n x) := by
  intro y hy
  rcases List.mem_or_eq_of_mem_set hy with hy | rfl
  · exact h y hy
  · exact ⟨h0, h1⟩
theorem Digs.zeros {B : Int} (hB : 0 < B) (n : Nat) : Digs B (List.replicate n 0) := by
  intro y hy
  rw [List.eq_of_mem_replicate hy]
  exact ⟨Int.le_refl _, hB⟩

theorem pow_pos_int (B : Int) (hB : 0 < B) (n : Nat) : 0 < B ^ n := Int.pow_pos hB

theorem Digs.val_nonneg {B : Int} (hB : 0 < B) {l : List Int} (h : Digs B l) : 0 ≤ valB B l := by
  induction l with
  | nil => simp [valB]
  | cons x l ih =>
    have h1 := ih (fun y hy => h y (List.mem_cons_of_mem _ hy))
    have h2 := (h x (List.mem_cons_self ..)).1
    have h3 := Int.mul_nonneg (Int.le_of_lt hB) h1
    simp only [valB]; omega

theorem Digs.val_lt {B : Int} (hB : 0 < B) {l : List Int} (h : Digs B l) : valB B l < B ^ l.length := by
  induction l with
  | nil => simp [valB]
  | cons x l ih =>
    have h1 := ih (fun y hy => h y (List.mem_cons_of_mem _ hy))
    have h2 := h x (List.mem_cons_self ..)
    have h3 : B * (valB B l + 1) ≤ B * B ^ l.length := Int.mul_le_mul_of_nonneg_left (by omega) (Int.le_of_lt hB)
    simp only [valB, List.length_cons]
    have h4 : B ^ (l.length + 1) = B * B ^ l.length := by grind
    have h5 : B * (valB B l + 1) = B * valB B l + B := by grind
    omega

theorem valB_zeros (B : Int) (n : Nat) : valB B (List.replicate n 0) = 0 := by
  induction n with
  | zero => rfl
  | succ n ih => simp [List.replicate_succ, valB, ih]

/-- The pieces of a number, without zeros at the end. -/
def limF (B : Nat) : Nat → Nat → List Int
  | 0, _ => []
  | f + 1, n => if n = 0 then [] else ((n % B : Nat) : Int) :: limF B f (n / B)

def lim (B : Nat) (n : Nat) : List Int := limF B n n

theorem limF_more (B : Nat) (hB : 2 ≤ B) : ∀ (f g n : Nat), n ≤ f → n ≤ g → limF B f n = limF B g n := by
  intro f
  induction f with
  | zero => intro g n h _; obtain rfl : n = 0 := by omega
            cases g <;> simp [limF]
  | succ f ih =>
    intro g n h k
    cases g with
    | zero => obtain rfl : n = 0 := by omega
              simp [limF]
    | succ g =>
      simp only [limF]
      split
      · rfl
      · have hd : n / B < n := Nat.div_lt_self (by omega) (by omega)
        rw [ih g (n / B) (by omega) (by omega)]

theorem lim_zero (B : Nat) : lim B 0 = [] := rfl
theorem lim_pos (B : Nat) (hB : 2 ≤ B) (n : Nat) (hn : 0 < n) : lim B n = ((n % B : Nat) : Int) :: lim B (n / B) := by
  obtain ⟨m, rfl⟩ : ∃ m, n = m + 1 := ⟨n - 1, by omega⟩
  have hd : (m + 1) / B < m + 1 := Nat.div_lt_self (by omega) (by omega)
  unfold lim
  rw [limF, if_neg (by omega), limF_more B hB m ((m + 1) / B) ((m + 1) / B) (by omega) (Nat.le_refl _)]

theorem lim_facts (B : Nat) (hB : 2 ≤ B) : ∀ n, valB B (lim B n) = n ∧ Digs B (lim B n) ∧ trimL (lim B n) = lim B n := by
  intro n
  induction n using Nat.strongRecOn with
  | _ n ih =>
    rcases Nat.eq_zero_or_pos n with rfl | hn
    · exact ⟨rfl, Digs.nil, rfl⟩
    · have hd : n / B < n := Nat.div_lt_self hn (by omega)
      obtain ⟨h1, h2, h3⟩ := ih _ hd
      rw [lim_pos B hB n hn]
      have hm := Nat.mod_lt n (show B > 0 by omega)
      refine ⟨?_, h2.cons (by omega) (by omega), ?_⟩
      · simp only [valB, h1]
        have := Nat.mod_add_div n B
        have h4 : ((n % B + B * (n / B) : Nat) : Int) = (n : Int) := by rw [this]
        simpa using h4
      · simp only [trimL, h3]
        rw [if_neg]
        rintro ⟨e, h0⟩
        rcases Nat.eq_zero_or_pos (n / B) with hz | hz
        · have := Nat.mod_add_div n B
          rw [hz] at this
          omega
        · rw [lim_pos B hB _ hz] at e
          simp at e

theorem lim_val (B : Nat) (hB : 2 ≤ B) (n : Nat) : valB B (lim B n) = n := (lim_facts B hB n).1
theorem lim_digs (B : Nat) (hB : 2 ≤ B) (n : Nat) : Digs B (lim B n) := (lim_facts B hB n).2.1
theorem lim_trim (B : Nat) (hB : 2 ≤ B) (n : Nat) : trimL (lim B n) = lim B n := (lim_facts B hB n).2.2

/-- THE KEY: pieces in their range, zeros at the end left out, are the pieces of their value. -/
theorem trim_eq_lim (B : Nat) (hB : 2 ≤ B) : ∀ (l : List Int) (n : Nat), Digs B l → valB B l = n → trimL l = lim B n := by
  intro l
  induction l with
  | nil =>
    intro n _ h
    have : n = 0 := by simp [valB] at h; omega
    subst this
    rfl
  | cons x l ih =>
    intro n hd h
    have hdl : Digs B l := fun y hy => hd y (List.mem_cons_of_mem _ hy)
    have hx := hd x (List.mem_cons_self ..)
    have hnn := hdl.val_nonneg (B := (B : Int)) (by omega)
    obtain ⟨m, hm⟩ := Int.eq_ofNat_of_zero_le hnn
    obtain ⟨y, rfl⟩ := Int.eq_ofNat_of_zero_le hx.1
    have hl := ih m hdl hm
    simp only [valB, hm] at h
    have hn : n = y + B * m := by
      have : ((y + B * m : Nat) : Int) = (n : Int) := by simpa using h
      omega
    have hy : y < B := by omega
    simp only [trimL, hl]
    rcases Nat.eq_zero_or_pos n with h0 | hp
    · have hm0 : m = 0 := by
        rcases Nat.eq_zero_or_pos m with h | h
        · exact h
        · have := Nat.mul_pos (show 0 < B by omega) h
          omega
      subst hm0
      have hy0 : y = 0 := by omega
      subst hy0
      subst h0
      simp [lim_zero]
    · rw [lim_pos B hB n hp, hn, Nat.add_mul_mod_self_left, Nat.mod_eq_of_lt hy, Nat.add_mul_div_left _ _ (by omega), Nat.div_eq_of_lt hy, Nat.zero_add]
      rw [if_neg]
      rintro ⟨e, h0⟩
      have hm0 : m = 0 := by
        rcases Nat.eq_zero_or_pos m with h | h
        · exact h
        · rw [lim_pos B hB m h] at e
          simp at e
      subst hm0
      omega

theorem lim_eq_nil (B : Nat) (hB : 2 ≤ B) (n : Nat) : lim B n = [] ↔ n = 0 := by
  constructor
  · intro h
    rcases Nat.eq_zero_or_pos n with h0 | h0
    · exact h0
    · rw [lim_pos B hB n h0] at h; simp at h
  · rintro rfl; rfl

theorem lim_len_zero (B : Nat) (hB : 2 ≤ B) (n : Nat) : (lim B n).length = 0 ↔ n = 0 := by
  rw [List.length_eq_zero_iff, lim_eq_nil B hB]

theorem lim_len_le (B : Nat) (hB : 2 ≤ B) : ∀ (k n : Nat), n < B ^ k → (lim B n).length ≤ k := by
  intro k
  induction k with
  | zero => intro n h; obtain rfl : n = 0 := by simpa using h
            simp [lim_zero]
  | succ k ih =>
    intro n h
    rcases Nat.eq_zero_or_pos n with rfl | h0
    · simp [lim_zero]
    · rw [lim_pos B hB n h0]
      have : n / B < B ^ k := Nat.div_lt_of_lt_mul (by rw [Nat.mul_comm, ← Nat.pow_succ]; exact h)
      simpa using ih _ this

theorem lim_lt_pow (B : Nat) (hB : 2 ≤ B) (n : Nat) : n < B ^ (lim B n).length := by
  have h := (lim_digs B hB n).val_lt (by omega)
  rw [lim_val B hB] at h
  have h2 : ((B ^ (lim B n).length : Nat) : Int) = (B : Int) ^ (lim B n).length := by simp
  rw [← h2] at h
  omega

theorem lim_last (B : Nat) (hB : 2 ≤ B) (n : Nat) (h : 0 < n) : 0 < (lim B n)[(lim B n).length - 1]?.getD 0 := by
  have hl : 0 < (lim B n).length := by
    rcases Nat.eq_zero_or_pos (lim B n).length with h0 | h0
    · rw [lim_len_zero B hB] at h0; omega
    · exact h0
  have hd := (lim_digs B hB n).at_ (by omega) ((lim B n).length - 1)
  rcases Int.lt_or_lt_of_ne (a := (lim B n)[(lim B n).length - 1]?.getD 0) (b := 0) (by
    intro h0
    have ht := trimL_of_zero (lim B n) ((lim B n).length - 1) (by omega) h0
    rw [show (lim B n).length - 1 + 1 = (lim B n).length from by omega, List.take_length, lim_trim B hB] at ht
    have h1 := congrArg List.length ht
    have h2 := trimL_len ((lim B n).take ((lim B n).length - 1))
    rw [← h1] at h2
    simp at h2
    omega) with h1 | h1
  · omega
  · exact h1

theorem lim_ge_pow (B : Nat) (hB : 2 ≤ B) (n : Nat) (h : 0 < n) : B ^ ((lim B n).length - 1) ≤ n := by
  rcases Nat.lt_or_ge n (B ^ ((lim B n).length - 1)) with h1 | h1
  · have h2 := lim_len_le B hB _ n h1
    have h3 : 0 < (lim B n).length := by
      rcases Nat.eq_zero_or_pos (lim B n).length with h0 | h0
      · rw [lim_len_zero B hB] at h0; omega
      · exact h0
    omega
  · exact h1

theorem lim_len_mono (B : Nat) (hB : 2 ≤ B) (m n : Nat) (h : m ≤ n) : (lim B m).length ≤ (lim B n).length :=
  lim_len_le B hB _ _ (Nat.lt_of_le_of_lt h (lim_lt_pow B hB n))

theorem lim_len_lt (B : Nat) (hB : 2 ≤ B) (m n : Nat) (h : (lim B m).length < (lim B n).length) : m < n := by
  rcases Nat.lt_or_ge m n with h1 | h1
  · exact h1
  · have := lim_len_mono B hB n m h1
    omega

theorem lim_inj (B : Nat) (hB : 2 ≤ B) (m n : Nat) (h : lim B m = lim B n) : m = n := by
  have h1 := lim_val B hB m
  rw [h, lim_val B hB] at h1
  omega

/-- A list as its beginning, one place, and the rest. -/
theorem split_at (l : List Int) (i : Nat) (hi : i < l.length) : l = l.take i ++ l[i]?.getD 0 :: l.drop (i + 1) := by
  rw [List.getElem?_eq_getElem hi, Option.getD_some, ← List.drop_eq_getElem_cons hi, List.take_append_drop]

theorem take_succ_getD (l : List Int) (i : Nat) (hi : i < l.length) : l.take (i + 1) = l.take i ++ [l[i]?.getD 0] := by
  rw [List.getElem?_eq_getElem hi, Option.getD_some, List.take_succ_eq_append_getElem hi]

theorem drop_getD (l : List Int) (i : Nat) (hi : i < l.length) : l.drop i = l[i]?.getD 0 :: l.drop (i + 1) := by
  rw [List.getElem?_eq_getElem hi, Option.getD_some, ← List.drop_eq_getElem_cons hi]

theorem valB_split (B : Int) (l : List Int) (i : Nat) : valB B l = valB B (l.take i) + B ^ (l.take i).length * valB B (l.drop i) := by
  conv => lhs; rw [← List.take_append_drop i l]
  exact valB_append ..

/-- The first place from above at which two lists differ decides. -/
theorem val_lt_of_top (B : Int) (hB : 0 < B) (x y : List Int) (hx : Digs B x) (hy : Digs B y) (hl : x.length = y.length) (i : Nat) (hi : i < x.length)
    (hs : x.drop (i + 1) = y.drop (i + 1)) (hlt : x[i]?.getD 0 < y[i]?.getD 0) : valB B x < valB B y := by
  rw [split_at x i hi, split_at y i (by omega), valB_append, valB_append]
  have h1 := (hx.take i).val_lt hB
  have h2 := (hy.take i).val_nonneg hB
  have e : (x.take i).length = (y.take i).length := by simp [hl]
  rw [← e]
  simp only [valB, hs]
  have hp := pow_pos_int B hB (x.take i).length
  generalize B ^ (x.take i).length = p at *
  generalize valB B (y.drop (i + 1)) = t at *
  have h3 : p * (x[i]?.getD 0 + 1) ≤ p * y[i]?.getD 0 := Int.mul_le_mul_of_nonneg_left (by omega) (by omega)
  have h4 : p * (x[i]?.getD 0 + B * t) = p * x[i]?.getD 0 + p * (B * t) := Int.mul_add ..
  have h5 : p * (y[i]?.getD 0 + B * t) = p * y[i]?.getD 0 + p * (B * t) := Int.mul_add ..
  have h6 : p * (x[i]?.getD 0 + 1) = p * x[i]?.getD 0 + p := by rw [Int.mul_add, Int.mul_one]
  omega

end Go.Proofs.YtmkeigfckfkifaaDoor
