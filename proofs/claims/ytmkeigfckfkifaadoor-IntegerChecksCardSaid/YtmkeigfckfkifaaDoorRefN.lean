/- Plain mathematics of the reference of layer 1: pieces of four digits, pieces beyond their range. No program in sight. -/
import Derived.Test.YtmkeigfckfkifaaDoorNum
namespace Go.Proofs.YtmkeigfckfkifaaDoor

/-- The pieces of four digits of a number. -/
def lim4 (n : Nat) : List Int := lim 10000 n

theorem lim4_val (n : Nat) : valB 10000 (lim4 n) = n := lim_val 10000 (by omega) n
theorem lim4_digs (n : Nat) : Digs 10000 (lim4 n) := lim_digs 10000 (by omega) n
theorem trim_eq4 (l : List Int) (n : Nat) (hd : Digs 10000 l) (hv : valB 10000 l = n) : trimL l = lim4 n := trim_eq_lim 10000 (by omega) l n hd hv
theorem at4 (n j : Nat) : 0 ≤ (lim4 n)[j]?.getD 0 ∧ (lim4 n)[j]?.getD 0 < 10000 := (lim4_digs n).at_ (by omega) j
theorem lim4_trim (n : Nat) : trimL (lim4 n) = lim4 n := lim_trim 10000 (by omega) n
theorem lim4_len_zero (n : Nat) : (lim4 n).length = 0 ↔ n = 0 := lim_len_zero 10000 (by omega) n
theorem lim4_len_mono (m n : Nat) (h : m ≤ n) : (lim4 m).length ≤ (lim4 n).length := lim_len_mono 10000 (by omega) m n h

theorem Sl.to4 {w : World} {A : Option Addr} {c m : Nat} {l : List Int} (h : Sl w .i64 A c l) (hd : Digs 10000 l) (hv : valB 10000 l = m) : Sl w .i64 A c (lim4 m) := by
  rw [← trim_eq4 l m hd hv]; exact h.trim

/-- All pieces have a magnitude of at most M. -/
def Mod (M : Int) (l : List Int) : Prop := ∀ x ∈ l, -M ≤ x ∧ x ≤ M

theorem Mod.at_ {M : Int} {l : List Int} (h : Mod M l) (hM : 0 ≤ M) (n : Nat) : -M ≤ l[n]?.getD 0 ∧ l[n]?.getD 0 ≤ M := by
  cases e : l[n]? with
  | none => simp; omega
  | some x => simpa using h x (List.mem_of_getElem? e)
theorem Mod.nil {M : Int} : Mod M [] := fun _ h => by simp at h
theorem Mod.of_digs {l : List Int} (h : Digs 10000 l) : Mod 10000 l := fun x hx => by have := h x hx; omega
theorem Mod.mono {M N : Int} {l : List Int} (h : Mod M l) (hMN : M ≤ N) : Mod N l := fun x hx => by have := h x hx; omega
theorem Mod.set {M x : Int} {l : List Int} (h : Mod M l) (n : Nat) (h0 : -M ≤ x) (h1 : x ≤ M) : Mod M (l.set n x) := by
  intro y hy
  rcases List.mem_or_eq_of_mem_set hy with hy | rfl
  · exact h y hy
  · exact ⟨h0, h1⟩
theorem Mod.append {M : Int} {l m : List Int} (h : Mod M l) (k : Mod M m) : Mod M (l ++ m) := by
  intro y hy
  rcases List.mem_append.1 hy with hy | hy
  · exact h y hy
  · exact k y hy

/-- What the loop of 'carry' keeps: i places are in their range, 'over' goes on. -/
def CarR (p : List Int) (i : Nat) (over : Int) (out : List Int) : Prop :=
  Digs 10000 out ∧ out.length = i ∧ valB 10000 out + 10000 ^ i * over = valB 10000 (p.take i)

theorem carR_start (p : List Int) : CarR p 0 0 [] := ⟨Digs.nil, rfl, by simp [valB]⟩

theorem carR_in {p out : List Int} {i : Nat} {over x : Int} (h : CarR p i over out) (hi : i < p.length) (hx : x = over + p[i]?.getD 0) :
    CarR p (i + 1) (x / 10000) (out ++ [x % 10000]) := by
  obtain ⟨hd, hl, hv⟩ := h
  refine ⟨hd.snoc (by omega) (by omega), by simp [hl], ?_⟩
  have ht : valB 10000 (p.take (i + 1)) = valB 10000 (p.take i) + 10000 ^ i * p[i]?.getD 0 := by
    rw [take_succ_getD p i hi, valB_snoc]; simp [Nat.min_eq_left (Nat.le_of_lt hi)]
  rw [valB_snoc, ht, ← hv, hl]
  have e1 := Int.emod_add_mul_ediv x 10000
  generalize p[i]?.getD 0 = y at *
  generalize x % 10000 = r at *
  generalize x / 10000 = q at *
  have h2 : (10000 : Int) ^ (i + 1) = 10000 ^ i * 10000 := by grind
  rw [h2]
  generalize (10000 : Int) ^ i = s at *
  grind

theorem carR_past {p out : List Int} {i : Nat} {over : Int} (h : CarR p i over out) (hi : p.length ≤ i) :
    CarR p (i + 1) (over / 10000) (out ++ [over % 10000]) := by
  obtain ⟨hd, hl, hv⟩ := h
  refine ⟨hd.snoc (by omega) (by omega), by simp [hl], ?_⟩
  rw [List.take_of_length_le (by omega)] at hv ⊢
  rw [valB_snoc, ← hv, hl]
  have e1 := Int.emod_add_mul_ediv over 10000
  generalize over % 10000 = r at *
  generalize over / 10000 = q at *
  have h2 : (10000 : Int) ^ (i + 1) = 10000 ^ i * 10000 := by grind
  rw [h2]
  generalize (10000 : Int) ^ i = s at *
  grind

/-- Past the pieces the carry is not negative. -/
theorem carR_nonneg {p out : List Int} {i n : Nat} {over : Int} (h : CarR p i over out) (hi : p.length ≤ i) (hv : valB 10000 p = n) : 0 ≤ over := by
  obtain ⟨hd, hl, he⟩ := h
  rw [List.take_of_length_le (by omega), hv] at he
  have h1 := hd.val_lt (by omega)
  rw [hl] at h1
  rcases Int.lt_or_le over 0 with h2 | h2
  · exfalso
    have h3 : (10000 : Int) ^ i * over ≤ 10000 ^ i * (-1) := Int.mul_le_mul_of_nonneg_left (by omega) (Int.le_of_lt (Int.pow_pos (by omega)))
    omega
  · exact h2

theorem carR_end {p out : List Int} {i n : Nat} (h : CarR p i 0 out) (hi : p.length ≤ i) (hv : valB 10000 p = n) : Digs 10000 out ∧ valB 10000 out = (n : Int) := by
  obtain ⟨hd, hl, he⟩ := h
  rw [List.take_of_length_le (by omega), hv] at he
  exact ⟨hd, by simpa using he⟩

/-- The value of pieces of a magnitude of at most 10^15. -/
theorem mod_val : ∀ p : List Int, Mod 1000000000000000 p → valB 10000 p + 200000000000 ≤ 10000 ^ (p.length + 4) := by
  intro p
  induction p with
  | nil => intro _; simp [valB]
  | cons x p ih =>
    intro h
    have h1 := ih (fun y hy => h y (List.mem_cons_of_mem _ hy))
    have h2 := (h x (List.mem_cons_self ..)).2
    simp only [valB, List.length_cons]
    have h3 : (10000 : Int) ^ (p.length + 1 + 4) = 10000 * 10000 ^ (p.length + 4) := by grind
    rw [h3]
    generalize (10000 : Int) ^ (p.length + 4) = s at *
    omega

/-- The carry goes on over at most four places more. -/
theorem carR_room {p out : List Int} {i n : Nat} {over : Int} (hm : Mod 1000000000000000 p) (h : CarR p i over out) (hi : p.length ≤ i) (hv : valB 10000 p = n) (ho : over ≠ 0) : 0 < over ∧ i < p.length + 4 := by
  have h0 := carR_nonneg h hi hv
  have h1 : 0 < over := by omega
  refine ⟨h1, ?_⟩
  obtain ⟨hd, hl, he⟩ := h
  rw [List.take_of_length_le (by omega)] at he
  have h2 := mod_val p hm
  have h3 := hd.val_nonneg (by omega)
  rcases Nat.lt_or_ge i (p.length + 4) with h4 | h4
  · exact h4
  · exfalso
    obtain ⟨d, rfl⟩ : ∃ d, i = p.length + 4 + d := ⟨i - (p.length + 4), by omega⟩
    rw [Int.pow_add] at he
    have h5 : (0 : Int) < 10000 ^ d := Int.pow_pos (by omega)
    have h6 : (0 : Int) < 10000 ^ (p.length + 4) := Int.pow_pos (by omega)
    generalize (10000 : Int) ^ (p.length + 4) = s at *
    generalize (10000 : Int) ^ d = t at *
    have h7 : s * 1 ≤ s * (t * over) := Int.mul_le_mul_of_nonneg_left (by have := Int.mul_pos h5 h1; omega) (Int.le_of_lt h6)
    rw [Int.mul_assoc] at he
    omega

/-- Go's remainder and quotient below zero. -/
theorem tmod_neg {x : Int} (hx : x < 0) : -10000 < x.tmod 10000 ∧ x.tmod 10000 ≤ 0 ∧ (x.tmod 10000 = 0 → x % 10000 = 0) ∧ (x.tmod 10000 ≠ 0 → x % 10000 = x.tmod 10000 + 10000) := by
  have h1 : x.tmod 10000 = -((-x) % 10000) := by
    rw [← Int.tmod_eq_emod_of_nonneg (by omega), Int.neg_tmod, Int.neg_neg]
  rw [h1]
  omega

theorem tdiv_exact (q : Int) : (10000 * q).tdiv 10000 = q := Int.mul_tdiv_cancel_left q (by omega)

/-- The value of a list that is, place by place, a sum. -/
theorem valB_lin (B k : Int) : ∀ (l p q : List Int), p.length ≤ l.length → q.length ≤ l.length → (∀ j : Nat, l[j]?.getD 0 = p[j]?.getD 0 + k * q[j]?.getD 0) → valB B l = valB B p + k * valB B q := by
  intro l
  induction l with
  | nil =>
    intro p q hp hq _
    obtain rfl : p = [] := List.length_eq_zero_iff.1 (by simpa using hp)
    obtain rfl : q = [] := List.length_eq_zero_iff.1 (by simpa using hq)
    simp [valB]
  | cons x l ih =>
    intro p q hp hq h
    have h0 := h 0
    have hs := ih (p.drop 1) (q.drop 1) (by simp at hp ⊢; omega) (by simp at hq ⊢; omega) (fun j => by
      have := h (j + 1)
      simp only [List.getElem?_cons_succ] at this
      rw [this, List.getElem?_drop, List.getElem?_drop, Nat.add_comm 1 j])
    have hp1 : valB B p = p[0]?.getD 0 + B * valB B (p.drop 1) := by cases p <;> simp [valB]
    have hq1 : valB B q = q[0]?.getD 0 + B * valB B (q.drop 1) := by cases q <;> simp [valB]
    simp only [List.getElem?_cons_zero, Option.getD_some] at h0
    simp only [valB, hs, hp1, hq1, h0]
    generalize valB B (p.drop 1) = s at *
    generalize valB B (q.drop 1) = t at *
    grind

end Go.Proofs.YtmkeigfckfkifaaDoor
