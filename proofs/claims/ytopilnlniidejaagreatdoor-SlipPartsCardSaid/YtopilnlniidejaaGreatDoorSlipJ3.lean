/- Kind, Throw, Heave, Parts of the faults that plans describe. -/
import Derived.Test.YtopilnlniidejaaGreatDoorSlipJ1
import Derived.Test.YtopilnlniidejaaGreatDoorSlipJ2
namespace Go.Proofs.YtopilnlniidejaaGreatDoor
set_option linter.all false
open Go.RowKit

theorem parts_sum (n s : V3) (hd : ¬ (n.x = 0 ∧ n.y = 0)) (h : dotR n s = 0) :
  ((strikeV n).scale (dotR s (strikeV n) / dotR (strikeV n) (strikeV n))).add ((crossR n (strikeV n)).scale (dotR s (crossR n (strikeV n)) / dotR (crossR n (strikeV n)) (crossR n (strikeV n)))) = s := by
 have h1 := strike_dot hd
 have h2 := across_dot hd
 have hb : dotR (crossR n (strikeV n)) (crossR n (strikeV n)) = dotR n n * dotR (strikeV n) (strikeV n) := by
  unfold dotR crossR strikeV
  simp only
  grind
 have key : ∀ (a b D E p q x : Rat), D ≠ 0 → E ≠ 0 → a * p * E + b * q * D = x * (D * E) → a * (p / D) + b * (q / E) = x := fun a b D E p q x hD hE hx => by
  have e1 : a * (p / D) + b * (q / E) = (a * p * E + b * q * D) / (D * E) := by
   rw [Rat.div_def, Rat.div_def, Rat.div_def, Rat.inv_mul_rev]
   have i1 : D * D⁻¹ = 1 := Rat.mul_inv_cancel _ hD
   have i2 : E * E⁻¹ = 1 := Rat.mul_inv_cancel _ hE
   grind
  rw [e1, hx, Rat.mul_div_cancel]
  intro e0
  rcases Rat.mul_eq_zero.1 e0 with e0 | e0
  ·exact hD e0
  ·exact hE e0
 have e0 : n.x * s.x + n.y * s.y + n.z * s.z = 0 := h
 unfold V3.add V3.scale
 obtain ⟨sx, sy, sz⟩ := s
 simp only [V3.mk.injEq]
 simp only at e0
 refine ⟨key _ _ _ _ _ _ _ h1 h2 ?_, key _ _ _ _ _ _ _ h1 h2 ?_, key _ _ _ _ _ _ _ h1 h2 ?_⟩
 ·rw [hb]
  unfold dotR crossR strikeV
  simp only
  have : n.x * (n.x * sx + n.y * sy + n.z * sz) = 0 := by rw [e0]; grind
  grind
 ·rw [hb]
  unfold dotR crossR strikeV
  simp only
  have : n.y * (n.x * sx + n.y * sy + n.z * sz) = 0 := by rw [e0]; grind
  grind
 ·rw [hb]
  unfold dotR crossR strikeV
  simp only
  have : n.z * (n.x * sx + n.y * sy + n.z * sz) = 0 := by rw [e0]; grind
  grind

theorem sign_num (q : Rat) : (q.num.sign == 0) = decide (q = 0) := by
 by_cases h : q = 0
 ·subst h
  rfl
 ·rw [decide_eq_false h]
  have : q.num ≠ 0 := fun e => h (Rat.num_eq_zero.1 e)
  rw [beq_eq_false_iff_ne]
  intro e
  exact this (Int.sign_eq_zero_iff_zero.1 e)
theorem sign_three (q : Rat) (h : q ≠ 0) : q.num.sign = 1 ∨ q.num.sign = -1 := by
 have hn : q.num ≠ 0 := fun e => h (Rat.num_eq_zero.1 e)
 rcases Int.lt_trichotomy q.num 0 with h1 | h1 | h1
 ·exact .inr (Int.sign_eq_neg_one_of_neg h1)
 ·exact absurd h1 hn
 ·exact .inl (Int.sign_eq_one_of_pos h1)

section
variable (n s : V3) (q : Rat) (hn : R3 n 60 60) (hs : R3 s 60 60)
include hn hs
theorem lkindR (w : World) (he : Env w) : Calls Tryz.prog 38 #[.agg #[.string n.t.x, .string n.t.y, .string n.t.z, .string (canonR q), .string s.t.x, .string s.t.y, .string s.t.z]] w fun e w' => e = .returned (.int .i64 (kindR n s)) ∧ Below w.heap.size w w' := by
 have s1 := fun W (_ : Below w.heap.size w W) => (rsignR_any n.z W (by have := (hn.xyz.2.2.sz (N := 60) (by omega) (by omega)).text (by omega); omega)).mono (fun e w' (x : _ ∧ W = w') => show e = .returned (.int .i64 n.z.num.sign) ∧ Below W.heap.size W w' from ⟨x.1, by rw [← x.2]; exact Below.refl _ _⟩)
 have s2 := fun W (_ : Below w.heap.size w W) => (rsignR_any s.z W (by have := (hs.xyz.2.2.sz (N := 60) (by omega) (by omega)).text (by omega); omega)).mono (fun e w' (x : _ ∧ W = w') => show e = .returned (.int .i64 s.z.num.sign) ∧ Below W.heap.size W w' from ⟨x.1, by rw [← x.2]; exact Below.refl _ _⟩)
 have hz := fun W (_ : Below w.heap.size w W) => rzero_any s.t W
 have zs := V3.t_zero s
 have b1 : -1 ≤ n.z.num.sign ∧ n.z.num.sign ≤ 1 := by rcases Int.lt_trichotomy n.z.num 0 with h | h | h <;> simp [h, Int.sign_eq_neg_one_of_neg, Int.sign_eq_one_of_pos]
 have b2 : -1 ≤ s.z.num.sign ∧ s.z.num.sign ≤ 1 := by rcases Int.lt_trichotomy s.z.num 0 with h | h | h <;> simp [h, Int.sign_eq_neg_one_of_neg, Int.sign_eq_one_of_pos]
 have b3 : -1 ≤ n.z.num.sign * s.z.num.sign ∧ n.z.num.sign * s.z.num.sign ≤ 1 := by
  have h1 : n.z.num.sign = -1 ∨ n.z.num.sign = 0 ∨ n.z.num.sign = 1 := by omega
  have h2 : s.z.num.sign = -1 ∨ s.z.num.sign = 0 ∨ s.z.num.sign = 1 := by omega
  rcases h1 with h1 | h1 | h1 <;> rcases h2 with h2 | h2 | h2 <;> rw [h1, h2] <;> decide
 have kw := IntWalk.i64_in (n.z.num.sign * s.z.num.sign) (by omega)
 have e1 : ((canonR n.x).toList == [48]) = decide (n.x = 0) := canonR_beq0 _
 have e2 : ((canonR n.y).toList == [48]) = decide (n.y = 0) := canonR_beq0 _
 by_cases h0 : s.x = 0 ∧ s.y = 0 ∧ s.z = 0
 ·rw [zs, decide_eq_true h0] at hz
  have hk : kindR n s = 0 := by unfold kindR; rw [if_pos h0]
  exact lkind_of (ax := decide (n.x = 0)) (ay := decide (n.y = 0)) w rfl rfl rfl (h1 := fun h => by rw [← h]; exact e1) (h2 := fun h => by rw [← h]; exact e1) (h3 := fun _ h => by rw [← h]; exact e2) (h4 := fun _ h => by rw [← h]; exact e2) (r0 := fun _ => by rw [hk]) (kw0 := kw) (h_s1 := s1) (h_s2 := s2) (h_zs := hz)
 ·rw [zs, decide_eq_false h0] at hz
  have tail : ¬ (n.x = 0 ∧ n.y = 0) → ((n.z.num.sign == 0) = true → Value.int .i64 (kindR n s) = .int .i64 4) ∧ ((n.z.num.sign == 0) = false → (s.z.num.sign == 0) = true → Value.int .i64 (kindR n s) = .int .i64 3) ∧
    ((n.z.num.sign == 0) = false → (s.z.num.sign == 0) = false → decide (n.z.num.sign * s.z.num.sign < 0) = true → Value.int .i64 (kindR n s) = .int .i64 1) ∧ ((n.z.num.sign == 0) = false → (s.z.num.sign == 0) = false → decide (n.z.num.sign * s.z.num.sign < 0) = false → Value.int .i64 (kindR n s) = .int .i64 2) := by
   intro h5
   have hk : kindR n s = if n.z = 0 then 4 else if s.z = 0 then 3 else if (decide (s.z.num.sign < 0) == decide (n.z.num.sign > 0)) = true then 1 else 2 := by
    unfold kindR
    rw [if_neg h0, if_neg h5]
   rw [sign_num, sign_num]
   refine ⟨fun h => ?_, fun h h' => ?_, fun h h' hl => ?_, fun h h' hl => ?_⟩
   ·rw [hk, if_pos (of_decide_eq_true h)]
   ·rw [hk, if_neg (of_decide_eq_false h), if_pos (of_decide_eq_true h')]
   ·have a1 := sign_three n.z (of_decide_eq_false h)
    have a2 := sign_three s.z (of_decide_eq_false h')
    rw [hk, if_neg (of_decide_eq_false h), if_neg (of_decide_eq_false h')]
    rcases a1 with a1 | a1 <;> rcases a2 with a2 | a2 <;> rw [a1, a2] at hl ⊢ <;> first | rfl | (exact absurd hl (by decide))
   ·have a1 := sign_three n.z (of_decide_eq_false h)
    have a2 := sign_three s.z (of_decide_eq_false h')
    rw [hk, if_neg (of_decide_eq_false h), if_neg (of_decide_eq_false h')]
    rcases a1 with a1 | a1 <;> rcases a2 with a2 | a2 <;> rw [a1, a2] at hl ⊢ <;> first | rfl | (exact absurd hl (by decide))
  by_cases h5 : n.x = 0 ∧ n.y = 0
  ·have hk : kindR n s = 5 := by unfold kindR; rw [if_neg h0, if_pos h5]
   exact lkind_of (ax := true) (ay := true) w rfl rfl rfl (h1 := fun _ => by rw [← decide_eq_true h5.1]; exact e1) (h3 := fun _ _ => by rw [← decide_eq_true h5.2]; exact e2) (r1 := fun _ _ _ => by rw [hk]) (kw0 := kw) (h_s1 := s1) (h_s2 := s2) (h_zs := hz)
  ·obtain ⟨t1, t2, t3, t4⟩ := tail h5
   by_cases h6 : n.x = 0
   ·have h7 : ¬ n.y = 0 := fun h => h5 ⟨h6, h⟩
    exact lkind_of (ax := true) (ay := false) w rfl rfl rfl (h1 := fun _ => by rw [← decide_eq_true h6]; exact e1) (h4 := fun _ _ => by rw [← decide_eq_false h7]; exact e2) (r2y := fun _ _ _ => t1) (r3y := fun _ _ _ => t2) (r4y := fun _ _ _ => t3) (r5y := fun _ _ _ => t4) (kw0 := kw) (h_s1 := s1) (h_s2 := s2) (h_zs := hz)
   ·exact lkind_of (ax := false) (ay := false) w rfl rfl rfl (h2 := fun _ => by rw [← decide_eq_false h6]; exact e1) (r2x := fun _ _ => t1) (r3x := fun _ _ => t2) (r4x := fun _ _ => t3) (r5x := fun _ _ => t4) (kw0 := kw) (h_s1 := s1) (h_s2 := s2) (h_zs := hz)
end

section
variable {n s : V3} {q : Rat} (h : FaultOk n s q)
include h
theorem FaultOk.chk : chkF n s = 0 := by rw [chkF_form h.nz, if_pos h.dot]
theorem FaultOk.check (w : World) (he : Env w) : Calls Tryz.prog 32 #[.agg #[.string n.t.x, .string n.t.y, .string n.t.z, .string (canonR q), .string s.t.x, .string s.t.y, .string s.t.z]] w fun e w' => e = .returned (.int .i64 0) ∧ Below w.heap.size w w' := by
 have := scheckR n s q (h.hn.sz' 60 60 (by omega) (by omega)) (h.hs.sz' 60 60 (by omega) (by omega)) h.q60 w he
 rw [h.chk] at this
 exact this
theorem FaultOk.throw (w : World) (he : Env w) : Calls Tryz.prog 35 #[.agg #[.string n.t.x, .string n.t.y, .string n.t.z, .string (canonR q), .string s.t.x, .string s.t.y, .string s.t.z]] w fun e w' => e = .returned (.tuple #[.string s.t.z, .int .i64 0]) ∧ Below w.heap.size w w' :=
 sthrow_ok _ _ _ _ _ _ _ w (fun W hW => h.check W (he.below hW))
theorem FaultOk.heave (w : World) (he : Env w) : Calls Tryz.prog 36 #[.agg #[.string n.t.x, .string n.t.y, .string n.t.z, .string (canonR q), .string s.t.x, .string s.t.y, .string s.t.z]] w fun e w' => e = .returned (.tuple #[.string (canonR (s.x * s.x + s.y * s.y)), .int .i64 0]) ∧ Below w.heap.size w w' := by
 obtain ⟨x, y, z⟩ := h.hs.xyz
 have xx := x.mul x
 have yy := y.mul y
 have a := xx.add yy 40 (by omega) (by omega)
 refine sheave_ok _ _ _ _ _ _ _ _ _ _ w (fun W hW => h.check W (he.below hW)) (fun W hW => rmul_any s.x s.x 60 (by omega) (by omega) (x.sz (by omega) (by omega)) (x.sz (by omega) (by omega)) W (he.below hW)) (fun W hW => rmul_any s.y s.y 60 (by omega) (by omega) (y.sz (by omega) (by omega)) (y.sz (by omega) (by omega)) W (he.below hW))
  (fun W hW => radd_any (s.x * s.x) (s.y * s.y) 60 (by omega) (by omega) (xx.sz (by omega) (by omega)) (yy.sz (by omega) (by omega)) W (he.below hW)) (fun W hW => sshort_ok _ W (fun V hV => ?_))
 have := rcheck_any (canonR (s.x * s.x + s.y * s.y)) V ((he.below hW).below hV) (a.brief (by omega) (by omega))
 rw [a.right (by omega : 40 + 1 ≤ 200) (by omega), if_pos rfl] at this
 exact this
theorem FaultOk.flat (hf : n.x = 0 ∧ n.y = 0) (w : World) (he : Env w) : Calls Tryz.prog 33 #[.agg #[.string n.t.x, .string n.t.y, .string n.t.z, .string (canonR q), .string s.t.x, .string s.t.y, .string s.t.z]] w fun e w' => e = .returned (.tuple #[.string ⟨#[]⟩, .string ⟨#[]⟩, .int .i64 18]) ∧ Below w.heap.size w w' := by
 have e1 : (n.t.x.toList == [48]) = true := by show ((canonR n.x).toList == [48]) = true; rw [canonR_beq0]; exact decide_eq_true hf.1
 have e2 : (n.t.y.toList == [48]) = true := by show ((canonR n.y).toList == [48]) = true; rw [canonR_beq0]; exact decide_eq_true hf.2
 have no : ∀ {P : Prop}, ((0 : Int) = 0 ∧ ((n.t.x.toList == [48]) = false ∨ (n.t.y.toList == [48]) = false)) → P := fun {P} h => by
  rcases h.2 with h | h
  ·rw [e1] at h; cases h
  ·rw [e2] at h; cases h
 exact sparts_of _ _ _ _ _ _ _ ⟨#[]⟩ ⟨#[]⟩ ⟨#[]⟩ ⟨#[]⟩ ⟨#[]⟩ ⟨#[]⟩ ⟨#[]⟩ ⟨#[]⟩ ⟨#[]⟩ ⟨#[]⟩ 0 _ w (fun h => absurd rfl h) (fun _ _ _ => rfl) (fun h0 h => no ⟨h0, h⟩) (fun W hW => h.check W (he.below hW)) no no no no no no no no no
end

end Go.Proofs.YtopilnlniidejaaGreatDoor
