/- SlipSolves returns true, with the chapter's examples. -/
import Derived.Test.YtopilnlniidejaaGreatDoorGSlipZ
import Derived.Test.YtopilnlniidejaaGreatDoorSlipU
namespace Go.Proofs.YtopilnlniidejaaGreatDoor
set_option linter.all false
open Go.RowKit

/-- Whatever the three planes and the two numbers. -/
theorem solves_walk (A C D : T3) (A0 C0 D0 M1 M2 : ByteArray) (w : World) (he : Env w) (kn : ∀ W, Env W → Calls Tryz.prog 11 #[] W fun e w' => e = .returned (.bool true) ∧ Below W.heap.size W w') :
    Calls Tryz.prog 3 #[.agg #[.string A.x, .string A.y, .string A.z, .string A0, .string C.x, .string C.y, .string C.z, .string C0, .string D.x, .string D.y, .string D.z, .string D0], .agg #[.string M1, .string M2]] w fun e w' => e = .returned (.bool true) ∧ Below w.heap.size w w' := by
  have knw := fun W (hW : Below w.heap.size w W) => kn W (he.below hW)
  have hbr := fun W b (hb : Blk W b #[.string A.x, .string A.y, .string A.z, .string C.x, .string C.y, .string C.z, .string D.x, .string D.y, .string D.z] 24) (_ : Below w.heap.size w W) => lbrief_any [A, C, D] (by simp) W b hb
  cases hl : ([A, C, D].all fun v => !v.long) with
  | false =>
    rw [hl] at hbr
    exact solves_long1 _ _ _ _ _ _ _ _ _ _ _ _ _ _ w knw hbr
  | true =>
  rw [hl] at hbr
  cases hm : decide ((8 : Int) < (if (if (if (if A0.size < C0.size then (C0.size : Int) else (A0.size : Int)) < (D0.size : Int) then (D0.size : Int) else (if A0.size < C0.size then (C0.size : Int) else (A0.size : Int))) < (M1.size : Int) then (M1.size : Int) else (if (if A0.size < C0.size then (C0.size : Int) else (A0.size : Int)) < (D0.size : Int) then (D0.size : Int) else (if A0.size < C0.size then (C0.size : Int) else (A0.size : Int)))) < (M2.size : Int) then (M2.size : Int) else (if (if (if A0.size < C0.size then (C0.size : Int) else (A0.size : Int)) < (D0.size : Int) then (D0.size : Int) else (if A0.size < C0.size then (C0.size : Int) else (A0.size : Int))) < (M1.size : Int) then (M1.size : Int) else (if (if A0.size < C0.size then (C0.size : Int) else (A0.size : Int)) < (D0.size : Int) then (D0.size : Int) else (if A0.size < C0.size then (C0.size : Int) else (A0.size : Int)))))) with
  | true => exact solves_long2 _ _ _ _ _ _ _ _ _ _ _ _ _ _ w hm knw hbr
  | false =>
  obtain ⟨h0, h1, h2, h3, h4⟩ := five_short hm
  simp only [List.all_cons, List.all_nil, Bool.and_true, Bool.and_eq_true, Bool.not_eq_true'] at hl
  obtain ⟨la, lc, ld⟩ := hl
  have sa := smallT_of la
  have sc := smallT_of lc
  have sd := smallT_of ld
  have hnu := fun W b c (hb : Blk W b #[.string A.x, .string A.y, .string A.z, .string C.x, .string C.y, .string C.z, .string D.x, .string D.y, .string D.z] 24) (hc : Blk W c #[.string A0, .string C0, .string D0, .string M1, .string M2] 22) (hW : Below w.heap.size w W) =>
    lnumbers_any [A, C, D] [A0, C0, D0, M1, M2] (fun v hv => by simp at hv; rcases hv with rfl | rfl | rfl; exact sa; exact sc; exact sd) (fun t ht => by simp at ht; rcases ht with rfl | rfl | rfl | rfl | rfl <;> omega) (by simp) (by simp) W b c hb hc (he.below hW)
  cases hq : ([A0, C0, D0, M1, M2].all rightQ && [A, C, D].all T3.right) with
  | false =>
    rw [hq] at hnu
    have hbad : ((A.right && rightQ A0) && ((C.right && rightQ C0) && (rightQ M1 && ((D.right && rightQ D0) && rightQ M2)))) = false := by
      simp only [List.all_cons, List.all_nil, Bool.and_true] at hq
      revert hq
      cases rightQ A0 <;> cases rightQ C0 <;> cases rightQ D0 <;> cases rightQ M1 <;> cases rightQ M2 <;> cases A.right <;> cases C.right <;> cases D.right <;> decide
    exact solves_of _ _ _ _ _ _ _ _ _ _ _ _ _ _ ⟨#[]⟩ ⟨#[]⟩ ⟨#[]⟩ ⟨#[]⟩ ⟨#[]⟩ ⟨#[]⟩ ⟨#[]⟩ ⟨#[]⟩ ⟨#[]⟩ 2 false false false w hm (fun _ _ => rfl) (fun _ h => by cases h) (fun _ h => by cases h) (fun _ h => by cases h) (fun h => by cases h) (fun h => by cases h) (fun h => by cases h) (fun h => by cases h) knw hbr (fun _ W hW => ssolveT_num A C D A0 C0 D0 M1 M2 sa sc sd (by omega) (by omega) (by omega) (by omega) (by omega) hbad W (he.below hW)) (fun h => by cases h) (fun _ => hnu) (fun h => by cases h) (fun h => by cases h.1) (fun h => by cases h.1) (fun h => by cases h.1) (fun h => by cases h.1) (fun h => by cases h) (fun h => by cases h) (fun h => by cases h) (fun h => by cases h) (fun h => by cases h) (fun h => by cases h)
  | true =>
  rw [hq] at hnu
  simp only [List.all_cons, List.all_nil, Bool.and_true, Bool.and_eq_true] at hq
  obtain ⟨⟨q0, q1, q2, q3, q4⟩, ra, rc, rd⟩ := hq
  obtain ⟨a, rfl⟩ := right_t ra
  obtain ⟨c, rfl⟩ := right_t rc
  obtain ⟨d, rfl⟩ := right_t rd
  obtain ⟨qa, rfl⟩ := right_q q0
  obtain ⟨qc, rfl⟩ := right_q q1
  obtain ⟨qd, rfl⟩ := right_q q2
  obtain ⟨m1, rfl⟩ := right_q q3
  obtain ⟨m2, rfl⟩ := right_q q4
  have na := r3_of la
  have nc := r3_of lc
  have nd := r3_of ld
  have haz := fun W b (hb : Blk W b #[.string a.t.x, .string a.t.y, .string a.t.z, .string c.t.x, .string c.t.y, .string c.t.z, .string d.t.x, .string d.t.y, .string d.t.z] 24) (_ : Below w.heap.size w W) => contains_rzero [a.t, c.t, d.t] T3.zero (by simp) W b hb (fun v _ U _ => rzero_any v U)
  have hcx := fun W (hW : Below w.heap.size w W) => rcrossR c d 60 (by omega) (by omega) (nc.sz (by omega) (by omega)) (nd.sz (by omega) (by omega)) W (he.below hW)
  have hdx := fun W (hW : Below w.heap.size w W) => ldotR a (crossR c d) 60 (by omega) (by omega) (na.sz (by omega) (by omega)) ((nc.cross nd).sz (by omega) (by omega)) W (he.below hW)
  cases hz : [a.t, c.t, d.t].any T3.zero with
  | true =>
    rw [hz] at haz
    have hez : errZ [a.t, c.t, d.t] = 17 := by unfold errZ; rw [hz]; rfl
    exact solves_of _ _ _ _ _ _ _ _ _ _ _ _ _ _ ⟨#[]⟩ ⟨#[]⟩ ⟨#[]⟩ ⟨#[]⟩ ⟨#[]⟩ ⟨#[]⟩ ⟨#[]⟩ ⟨#[]⟩ ⟨#[]⟩ 17 false true true w hm (fun _ h => absurd rfl h) (fun _ _ _ => rfl) (fun _ _ h => absurd rfl h) (fun _ _ h => absurd rfl h) (fun h => by cases h) (fun h => by cases h) (fun h => by cases h) (fun h => by cases h) knw hbr (fun _ W hW => ssolveR a c d qa qc qd m1 m2 la lc ld h0 h1 h2 h3 h4 17 false _ hez (fun h => by omega) (fun _ => rfl) (fun h => by omega) (fun h => by omega) W (he.below hW)) (fun h => by cases h) (fun h => absurd rfl h) (fun _ => hnu) (fun _ => haz) (fun h => absurd rfl h.2) (fun h => absurd rfl h.2) (fun h => absurd rfl h.2) (fun h => by cases h) (fun h => by cases h) (fun h => by cases h) (fun h => by cases h) (fun h => by cases h) (fun h => by cases h)
  | false =>
    rw [hz] at haz
    have hez : errZ [a.t, c.t, d.t] = 0 := by unfold errZ; rw [hz]; rfl
    by_cases hD : dotR a (crossR c d) = 0
    · have ht : ((canonR (dotR a (crossR c d))).toList == [48]) = true := by rw [canonR_beq0]; exact decide_eq_true hD
      exact solves_of _ _ _ _ _ _ _ _ _ _ _ _ _ _ _ _ _ _ ⟨#[]⟩ ⟨#[]⟩ ⟨#[]⟩ ⟨#[]⟩ ⟨#[]⟩ 18 false true false w hm (fun _ h => absurd rfl h) (fun _ _ h => by cases h) (fun _ _ _ => rfl) (fun _ _ _ => ht) (fun h => by cases h) (fun h => by cases h) (fun h => by cases h) (fun h => by cases h) knw hbr (fun _ W hW => ssolveR a c d qa qc qd m1 m2 la lc ld h0 h1 h2 h3 h4 0 false _ hez (fun _ => ⟨(fun h => by cases h), fun h => absurd hD h⟩) (fun h => absurd rfl h) (fun _ _ => rfl) (fun _ h => by cases h) W (he.below hW)) (fun h => by cases h) (fun h => absurd rfl h) (fun _ => hnu) (fun h => by cases h.2) (fun _ => haz) (fun _ => hcx) (fun _ => hdx) (fun h => by cases h) (fun h => by cases h) (fun h => by cases h) (fun h => by cases h) (fun h => by cases h) (fun h => by cases h)
    · have ht : ((canonR (dotR a (crossR c d))).toList == [48]) = false := by rw [canonR_beq0]; exact decide_eq_false hD
      obtain ⟨e0, e1, e2⟩ := meet_dot a c d 0 (m1 - qc) (m2 - qd) hD
      have b1 : S2 (m1 - qc) 15 12 := (brief_S2 h3).sub (brief_S2 h1) 14 (by omega) (by omega)
      have b2 : S2 (m2 - qd) 15 12 := (brief_S2 h4).sub (brief_S2 h2) 14 (by omega) (by omega)
      have z0 : S2 0 15 12 := ⟨by show 0 < 10 ^ 15; omega, by show 1 < 10 ^ 12; omega⟩
      obtain ⟨x1, x2, x3⟩ := meet_size na nc nd z0 b1 b2 hD
      obtain ⟨o1, o2⟩ := canonR_ne (meetR a c d 0 (m1 - qc) (m2 - qd)).x
      have so := fun W (hW : Below w.heap.size w W) => ssolveR a c d qa qc qd m1 m2 la lc ld h0 h1 h2 h3 h4 0 true _ hez (fun _ => ⟨fun _ => hD, fun _ => rfl⟩) (fun h => absurd rfl h) (fun _ h => absurd rfl h) (fun _ _ => rfl) W (he.below hW)
      generalize meetR a c d 0 (m1 - qc) (m2 - qd) = v at *
      have v3 : Sz3 v 150 := ⟨x1.sz (by omega) (by omega), x2.sz (by omega) (by omega), x3.sz (by omega) (by omega)⟩
      have hr : v.t.right = true := by
        unfold T3.right
        rw [show rightQ v.t.x = true from right_of_sz v3.1 (by omega) (by omega), show rightQ v.t.y = true from right_of_sz v3.2.1 (by omega) (by omega), show rightQ v.t.z = true from right_of_sz v3.2.2 (by omega) (by omega)]
        rfl
      have hsm : v.t.small := by
        have t1 := v3.1.text (by omega)
        have t2 := v3.2.1.text (by omega)
        have t3 := v3.2.2.text (by omega)
        exact ⟨by show (canonR _).size ≤ _; omega, by show (canonR _).size ≤ _; omega, by show (canonR _).size ≤ _; omega⟩
      have d0 := fun W (hW : Below w.heap.size w W) => ldotR a v 150 (by omega) (by omega) (na.sz (by omega) (by omega)) v3 W (he.below hW)
      have d1 := fun W (hW : Below w.heap.size w W) => ldotR c v 150 (by omega) (by omega) (nc.sz (by omega) (by omega)) v3 W (he.below hW)
      have d2 := fun W (hW : Below w.heap.size w W) => ldotR d v 150 (by omega) (by omega) (nd.sz (by omega) (by omega)) v3 W (he.below hW)
      rw [e0, canonR0] at d0
      rw [e1] at d1
      rw [e2] at d2
      exact solves_of _ _ _ _ _ _ _ _ _ _ _ _ _ _ _ _ _ _ _ _ _ _ _ 0 true true false w hm (fun h => absurd rfl h) (fun h => absurd rfl h) (fun h => absurd rfl h) (fun h => absurd rfl h) (fun _ => ⟨rfl, by decide⟩) (fun _ => ht) (fun _ => o1) (fun _ => o2) knw hbr (fun h => absurd rfl h) (fun _ => so) (fun h => absurd rfl h) (fun _ => hnu) (fun h => by cases h.2) (fun _ => haz) (fun _ => hcx) (fun _ => hdx) (fun _ W hW => by have := rright3_any v.t hsm W (he.below hW); rw [hr] at this; exact this) (fun _ => d0) (fun _ => d1) (fun _ => d2)
        (fun _ W hW => rsubR_any m1 qc 8 (by omega) (by omega) ((brief_S2 h3).sz (by omega) (by omega)) ((brief_S2 h1).sz (by omega) (by omega)) W (he.below hW)) (fun _ W hW => rsubR_any m2 qd 8 (by omega) (by omega) ((brief_S2 h4).sz (by omega) (by omega)) ((brief_S2 h2).sz (by omega) (by omega)) W (he.below hW))

theorem solvesC (A1 A2 A3 A0 C1 C2 C3 C0 D1 D2 D3 D0 M1 M2 : ByteArray) (w : World) (he : Env w) :
    Calls Tryz.prog 3 #[.agg #[.string A1, .string A2, .string A3, .string A0, .string C1, .string C2, .string C3, .string C0, .string D1, .string D2, .string D3, .string D0], .agg #[.string M1, .string M2]] w fun e w' => e = .returned (.bool true) ∧ Below w.heap.size w w' :=
  solves_walk ⟨A1, A2, A3⟩ ⟨C1, C2, C3⟩ ⟨D1, D2, D3⟩ A0 C0 D0 M1 M2 w he (fun W hW => known42 W hW)

end Go.Proofs.YtopilnlniidejaaGreatDoor
