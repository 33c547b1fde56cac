/- Solve, Check, Parts and Kind over rational numbers; the examples of chapter 42. -/
import Derived.Test.YtnallacamijkeaaGreatDoorGSlipR
import Derived.Test.YtnallacamijkeaaGreatDoorSlipG
import Derived.Test.YtnallacamijkeaaGreatDoorGSlipP
import Derived.Test.YtnallacamijkeaaGreatDoorShelf
import Derived.Test.YtnallacamijkeaaGreatDoorGPar
import Derived.Test.YtnallacamijkeaaGreatDoorRfD
import Derived.Test.YtnallacamijkeaaGreatDoorSlipC
import Derived.Test.YtnallacamijkeaaGreatDoorSlipK
import Derived.Test.YtnallacamijkeaaGreatDoorGSlipM
import Derived.Test.YtnallacamijkeaaGreatDoorRatM
import Derived.Deep.RegionHeld3
import Derived.Laws.ResultCell
import Derived.Deep.Cut
import Derived.Deep.CutRange
import Derived.Deep.DeepCutAuto
import Derived.Outline
/- Solve over rational numbers. -/
namespace Go.Proofs.YtnallacamijkeaaGreatDoor
set_option linter.all false
open Go.RowKit

theorem short_of {T : T3} (h : T.long = false) : T.x.size ≤ 8 ∧ T.y.size ≤ 8 ∧ T.z.size ≤ 8 := by
 unfold T3.long at h
 rw [decide_eq_false_iff_not] at h
 omega
theorem smallT_of {T : T3} (h : T.long = false) : T.small := by
 have := short_of h
 exact ⟨by omega, by omega, by omega⟩
theorem r3_of {v : V3} (h : v.t.long = false) : R3 v 20 18 := by
 obtain ⟨h1, h2, h3⟩ := short_of h
 exact R3.of (brief_S2 h1) (brief_S2 h2) (brief_S2 h3)
theorem brief_right {q : Rat} (h : (canonR q).size ≤ 8) : rightQ (canonR q) = true := right_of_sz ((brief_S2 h).sz (N := 8) (by omega) (by omega)) (by omega) (by omega)
theorem brief_right3 {v : V3} (h : v.t.long = false) : v.t.right = true := by
 obtain ⟨h1, h2, h3⟩ := short_of h
 unfold T3.right
 rw [show rightQ v.t.x = true from brief_right h1, show rightQ v.t.y = true from brief_right h2, show rightQ v.t.z = true from brief_right h3]
 rfl
section
variable (a c d : V3) (qa qc qd m1 m2 : Rat) (la : a.t.long = false) (lc : c.t.long = false) (ld : d.t.long = false) (h0 : (canonR qa).size ≤ 8) (h1 : (canonR qc).size ≤ 8) (h2 : (canonR qd).size ≤ 8) (h3 : (canonR m1).size ≤ 8) (h4 : (canonR m2).size ≤ 8)
include la lc ld h0 h1 h2 h3 h4
theorem ssolveR (ez : Int) (ok : Bool) (res : Value) (hez : errZ [a.t, c.t, d.t] = ez) (hok : ez = 0 → (ok = true ↔ dotR a (crossR c d) ≠ 0))
  (r2 : ¬ ez = 0 → res = .tuple #[.agg #[.string ⟨#[]⟩, .string ⟨#[]⟩, .string ⟨#[]⟩], .int .i64 ez]) (r3 : ez = 0 → ¬ ok = true → res = .tuple #[.agg #[.string ⟨#[]⟩, .string ⟨#[]⟩, .string ⟨#[]⟩], .int .i64 18])
  (r4 : ez = 0 → ok = true → res = .tuple #[.agg #[.string (canonR (meetR a c d 0 (m1 - qc) (m2 - qd)).x), .string (canonR (meetR a c d 0 (m1 - qc) (m2 - qd)).y), .string (canonR (meetR a c d 0 (m1 - qc) (m2 - qd)).z)], .int .i64 0]) (w : World) (he : Env w) :
  Calls Tryz.prog 15 #[.agg #[.string a.t.x, .string a.t.y, .string a.t.z, .string (canonR qa)], .agg #[.string c.t.x, .string c.t.y, .string c.t.z, .string (canonR qc), .string (canonR m1)], .agg #[.string d.t.x, .string d.t.y, .string d.t.z, .string (canonR qd), .string (canonR m2)]] w
   fun e w' => e = .returned res ∧ Below w.heap.size w w' := by
 have sa := smallT_of la
 have sc := smallT_of lc
 have sd := smallT_of ld
 have ra := brief_right3 la
 have rc := brief_right3 lc
 have rd := brief_right3 ld
 have q0 := brief_right h0
 have q1 := brief_right h1
 have q2 := brief_right h2
 have q3 := brief_right h3
 have q4 := brief_right h4
 have na := r3_of la
 have nc := r3_of lc
 have nd := r3_of ld
 have b1 : S2 (m1 - qc) 15 12 := (brief_S2 h3).sub (brief_S2 h1) 14 (by omega) (by omega)
 have b2 : S2 (m2 - qd) 15 12 := (brief_S2 h4).sub (brief_S2 h2) 14 (by omega) (by omega)
 have z80 := Sz.zero 80 (by omega)
 have hall : ((a.t.right && rightQ (canonR qa)) && ((c.t.right && rightQ (canonR qc)) && (rightQ (canonR m1) && ((d.t.right && rightQ (canonR qd)) && rightQ (canonR m2))))) = true := by rw [ra, rc, rd, q0, q1, q2, q3, q4]; rfl
 refine ssolve_of _ _ _ _ _ _ _ _ _ _ _ _ _ _ (canonR (m1 - qc)) (canonR (m2 - qd)) (canonR (meetR a c d 0 (m1 - qc) (m2 - qd)).x) (canonR (meetR a c d 0 (m1 - qc) (m2 - qd)).y) (canonR (meetR a c d 0 (m1 - qc) (m2 - qd)).z) _ _ _ _ _ (e2 true) ez ok res w (fun h => absurd rfl h) (fun _ h => r2 h) (fun _ h => r3 h) (fun _ h => r4 h)
  (fun W hW => splaneT W a.t (canonR qa) sa (by omega) (he.below hW)) (fun W hW => splaneT W c.t (canonR qc) sc (by omega) (he.below hW)) (fun W b hb hW => snum1 (canonR m1) (by omega) W b (he.below hW) hb) (fun W hW => splaneT W d.t (canonR qd) sd (by omega) (he.below hW)) (fun W b hb hW => snum1 (canonR m2) (by omega) W b (he.below hW) hb)
  (fun W b hb _ => by have := sfirst5 _ _ _ _ _ W b hb; rw [hall] at this; exact this)
  (fun _ W b hb _ => by have := szeros_any [a.t, c.t, d.t] (by simp) W b hb; rw [hez] at this; exact this)
  (fun _ W hW => rsub_any m1 qc 8 (by omega) (by omega) ((brief_S2 h3).sz (by omega) (by omega)) ((brief_S2 h1).sz (by omega) (by omega)) W (he.below hW))
  (fun _ W hW => rsub_any m2 qd 8 (by omega) (by omega) ((brief_S2 h4).sz (by omega) (by omega)) ((brief_S2 h2).sz (by omega) (by omega)) W (he.below hW))
  (fun h W hW => ?_) (fun h W hW => ?_) (fun h W hW => ?_)
 ·have := smeet_any a c d 0 (m1 - qc) (m2 - qd) na nc nd z80 (b1.sz (by omega) (by omega)) (b2.sz (by omega) (by omega)) ((hok h.2.1).1 h.2.2) W (he.below hW)
  rw [canonR0] at this
  exact this
 ·have := smeet_dep a c d 0 (m1 - qc) (m2 - qd) na nc nd (Classical.byContradiction fun hn => h.2.2 ((hok h.2.1).2 hn)) W (he.below hW)
  rw [canonR0] at this
  exact this
 ·have z0 : S2 0 15 12 := ⟨by show 0 < 10 ^ 15; omega, by show 1 < 10 ^ 12; omega⟩
  obtain ⟨x1, x2, x3⟩ := meet_size na nc nd z0 b1 b2 ((hok h.2.1).1 h.2.2)
  have hr : (meetR a c d 0 (m1 - qc) (m2 - qd)).t.right = true := by
   unfold T3.right
   rw [show rightQ (meetR a c d 0 (m1 - qc) (m2 - qd)).t.x = true from right_of_sz (x1.sz (N := 150) (by omega) (by omega)) (by omega) (by omega), show rightQ (meetR a c d 0 (m1 - qc) (m2 - qd)).t.y = true from right_of_sz (x2.sz (N := 150) (by omega) (by omega)) (by omega) (by omega), show rightQ (meetR a c d 0 (m1 - qc) (m2 - qd)).t.z = true from right_of_sz (x3.sz (N := 150) (by omega) (by omega)) (by omega) (by omega)]
   rfl
  have hsm : (meetR a c d 0 (m1 - qc) (m2 - qd)).t.small := by
   refine ⟨?_, ?_, ?_⟩
   ·have := (x1.sz (N := 150) (by omega) (by omega)).text (by omega); show (canonR _).size ≤ _; omega
   ·have := (x2.sz (N := 150) (by omega) (by omega)).text (by omega); show (canonR _).size ≤ _; omega
   ·have := (x3.sz (N := 150) (by omega) (by omega)).text (by omega); show (canonR _).size ≤ _; omega
  exact sshortv_ok _ _ _ W (fun V b hb hV => by have := svec1 (meetR a c d 0 (m1 - qc) (m2 - qd)).t hsm V b ((he.below hW).below hV) hb; rw [hr] at this; exact this)
end

end Go.Proofs.YtnallacamijkeaaGreatDoor

/- Check, Parts and Kind of slip over rational numbers; the examples of chapter 42. -/
namespace Go.Proofs.YtnallacamijkeaaGreatDoor
set_option linter.all false
open Go.RowKit

theorem sq_nonneg' (x : Rat) : 0 ≤ x * x := by
 rcases Rat.le_total (a := 0) (b := x) with h | h
 ·exact Rat.mul_nonneg h h
 ·have h' : 0 ≤ -x := by grind
  have := Rat.mul_nonneg h' h'
  grind
theorem sq_zero' {x : Rat} (h : x * x = 0) : x = 0 := by
 rcases Rat.mul_eq_zero.1 h with h | h <;> exact h
theorem two_sq {x y : Rat} (h : x * x + y * y = 0) : x = 0 ∧ y = 0 := by
 have h1 := sq_nonneg' x
 have h2 := sq_nonneg' y
 exact ⟨sq_zero' (by grind), sq_zero' (by grind)⟩
def strikeV (n : V3) : V3 := ⟨-n.y, n.x, 0⟩
theorem strike_dot {n : V3} (h : ¬ (n.x = 0 ∧ n.y = 0)) : dotR (strikeV n) (strikeV n) ≠ 0 := fun e => by
 have e' : n.y * n.y + n.x * n.x = 0 := by
  have : -n.y * -n.y + n.x * n.x + 0 * 0 = 0 := e
  grind
 obtain ⟨a, b⟩ := two_sq e'
 exact h ⟨b, a⟩
theorem across_dot {n : V3} (h : ¬ (n.x = 0 ∧ n.y = 0)) : dotR (crossR n (strikeV n)) (crossR n (strikeV n)) ≠ 0 := fun e => by
 have ha := strike_dot h
 have hn : dotR n n ≠ 0 := fun e' => by
  have e2 : n.x * n.x + n.y * n.y + n.z * n.z = 0 := e'
  have h1 := sq_nonneg' n.x
  have h2 := sq_nonneg' n.y
  have h3 := sq_nonneg' n.z
  exact h (two_sq (by grind))
 have hl : dotR (crossR n (strikeV n)) (crossR n (strikeV n)) = dotR n n * dotR (strikeV n) (strikeV n) := by
  unfold dotR crossR strikeV
  simp only
  grind
 rw [hl] at e
 rcases Rat.mul_eq_zero.1 e with e | e
 ·exact hn e
 ·exact ha e
theorem R3.strike {n : V3} {a b : Nat} (h : R3 n a b) : R3 (strikeV n) a b := by
 obtain ⟨m, d, hd, rfl, h1, h2, h3, h4⟩ := h
 refine ⟨⟨-m.y, m.x, 0⟩, d, hd, ?_, by simpa using h2, h1, Nat.pow_pos (by omega), h4⟩
 unfold strikeV ofI
 simp only [V3.mk.injEq]
 exact ⟨by rw [Rat.neg_mkRat], trivial, by rw [Rat.zero_mkRat]⟩
theorem S2.right {q : Rat} {a b : Nat} (h : S2 q a b) (ha : a ≤ 200) (hb : b ≤ 200) : rightQ (canonR q) = true := right_of_sz (h.sz ha hb) (by omega) (by omega)
theorem S2.brief {q : Rat} {a b : Nat} (h : S2 q a b) (ha : a ≤ 200) (hb : b ≤ 200) : (canonR q).size ≤ 1000000 := by
 have := (h.sz ha hb).text (by omega)
 omega
theorem R3.right {v : V3} {a b : Nat} (h : R3 v a b) (ha : a ≤ 200) (hb : b ≤ 200) : v.t.right = true := by
 obtain ⟨x, y, z⟩ := h.xyz
 unfold T3.right
 rw [show rightQ v.t.x = true from x.right ha hb, show rightQ v.t.y = true from y.right ha hb, show rightQ v.t.z = true from z.right ha hb]
 rfl
theorem R3.small {v : V3} {a b : Nat} (h : R3 v a b) (ha : a ≤ 200) (hb : b ≤ 200) : v.t.small := by
 obtain ⟨x, y, z⟩ := h.xyz
 exact ⟨x.brief ha hb, y.brief ha hb, z.brief ha hb⟩

theorem R3.sz' {v : V3} {a b : Nat} (h : R3 v a b) (c d : Nat) (hc : a ≤ c) (hd : b ≤ d) : R3 v c d := by
 obtain ⟨n, e, he, rfl, h1, h2, h3, h4⟩ := h
 exact ⟨n, e, he, rfl, pow_up h1 hc, pow_up h2 hc, pow_up h3 hc, pow_up h4 hd⟩
noncomputable def chkF (n s : V3) : Int := firstE [errZ [n.t], if dotR n s = 0 then 0 else 7]
section
variable (n s : V3) (q : Rat) (hn : R3 n 60 60) (hs : R3 s 60 60) (hq : S2 q 60 60)
include hn hs hq
theorem sformR (w : World) (he : Env w) : Calls Tryz.prog 75 #[.agg #[.string n.t.x, .string n.t.y, .string n.t.z, .string (canonR q), .string s.t.x, .string s.t.y, .string s.t.z]] w fun e w' => e = .returned (.int .i64 (if dotR n s = 0 then 0 else 7)) ∧ Below w.heap.size w w' := by
 have h := fun W (hW : Below w.heap.size w W) => sdotR n s 60 (by omega) (by omega) (hn.sz (by omega) (by omega)) (hs.sz (by omega) (by omega)) W (he.below hW)
 by_cases hd : dotR n s = 0
 ·rw [if_pos hd]
  exact sform_ok _ _ _ _ _ _ _ _ w (by rw [canonR_beq0]; exact decide_eq_true hd) h
 ·rw [if_neg hd]
  exact sform_no _ _ _ _ _ _ _ _ w (by rw [canonR_beq0]; exact decide_eq_false hd) h
theorem scheckR (w : World) (he : Env w) : Calls Tryz.prog 37 #[.agg #[.string n.t.x, .string n.t.y, .string n.t.z, .string (canonR q), .string s.t.x, .string s.t.y, .string s.t.z]] w fun e w' => e = .returned (.int .i64 (chkF n s)) ∧ Below w.heap.size w w' := by
 have rn := hn.right (by omega) (by omega)
 have rs := hs.right (by omega) (by omega)
 have rq := hq.right (by omega) (by omega)
 refine scheck_of _ _ _ _ _ _ _ _ _ _ _ _ w (fun W hW => splaneT W n.t (canonR q) (hn.small (by omega) (by omega)) (hq.brief (by omega) (by omega)) (he.below hW)) (fun W b hb hW => svec1 s.t (hs.small (by omega) (by omega)) W b (he.below hW) hb)
  (fun W b hb _ => by have := sfirst2 _ _ W b hb; rw [rn, rq, rs] at this; exact this) (fun W b hb _ => szeros_any [n.t] (by simp) W b hb) (fun W hW => sformR n s q hn hs hq W (he.below hW))
  (fun W b hb _ => sfirst_any [errZ [n.t], if dotR n s = 0 then 0 else 7] (by simp) W b hb)
end

theorem Sz.sign {q : Rat} {a b : Nat} (h : S2 q a b) (ha : a ≤ 200) (hb : b ≤ 200) (W : World) : Calls Tryz.prog 25 #[.string (canonR q)] W fun e w' => e = .returned (.int .i64 q.num.sign) ∧ Below W.heap.size W w' :=
 (rsign_any q W (by have := (h.sz ha hb).text (by omega); omega)).mono fun e w' x => ⟨x.1, by rw [← x.2]; exact Below.refl _ _⟩
theorem Sz.negB {q : Rat} {a b : Nat} (h : S2 q a b) (ha : a ≤ 200) (hb : b ≤ 200) (W : World) : Calls Tryz.prog 38 #[.string (canonR q)] W fun e w' => e = .returned (.string (canonR (-q))) ∧ Below W.heap.size W w' :=
 rneg_any q W (by have := (h.sz ha hb).text (by omega); omega)

section
variable (n s : V3) (q : Rat) (hn : R3 n 2 1) (hs : R3 s 10 6) (hq : S2 q 60 60) (hc : chkF n s = 0)
include hn hs hq hc
theorem spartsR (hd : ¬ (n.x = 0 ∧ n.y = 0)) (w : World) (he : Env w) :
  Calls Tryz.prog 13 #[.agg #[.string n.t.x, .string n.t.y, .string n.t.z, .string (canonR q), .string s.t.x, .string s.t.y, .string s.t.z]] w fun e w' =>
   e = .returned (.tuple #[.string (canonR (dotR s (strikeV n) / dotR (strikeV n) (strikeV n))), .string (canonR (dotR s (crossR n (strikeV n)) / dotR (crossR n (strikeV n)) (crossR n (strikeV n)))), .int .i64 0]) ∧ Below w.heap.size w w' := by
 have ha := hn.strike
 have hb := hn.cross ha
 have d1 := hs.dot ha
 have d2 := ha.dot ha
 have d3 := hs.dot hb
 have d4 := hb.dot hb
 have n2 := strike_dot hd
 have n4 := across_dot hd
 have r1 := d1.div d2 n2
 have r2 := d3.div d4 n4
 have hck := fun W (hW : Below w.heap.size w W) => scheckR n s q (hn.sz' 60 60 (by omega) (by omega)) (hs.sz' 60 60 (by omega) (by omega)) hq W (he.below hW)
 have hne : (n.t.x.toList == [48]) = false ∨ (n.t.y.toList == [48]) = false := by
  by_cases h1 : n.x = 0
  ·exact .inr (by show ((canonR n.y).toList == [48]) = false; rw [canonR_beq0]; exact decide_eq_false (fun h2 => hd ⟨h1, h2⟩))
  ·exact .inl (by show ((canonR n.x).toList == [48]) = false; rw [canonR_beq0]; exact decide_eq_false h1)
 have ax : canonR (strikeV n).z = ⟨#[48]⟩ := canonR0
 have sN : Sz3 n 60 := hn.sz (by omega) (by omega)
 have sS : Sz3 s 60 := hs.sz (by omega) (by omega)
 have sA : Sz3 (strikeV n) 60 := ha.sz (by omega) (by omega)
 have sB : Sz3 (crossR n (strikeV n)) 60 := hb.sz (by omega) (by omega)
 have c1 := fun W (hW : Below w.heap.size w W) => scrossR n (strikeV n) 60 (by omega) (by omega) sN sA W (he.below hW)
 have c2 := fun W (hW : Below w.heap.size w W) => sdotR s (strikeV n) 60 (by omega) (by omega) sS sA W (he.below hW)
 have c3 := fun W (hW : Below w.heap.size w W) => sdotR (strikeV n) (strikeV n) 60 (by omega) (by omega) sA sA W (he.below hW)
 rw [ax] at c1 c2 c3
 exact sparts_of _ _ _ _ _ _ _ (canonR (-n.y)) _ _ _ _ _ _ _ _ _ (chkF n s) _ w (fun h => absurd hc h) (fun _ h1 h2 => by rcases hne with h | h; rw [h] at h1; cases h1; rw [h] at h2; cases h2) (fun _ _ => rfl) hck
  (fun _ W hW => Sz.negB hn.xyz.2.1 (by omega) (by omega) W) (fun _ => c1) (fun _ => c2) (fun _ => c3)
  (fun _ W hW => rdiv_any _ _ 60 (by omega) (by omega) (d1.sz (by omega) (by omega)) (d2.sz (by omega) (by omega)) n2 W (he.below hW))
  (fun _ W hW => sdotR s (crossR n (strikeV n)) 60 (by omega) (by omega) sS sB W (he.below hW)) (fun _ W hW => sdotR (crossR n (strikeV n)) (crossR n (strikeV n)) 60 (by omega) (by omega) sB sB W (he.below hW))
  (fun _ W hW => rdiv_any _ _ 60 (by omega) (by omega) (d3.sz (by omega) (by omega)) (d4.sz (by omega) (by omega)) n4 W (he.below hW))
  (fun _ W b hb hW => by
   have := snumbers_any [canonR (dotR s (strikeV n) / dotR (strikeV n) (strikeV n)), canonR (dotR s (crossR n (strikeV n)) / dotR (crossR n (strikeV n)) (crossR n (strikeV n)))] (fun t ht => by simp at ht; rcases ht with rfl | rfl; exact r1.brief (by omega) (by omega); exact r2.brief (by omega) (by omega)) (by simp) W b hb (he.below hW)
   rw [show errN [canonR (dotR s (strikeV n) / dotR (strikeV n) (strikeV n)), canonR (dotR s (crossR n (strikeV n)) / dotR (crossR n (strikeV n)) (crossR n (strikeV n)))] = 0 by unfold errN; rw [List.all_cons, List.all_cons, r1.right (by omega) (by omega), r2.right (by omega) (by omega)]; rfl] at this
   exact this)
def kindR (n s : V3) : Int := if s.x = 0 ∧ s.y = 0 ∧ s.z = 0 then 0 else if n.x = 0 ∧ n.y = 0 then 5 else if n.z = 0 then 4 else if s.z = 0 then 3 else if (decide (s.z.num.sign < 0) == decide (n.z.num.sign > 0)) = true then 1 else 2
theorem skindR (w : World) (he : Env w) :
  Calls Tryz.prog 14 #[.agg #[.string n.t.x, .string n.t.y, .string n.t.z, .string (canonR q), .string s.t.x, .string s.t.y, .string s.t.z]] w fun e w' => e = .returned (.tuple #[.int .i64 (kindR n s), .int .i64 0]) ∧ Below w.heap.size w w' := by
 have hck := fun W (hW : Below w.heap.size w W) => scheckR n s q (hn.sz' 60 60 (by omega) (by omega)) (hs.sz' 60 60 (by omega) (by omega)) hq W (he.below hW)
 have bx : (n.t.x.toList == [48]) = decide (n.x = 0) := canonR_beq0 n.x
 have by' : (n.t.y.toList == [48]) = decide (n.y = 0) := canonR_beq0 n.y
 have bz : (n.t.z.toList == [48]) = decide (n.z = 0) := canonR_beq0 n.z
 have bs : (s.t.z.toList == [48]) = decide (s.z = 0) := canonR_beq0 s.z
 have hxy : ((n.t.x.toList == [48]) = false ∨ (n.t.y.toList == [48]) = false) → ¬ (n.x = 0 ∧ n.y = 0) := fun h e => by
  rw [bx, by'] at h
  simp [e.1, e.2] at h
 have hz := s.t_zero
 have hs0 : ∀ b, s.t.zero = b → (b = true ↔ (s.x = 0 ∧ s.y = 0 ∧ s.z = 0)) := fun b hb => by rw [← hb, hz]; simp
 refine skind_of _ _ _ _ _ _ _ (chkF n s) s.z.num.sign n.z.num.sign 0 s.t.zero _ _ _ w rfl rfl (fun h => absurd hc h) (fun _ h => ?_) (fun _ h h1 h2 => ?_) (fun _ h h1 h2 => ?_) (fun _ h h1 h2 h3 => ?_) (fun _ h h1 h2 h3 h4 => ?_) (fun _ h h1 h2 h3 h4 => ?_) hck
  (fun _ W _ => Sz.sign hs.xyz.2.2 (by omega) (by omega) W) (fun h W _ => by have := szero_any s.t W; rw [h.2] at this; exact this) (fun h W _ => by have := szero_any s.t W; rw [Bool.not_eq_true _ |>.mp h.2] at this; exact this) (fun _ W _ => Sz.sign hn.xyz.2.2 (by omega) (by omega) W)
 ·unfold kindR; rw [if_pos ((hs0 _ rfl).1 h)]
 ·unfold kindR
  rw [bx, decide_eq_true_eq] at h1
  rw [by', decide_eq_true_eq] at h2
  rw [if_neg (fun e => h ((hs0 _ rfl).2 e)), if_pos ⟨h1, h2⟩]
 ·unfold kindR
  rw [bz, decide_eq_true_eq] at h2
  rw [if_neg (fun e => h ((hs0 _ rfl).2 e)), if_neg (hxy h1), if_pos h2]
 ·unfold kindR
  rw [bz, decide_eq_false_iff_not] at h2
  rw [bs, decide_eq_true_eq] at h3
  rw [if_neg (fun e => h ((hs0 _ rfl).2 e)), if_neg (hxy h1), if_neg h2, if_pos h3]
 ·unfold kindR
  rw [bz, decide_eq_false_iff_not] at h2
  rw [bs, decide_eq_false_iff_not] at h3
  rw [if_neg (fun e => h ((hs0 _ rfl).2 e)), if_neg (hxy h1), if_neg h2, if_neg h3, if_pos h4]
 ·unfold kindR
  rw [bz, decide_eq_false_iff_not] at h2
  rw [bs, decide_eq_false_iff_not] at h3
  rw [if_neg (fun e => h ((hs0 _ rfl).2 e)), if_neg (hxy h1), if_neg h2, if_neg h3, if_neg (by rw [h4]; decide)]
end

end Go.Proofs.YtnallacamijkeaaGreatDoor

/- The examples of chapter 42. -/
namespace Go.Proofs.YtnallacamijkeaaGreatDoor
set_option linter.all false
open Go.RowKit

theorem tmod8_bd (x : Int) : -8 < x.tmod 8 ∧ x.tmod 8 < 8 := ⟨Int.lt_tmod_of_pos x (by decide), Int.tmod_lt_of_pos x (by decide)⟩
theorem tmod8_id {x : Int} (h : -7 ≤ x ∧ x ≤ 7) : x.tmod 8 = x := by
 have : x = -7 ∨ x = -6 ∨ x = -5 ∨ x = -4 ∨ x = -3 ∨ x = -2 ∨ x = -1 ∨ x = 0 ∨ x = 1 ∨ x = 2 ∨ x = 3 ∨ x = 4 ∨ x = 5 ∨ x = 6 ∨ x = 7 := by omega
 rcases this with rfl | rfl | rfl | rfl | rfl | rfl | rfl | rfl | rfl | rfl | rfl | rfl | rfl | rfl | rfl <;> decide
theorem k_m1s : canonR (-1) = ⟨#[45, 49]⟩ := by
 show canon (-1) = _
 have := canon_negnat 1 (by omega)
 rw [show (-((1 : Nat) : Int)) = -1 from rfl] at this
 rw [this]
 have h1 : canon 1 = ⟨(Lib.decDigits 1).toArray⟩ := canon_nat 1
 rw [k_1] at h1
 have h2 : Lib.decDigits 1 = [49] := by
  have := congrArg (fun b : ByteArray => b.data.toList) h1
  simpa using this.symm
 rw [h2]
theorem place1R (x y z : Int) (hx : -128 ≤ x ∧ x ≤ 127) (hy : -128 ≤ y ∧ y ≤ 127) (hz : -128 ≤ z ∧ z ≤ 127) (w : World) (he : Env w) :
  Calls Tryz.prog 44 #[.agg #[.int .i8 x, .int .i8 y, .int .i8 z], .bool false] w fun e w' => e = .returned (.agg #[.string (canonR (mkRat (x.tmod 8) 1)), .string (canonR (mkRat (y.tmod 8) 1)), .string (canonR (mkRat (z.tmod 8) 1))]) ∧ Below w.heap.size w w' := by
 have one : ∀ x : Int, -128 ≤ x ∧ x ≤ 127 → ∀ W, Below w.heap.size w W → Calls Tryz.prog 6 #[.int .i64 (x.tmod 8), .int .i64 1] W fun e w' => e = .returned (.string (canonR (mkRat (x.tmod 8) 1))) ∧ Below W.heap.size W w' := fun x hx W hW =>
  by
  have := tmod8_bd x
  exact refof_any (x.tmod 8) 1 W (he.below hW).1 (by omega) (by omega) (by omega)
 exact lplace_1 _ _ _ x y z w (IntWalk.i64_in _ (by omega)) (IntWalk.i64_in _ (by omega)) (IntWalk.i64_in _ (by omega)) (one x hx) (one y hy) (one z hz)
theorem spotR (x y z : Int) (hx : -7 ≤ x ∧ x ≤ 7) (hy : -7 ≤ y ∧ y ≤ 7) (hz : -7 ≤ z ∧ z ≤ 7) (w : World) (he : Env w) :
  Calls Tryz.prog 5 #[.int .i64 x, .int .i64 y, .int .i64 z] w fun e w' => e = .returned (.agg #[.string (ofI ⟨x, y, z⟩ 1).t.x, .string (ofI ⟨x, y, z⟩ 1).t.y, .string (ofI ⟨x, y, z⟩ 1).t.z]) ∧ Below w.heap.size w w' := by
 have ex := tmod8_id hx
 have ey := tmod8_id hy
 have ez := tmod8_id hz
 have h := fun W (hW : Below w.heap.size w W) => place1R x y z (by omega) (by omega) (by omega) W (he.below hW)
 rw [ex, ey, ez] at h
 exact lspot_of _ _ _ x y z w (IntWalk.i8_in _ (by omega)) (IntWalk.i8_in _ (by omega)) (IntWalk.i8_in _ (by omega)) (fun W hW => lPlace_of _ _ _ x y z W (fun V hV => h V (hW.trans (hV.mono hW.size))))

theorem spot_R3 (x y z : Int) (hx : -7 ≤ x ∧ x ≤ 7) (hy : -7 ≤ y ∧ y ≤ 7) (hz : -7 ≤ z ∧ z ≤ 7) : R3 (ofI ⟨x, y, z⟩ 1) 1 1 := ⟨⟨x, y, z⟩, 1, by omega, rfl, by show x.natAbs < 10 ^ 1; omega, by show y.natAbs < 10 ^ 1; omega, by show z.natAbs < 10 ^ 1; omega, by show 1 < 10 ^ 1; omega⟩
theorem mk1 (x : Int) : mkRat x 1 = (x : Rat) := by rw [Rat.mkRat_one]
theorem canonR_m1 : canonR (-1) = ⟨#[45, 49]⟩ := k_m1s
theorem size_of_S2 {q : Rat} (h : (canonR q).size ≤ 2) : (canonR q).size ≤ 8 := by omega

theorem v101 : ofI ⟨1, 0, 1⟩ 1 = ⟨1, 0, 1⟩ := by unfold ofI; simp [mk1]
theorem v10m : ofI ⟨1, 0, -1⟩ 1 = ⟨1, 0, -1⟩ := by unfold ofI; simp [mk1]
theorem v001 : ofI ⟨0, 0, 1⟩ 1 = ⟨0, 0, 1⟩ := by unfold ofI; simp [mk1]
theorem v010 : ofI ⟨0, 1, 0⟩ 1 = ⟨0, 1, 0⟩ := by unfold ofI; simp [mk1]
theorem long_of_ints {x y z : Int} (hx : (canonR (mkRat x 1)).size ≤ 8) (hy : (canonR (mkRat y 1)).size ≤ 8) (hz : (canonR (mkRat z 1)).size ≤ 8) : (ofI ⟨x, y, z⟩ 1).t.long = false := by
 unfold T3.long
 rw [decide_eq_false_iff_not]
 show ¬ 8 < max (max (canonR (mkRat x 1)).size (canonR (mkRat y 1)).size) (canonR (mkRat z 1)).size
 omega
theorem sz0 : (canonR (mkRat 0 1)).size ≤ 8 := by rw [mk1, show ((0 : Int) : Rat) = 0 from rfl, canonR0]; decide
theorem sz1 : (canonR (mkRat 1 1)).size ≤ 8 := by rw [mk1, show ((1 : Int) : Rat) = 1 from rfl, canonR1]; decide
theorem szm1 : (canonR (mkRat (-1) 1)).size ≤ 8 := by rw [mk1, show ((-1 : Int) : Rat) = -1 from rfl, canonR_m1]; decide

theorem known42 (w : World) (he : Env w) : Calls Tryz.prog 4 #[] w fun e w' => e = .returned (.bool true) ∧ Below w.heap.size w w' := by
 have A := spot_R3 1 0 1 (by omega) (by omega) (by omega)
 have S := spot_R3 1 0 (-1) (by omega) (by omega) (by omega)
 have q0 : S2 (0 : Rat) 60 60 := ⟨by show 0 < 10 ^ 60; exact Nat.pow_pos (by omega), by show 1 < 10 ^ 60; exact Nat.one_lt_pow (by omega) (by omega)⟩
 have hd : dotR (ofI ⟨1, 0, 1⟩ 1) (ofI ⟨1, 0, -1⟩ 1) = 0 := by
  rw [dot_mk _ _ _ _ (by omega) (by omega)]
  exact Rat.zero_mkRat _
 have nz : (ofI ⟨1, 0, 1⟩ 1).t.zero = false := by
  rw [V3.t_zero, v101]
  exact decide_eq_false (fun h => by have := h.1; exact absurd this (by grind))
 have hc : chkF (ofI ⟨1, 0, 1⟩ 1) (ofI ⟨1, 0, -1⟩ 1) = 0 := by
  unfold chkF
  rw [if_pos hd]
  have hz : errZ [(ofI ⟨1, 0, 1⟩ 1).t] = 0 := by unfold errZ; rw [List.any_cons, nz]; rfl
  rw [hz]
  rfl
 have hA : R3 (ofI ⟨1, 0, 1⟩ 1) 2 1 := A.sz' 2 1 (by omega) (by omega)
 have hS : R3 (ofI ⟨1, 0, -1⟩ 1) 10 6 := S.sz' 10 6 (by omega) (by omega)
 have hne : ¬ ((ofI ⟨1, 0, 1⟩ 1).x = 0 ∧ (ofI ⟨1, 0, 1⟩ 1).y = 0) := fun h => by have := h.1; rw [v101] at this; exact absurd this (by grind)
 have pa := fun W (hW : Below w.heap.size w W) => spartsR (ofI ⟨1, 0, 1⟩ 1) (ofI ⟨1, 0, -1⟩ 1) 0 hA hS q0 hc hne W (he.below hW)
 have ki := fun W (hW : Below w.heap.size w W) => skindR (ofI ⟨1, 0, 1⟩ 1) (ofI ⟨1, 0, -1⟩ 1) 0 hA hS q0 hc W (he.below hW)
 have e1 : dotR (ofI ⟨1, 0, -1⟩ 1) (strikeV (ofI ⟨1, 0, 1⟩ 1)) / dotR (strikeV (ofI ⟨1, 0, 1⟩ 1)) (strikeV (ofI ⟨1, 0, 1⟩ 1)) = 0 := by
  rw [v101, v10m]
  unfold dotR strikeV
  simp only
  grind
 have e2' : dotR (ofI ⟨1, 0, -1⟩ 1) (crossR (ofI ⟨1, 0, 1⟩ 1) (strikeV (ofI ⟨1, 0, 1⟩ 1))) / dotR (crossR (ofI ⟨1, 0, 1⟩ 1) (strikeV (ofI ⟨1, 0, 1⟩ 1))) (crossR (ofI ⟨1, 0, 1⟩ 1) (strikeV (ofI ⟨1, 0, 1⟩ 1))) = -1 := by
  rw [v101, v10m]
  unfold dotR crossR strikeV
  simp only
  grind
 have e3 : kindR (ofI ⟨1, 0, 1⟩ 1) (ofI ⟨1, 0, -1⟩ 1) = 1 := by
  rw [v101, v10m]
  unfold kindR
  rw [if_neg (fun h => absurd h.1 (by grind)), if_neg (fun h => absurd h.1 (by grind)), if_neg (by grind), if_neg (by grind), if_pos (by decide)]
 have hD : dotR (ofI ⟨1, 0, 1⟩ 1) (crossR (ofI ⟨0, 0, 1⟩ 1) (ofI ⟨0, 1, 0⟩ 1)) ≠ 0 := by
  rw [v101, v001, v010]
  unfold dotR crossR
  simp only
  grind
 have e4 : meetR (ofI ⟨1, 0, 1⟩ 1) (ofI ⟨0, 0, 1⟩ 1) (ofI ⟨0, 1, 0⟩ 1) 0 (-1 - 0) (0 - 0) = ofI ⟨1, 0, -1⟩ 1 := by
  rw [v101, v001, v010, v10m]
  unfold meetR crossR dotR V3.scale V3.add
  simp only [V3.mk.injEq]
  refine ⟨?_, ?_, ?_⟩ <;> grind
 have z2 : (ofI ⟨0, 0, 1⟩ 1).t.zero = false := by
  rw [V3.t_zero, v001]
  exact decide_eq_false (fun h => by have := h.2.2; exact absurd this (by grind))
 have z3 : (ofI ⟨0, 1, 0⟩ 1).t.zero = false := by
  rw [V3.t_zero, v010]
  exact decide_eq_false (fun h => by have := h.2.1; exact absurd this (by grind))
 have hez : errZ [(ofI ⟨1, 0, 1⟩ 1).t, (ofI ⟨0, 0, 1⟩ 1).t, (ofI ⟨0, 1, 0⟩ 1).t] = 0 := by unfold errZ; rw [List.any_cons, List.any_cons, List.any_cons, nz, z2, z3]; rfl
 have t0 : (canonR 0).size ≤ 8 := by rw [canonR0]; decide
 have tm : (canonR (-1)).size ≤ 8 := by rw [canonR_m1]; decide
 have so := fun W (hW : Below w.heap.size w W) => ssolveR (ofI ⟨1, 0, 1⟩ 1) (ofI ⟨0, 0, 1⟩ 1) (ofI ⟨0, 1, 0⟩ 1) 0 0 0 (-1) 0 (long_of_ints sz1 sz0 sz1) (long_of_ints sz0 sz0 sz1) (long_of_ints sz0 sz1 sz0) t0 t0 t0 tm t0 0 true _ hez (fun _ => ⟨fun _ => hD, fun _ => rfl⟩) (fun h => absurd rfl h) (fun _ h => absurd rfl h) (fun _ _ => rfl) W (he.below hW)
 rw [e1, e2'] at pa
 rw [e3] at ki
 rw [e4] at so
 simp only [canonR0, canonR_m1] at pa ki so
 exact known42_of _ _ _ _ _ _ _ _ _ _ _ _ w (fun W hW => spotR 1 0 1 (by omega) (by omega) (by omega) W (he.below hW)) (fun W hW => spotR 1 0 (-1) (by omega) (by omega) (by omega) W (he.below hW)) (fun W hW => spotR 0 0 1 (by omega) (by omega) (by omega) W (he.below hW)) (fun W hW => spotR 0 1 0 (by omega) (by omega) (by omega) W (he.below hW)) pa ki so

end Go.Proofs.YtnallacamijkeaaGreatDoor
