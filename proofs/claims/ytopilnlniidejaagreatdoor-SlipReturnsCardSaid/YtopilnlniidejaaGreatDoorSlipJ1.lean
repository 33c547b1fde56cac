/- The faults that plans describe, over rational numbers. -/
import Derived.Test.YtopilnlniidejaaGreatDoorGSlipZ
import Derived.Test.YtopilnlniidejaaGreatDoorSlipQ
import Derived.Test.YtopilnlniidejaaGreatDoorSlipJ4
namespace Go.Proofs.YtopilnlniidejaaGreatDoor
set_option linter.all false
open Go.RowKit

theorem tmod4_bd (x : Int) : -4 < x.tmod 4 ∧ x.tmod 4 < 4 := ⟨Int.lt_tmod_of_pos x (by decide), Int.tmod_lt_of_pos x (by decide)⟩
theorem tmod16_bd (x : Int) : -16 < x.tmod 16 ∧ x.tmod 16 < 16 := ⟨Int.lt_tmod_of_pos x (by decide), Int.tmod_lt_of_pos x (by decide)⟩
set_option maxRecDepth 100000 in
theorem and3_cases (t : Int) (ht : -128 ≤ t ∧ t ≤ 127) : bits BinOp.and IntKind.i8 t 3 = 0 ∨ bits BinOp.and IntKind.i8 t 3 = 1 ∨ bits BinOp.and IntKind.i8 t 3 = 2 ∨ bits BinOp.and IntKind.i8 t 3 = 3 := by
 have h : ∀ k : Fin 256, bits BinOp.and IntKind.i8 ((k.val : Int) - 128) 3 = 0 ∨ bits BinOp.and IntKind.i8 ((k.val : Int) - 128) 3 = 1 ∨ bits BinOp.and IntKind.i8 ((k.val : Int) - 128) 3 = 2 ∨ bits BinOp.and IntKind.i8 ((k.val : Int) - 128) 3 = 3 := by decide
 have e : (((t + 128).toNat : Nat) : Int) - 128 = t := by omega
 have := h ⟨(t + 128).toNat, by omega⟩
 simp only [e] at this
 exact this
theorem one_V3 : (⟨#[49]⟩ : ByteArray) = canonR 1 := canonR1.symm
theorem plane42 (x y z t : Int) (hx : -128 ≤ x ∧ x ≤ 127) (hy : -128 ≤ y ∧ y ≤ 127) (hz : -128 ≤ z ∧ z ≤ 127) (ht : -128 ≤ t ∧ t ≤ 127) :
  ∃ (n : V3) (q : Rat), n.t.zero = false ∧ R3 n 1 1 ∧ S2 q 2 1 ∧ ∀ w, Env w → Calls Tryz.prog 28 #[.agg #[.int .i8 x, .int .i8 y, .int .i8 z, .int .i8 t]] w fun e w' => e = .returned (.agg #[.string n.t.x, .string n.t.y, .string n.t.z, .string (canonR q)]) ∧ Below w.heap.size w w' := by
 have b1 := tmod4_bd x
 have b2 := tmod4_bd y
 have b3 := tmod4_bd z
 have b4 := tmod16_bd t
 have hq : S2 (mkRat (t.tmod 16) 1) 2 1 := by
  rw [mk1]
  exact S2.int _ 2 (by omega)
 have hO : ∀ w, Env w → ∀ W, Below w.heap.size w W → Calls Tryz.prog 44 #[.int .i64 (t.tmod 16), .int .i64 1] W fun e w' => e = .returned (.string (canonR (mkRat (t.tmod 16) 1))) ∧ Below W.heap.size W w' := fun w he W hW => refof_any (t.tmod 16) 1 W (he.below hW).1 (by omega) (by omega) (by omega)
 have hp : ∀ w, Env w → ∀ W, Below w.heap.size w W → Calls Tryz.prog 69 #[.agg #[.int .i8 (x.tmod 4), .int .i8 (y.tmod 4), .int .i8 (z.tmod 4)], .bool false] W fun e w' => e = .returned (.agg #[.string (ofI ⟨x.tmod 4, y.tmod 4, z.tmod 4⟩ 1).t.x, .string (ofI ⟨x.tmod 4, y.tmod 4, z.tmod 4⟩ 1).t.y, .string (ofI ⟨x.tmod 4, y.tmod 4, z.tmod 4⟩ 1).t.z]) ∧ Below W.heap.size W w' := fun w he W hW => by
  have := place1R (x.tmod 4) (y.tmod 4) (z.tmod 4) (by omega) (by omega) (by omega) W (he.below hW)
  rw [tmod8_id (x := x.tmod 4) (by omega), tmod8_id (x := y.tmod 4) (by omega), tmod8_id (x := z.tmod 4) (by omega)] at this
  exact this
 have hn := spot_R3 (x.tmod 4) (y.tmod 4) (z.tmod 4) (by omega) (by omega) (by omega)
 cases hc : (ofI ⟨x.tmod 4, y.tmod 4, z.tmod 4⟩ 1).t.zero with
 | false =>
  refine ⟨_, _, hc, hn, hq, fun w he => ?_⟩
  exact lPlane_n _ _ _ _ x y z t w (IntWalk.i64_in _ (by omega)) (hp w he) (fun W _ => by have := rzero_any (ofI ⟨x.tmod 4, y.tmod 4, z.tmod 4⟩ 1).t W; rw [hc] at this; exact this) (hO w he)
 | true =>
  rw [V3.t_zero, decide_eq_true_iff] at hc
  obtain ⟨c1, c2, c3⟩ := hc
  refine ⟨⟨0, 0, 1⟩, _, ?_, ⟨⟨0, 0, 1⟩, 1, by omega, ?_, by decide, by decide, by decide, by decide⟩, hq, fun w he => ?_⟩
  ·rw [V3.t_zero]
   exact decide_eq_false (fun h => by have := h.2.2; exact absurd this (by grind))
  ·exact v001.symm
  ·have hp' := hp w he
   rw [show (ofI ⟨x.tmod 4, y.tmod 4, z.tmod 4⟩ 1).t.x = canonR 0 by show canonR _ = _; rw [c1], show (ofI ⟨x.tmod 4, y.tmod 4, z.tmod 4⟩ 1).t.y = canonR 0 by show canonR _ = _; rw [c2], show (ofI ⟨x.tmod 4, y.tmod 4, z.tmod 4⟩ 1).t.z = canonR 0 by show canonR _ = _; rw [c3]] at hp'
   have hz0 : (⟨canonR 0, canonR 0, canonR 0⟩ : T3).zero = true := by
    show (V3.t ⟨0, 0, 0⟩).zero = true
    rw [V3.t_zero]
    exact decide_eq_true ⟨rfl, rfl, rfl⟩
   have := lPlane_z (canonR 0) (canonR 0) (canonR 0) (canonR (mkRat (t.tmod 16) 1)) x y z t w (IntWalk.i64_in _ (by omega)) hp' (fun W _ => by have := rzero_any ⟨canonR 0, canonR 0, canonR 0⟩ W; rw [hz0] at this; exact this) (hO w he)
   rw [one_V3] at this
   exact this

theorem dirs42 (n : V3) (hn : R3 n 1 1) : ∃ a b : V3, R3 a 1 1 ∧ R3 b 3 2 ∧ dotR n a = 0 ∧ dotR n b = 0 ∧ (¬ (n.x = 0 ∧ n.y = 0) → a = strikeV n ∧ b = crossR n (strikeV n)) ∧
  ∀ w, Env w → Calls Tryz.prog 40 #[.agg #[.string n.t.x, .string n.t.y, .string n.t.z]] w fun e w' => e = .returned (.tuple #[.agg #[.string a.t.x, .string a.t.y, .string a.t.z], .agg #[.string b.t.x, .string b.t.y, .string b.t.z]]) ∧ Below w.heap.size w w' := by
 have sN : Sz3 n 60 := hn.sz (by omega) (by omega)
 have hg : ∀ w, Env w → ∀ W, Below w.heap.size w W → Calls Tryz.prog 61 #[.string n.t.y] W fun e w' => e = .returned (.string (canonR (-n.y))) ∧ Below W.heap.size W w' := fun w he W hW => rnegR_any n.y W (by have := hn.xyz.2.1.brief (by omega) (by omega); have := (hn.xyz.2.1.sz (N := 60) (by omega) (by omega)).text (by omega); omega)
 have ez : (strikeV n).t.zero = decide (n.x = 0 ∧ n.y = 0) := by
  rw [V3.t_zero]
  apply decide_eq_decide.2
  unfold strikeV
  simp only
  constructor
  ·rintro ⟨h1, h2, _⟩
   exact ⟨h2, by grind⟩
  ·rintro ⟨h1, h2⟩
   exact ⟨by grind, h1, trivial⟩
 have hz : ∀ W : World, Calls Tryz.prog 16 #[.agg #[.string (canonR (-n.y)), .string n.t.x, .string ⟨#[48]⟩]] W fun e w' => e = .returned (.bool (decide (n.x = 0 ∧ n.y = 0))) ∧ Below W.heap.size W w' := fun W => by
  have := rzero_any (strikeV n).t W
  rw [ez] at this
  rw [← canonR0]
  exact this
 by_cases hc : n.x = 0 ∧ n.y = 0
 ·have sS : R3 (ofI ⟨1, 0, 0⟩ 1) 1 1 := spot_R3 1 0 0 (by omega) (by omega) (by omega)
  refine ⟨ofI ⟨1, 0, 0⟩ 1, crossR n (ofI ⟨1, 0, 0⟩ 1), sS, hn.cross sS, ?_, ?_, fun h => absurd hc h, fun w he => ?_⟩
  ·unfold dotR ofI
   simp only [mk1]
   rw [hc.1, hc.2]
   grind
  ·unfold dotR crossR
   simp only
   grind
  ·rw [decide_eq_true hc] at hz
   exact ldir_z _ _ _ _ _ _ _ _ _ _ w (hg w he) (fun W _ => hz W) (fun W hW => spotR 1 0 0 (by omega) (by omega) (by omega) W (he.below hW)) (fun W hW => rcrossR n (ofI ⟨1, 0, 0⟩ 1) 60 (by omega) (by omega) sN (sS.sz (by omega) (by omega)) W (he.below hW))
 ·refine ⟨strikeV n, crossR n (strikeV n), hn.strike, hn.cross hn.strike, ?_, ?_, fun _ => ⟨rfl, rfl⟩, fun w he => ?_⟩
  ·unfold dotR strikeV
   simp only
   grind
  ·unfold dotR crossR
   simp only
   grind
  ·rw [decide_eq_false hc] at hz
   have sA : Sz3 (strikeV n) 60 := hn.strike.sz (by omega) (by omega)
   have hx := fun W (hW : Below w.heap.size w W) => rcrossR n (strikeV n) 60 (by omega) (by omega) sN sA W (he.below hW)
   rw [show canonR (strikeV n).z = ⟨#[48]⟩ from canonR0] at hx
   have := ldir_n _ _ _ _ _ _ _ w (hg w he) (fun W _ => hz W) hx
   rw [← canonR0] at this
   exact this

structure FaultOk (n s : V3) (q : Rat) : Prop where
 nz : n.t.zero = false
 dot : dotR n s = 0
 hn : R3 n 1 1
 hs : R3 s 10 6
 hq : S2 q 2 1
theorem dot_two (n a b : V3) (k l : Rat) (ha : dotR n a = 0) (hb : dotR n b = 0) : dotR n ((a.scale k).add (b.scale l)) = 0 := by
 have : dotR n ((a.scale k).add (b.scale l)) = dotR n a * k + dotR n b * l := by
  unfold dotR V3.scale V3.add
  simp only
  grind
 rw [this, ha, hb]
 grind
theorem dot_zero3 (n : V3) : dotR n (ofI ⟨0, 0, 0⟩ 1) = 0 := by
 unfold dotR ofI
 simp only [mk1]
 grind
theorem make42 (x y z t s d : Int) (sl sp : Bool) (hx : -128 ≤ x ∧ x ≤ 127) (hy : -128 ≤ y ∧ y ≤ 127) (hz : -128 ≤ z ∧ z ≤ 127) (ht : -128 ≤ t ∧ t ≤ 127) (hs : -128 ≤ s ∧ s ≤ 127) (hd : -128 ≤ d ∧ d ≤ 127) :
  ∃ (n v : V3) (q : Rat), FaultOk n v q ∧ ∀ w, Env w → Calls Tryz.prog 27 #[.agg #[.int .i8 x, .int .i8 y, .int .i8 z, .int .i8 t, .int .i8 s, .int .i8 d, .bool sl, .bool sp]] w fun e w' => e = .returned (.agg #[.string n.t.x, .string n.t.y, .string n.t.z, .string (canonR q), .string v.t.x, .string v.t.y, .string v.t.z]) ∧ Below w.heap.size w w' := by
 obtain ⟨p, q, pz, hp, hq, hpl⟩ := plane42 x y z t hx hy hz ht
 have b1 := tmod4_bd s
 have b2 := tmod4_bd d
 have k1 : S2 (mkRat (s.tmod 4) 1) 1 1 := by rw [mk1]; exact S2.int _ 1 (by omega)
 have k2 : S2 (mkRat (d.tmod 4) 2) 1 1 := S2.of (n := d.tmod 4) (d := 2) (by omega) rfl (by omega) (by omega)
 have o1 : ∀ w, Env w → ∀ W, Below w.heap.size w W → Calls Tryz.prog 44 #[.int .i64 (s.tmod 4), .int .i64 1] W fun e w' => e = .returned (.string (canonR (mkRat (s.tmod 4) 1))) ∧ Below W.heap.size W w' := fun w he W hW => refof_any (s.tmod 4) 1 W (he.below hW).1 (by omega) (by omega) (by omega)
 have o2 : ∀ w, Env w → ∀ W, Below w.heap.size w W → Calls Tryz.prog 44 #[.int .i64 (d.tmod 4), .int .i64 2] W fun e w' => e = .returned (.string (canonR (mkRat (d.tmod 4) 2))) ∧ Below W.heap.size W w' := fun w he W hW => refof_any (d.tmod 4) 2 W (he.below hW).1 (by omega) (by omega) (by omega)
 have hk : bits BinOp.and IntKind.i8 t 3 = 0 ∨ bits BinOp.and IntKind.i8 t 3 = 1 ∨ bits BinOp.and IntKind.i8 t 3 = 2 ∨ bits BinOp.and IntKind.i8 t 3 = 3 := and3_cases t ht
 have ws := IntWalk.i64_in s (by omega)
 have wd := IntWalk.i64_in d (by omega)
 have Z := spot_R3 0 0 0 (by omega) (by omega) (by omega)
 -- whichever normal it is
 suffices H : ∀ n : V3, n.t.zero = false → R3 n 1 1 → (∀ (a b m : V3) (r : Value), (∀ w, Env w → Calls Tryz.prog 40 #[.agg #[.string n.t.x, .string n.t.y, .string n.t.z]] w fun e w' => e = .returned (.tuple #[.agg #[.string a.t.x, .string a.t.y, .string a.t.z], .agg #[.string b.t.x, .string b.t.y, .string b.t.z]]) ∧ Below w.heap.size w w') → R3 a 1 1 → R3 b 3 2 → m = (a.scale (mkRat (s.tmod 4) 1)).add (b.scale (mkRat (d.tmod 4) 2)) →
   r = .agg #[.string n.t.x, .string n.t.y, .string n.t.z, .string (canonR q), .string (if sl = true then ofI ⟨0, 0, 0⟩ 1 else m).t.x, .string (if sl = true then ofI ⟨0, 0, 0⟩ 1 else m).t.y, .string (if sl = true then ofI ⟨0, 0, 0⟩ 1 else m).t.z] →
   ∀ w, Env w → Calls Tryz.prog 27 #[.agg #[.int .i8 x, .int .i8 y, .int .i8 z, .int .i8 t, .int .i8 s, .int .i8 d, .bool sl, .bool sp]] w fun e w' => e = .returned r ∧ Below w.heap.size w w') →
   ∃ (n v : V3) (q : Rat), FaultOk n v q ∧ ∀ w, Env w → Calls Tryz.prog 27 #[.agg #[.int .i8 x, .int .i8 y, .int .i8 z, .int .i8 t, .int .i8 s, .int .i8 d, .bool sl, .bool sp]] w fun e w' => e = .returned (.agg #[.string n.t.x, .string n.t.y, .string n.t.z, .string (canonR q), .string v.t.x, .string v.t.y, .string v.t.z]) ∧ Below w.heap.size w w' by
  have V1 := spot_R3 0 0 1 (by omega) (by omega) (by omega)
  have V2 := spot_R3 0 0 (-2) (by omega) (by omega) (by omega)
  have V3' := spot_R3 1 0 0 (by omega) (by omega) (by omega)
  have V4 := spot_R3 1 0 1 (by omega) (by omega) (by omega)
  have step : ∀ (n a b m : V3) (r : Value), (∀ w, Env w → Calls Tryz.prog 40 #[.agg #[.string n.t.x, .string n.t.y, .string n.t.z]] w fun e w' => e = .returned (.tuple #[.agg #[.string a.t.x, .string a.t.y, .string a.t.z], .agg #[.string b.t.x, .string b.t.y, .string b.t.z]]) ∧ Below w.heap.size w w') → R3 a 1 1 → R3 b 3 2 → m = (a.scale (mkRat (s.tmod 4) 1)).add (b.scale (mkRat (d.tmod 4) 2)) →
   r = .agg #[.string n.t.x, .string n.t.y, .string n.t.z, .string (canonR q), .string (if sl = true then ofI ⟨0, 0, 0⟩ 1 else m).t.x, .string (if sl = true then ofI ⟨0, 0, 0⟩ 1 else m).t.y, .string (if sl = true then ofI ⟨0, 0, 0⟩ 1 else m).t.z] →
   ((sp = true ∧ bits BinOp.and IntKind.i8 t 3 = 0 ∧ n = ofI ⟨0, 0, 1⟩ 1) ∨ (sp = true ∧ bits BinOp.and IntKind.i8 t 3 = 1 ∧ n = ofI ⟨0, 0, -2⟩ 1) ∨ (sp = true ∧ bits BinOp.and IntKind.i8 t 3 = 2 ∧ n = ofI ⟨1, 0, 0⟩ 1) ∨ (sp = true ∧ bits BinOp.and IntKind.i8 t 3 = 3 ∧ n = ofI ⟨1, 0, 1⟩ 1) ∨ (¬ sp = true ∧ n = p)) →
   ∀ w, Env w → Calls Tryz.prog 27 #[.agg #[.int .i8 x, .int .i8 y, .int .i8 z, .int .i8 t, .int .i8 s, .int .i8 d, .bool sl, .bool sp]] w fun e w' => e = .returned r ∧ Below w.heap.size w w' := by
   intro n a b m r hdir ha hb hm hr hw w he
   have sa : Sz3 a 60 := ha.sz (by omega) (by omega)
   have sb : Sz3 b 60 := hb.sz (by omega) (by omega)
   have s1 : Sz3 (a.scale (mkRat (s.tmod 4) 1)) 60 := (ha.scale k1).sz (by omega) (by omega)
   have s2 : Sz3 (b.scale (mkRat (d.tmod 4) 2)) 60 := (hb.scale k2).sz (by omega) (by omega)
   have hD := fun W (hW : Below w.heap.size w W) => hdir W (he.below hW)
   have x1 := fun W (hW : Below w.heap.size w W) => rscale3R a 60 (by omega) (mkRat (s.tmod 4) 1) (by omega) sa (k1.sz (by omega) (by omega)) W (he.below hW)
   have x2 := fun W (hW : Below w.heap.size w W) => rscale3R b 60 (by omega) (mkRat (d.tmod 4) 2) (by omega) sb (k2.sz (by omega) (by omega)) W (he.below hW)
   have x3 := fun W (hW : Below w.heap.size w W) => radd3R (a.scale (mkRat (s.tmod 4) 1)) (b.scale (mkRat (d.tmod 4) 2)) 60 (by omega) (by omega) s1 s2 W (he.below hW)
   rw [← hm] at x3
   have z0 := fun W (hW : Below w.heap.size w W) => spotR 0 0 0 (by omega) (by omega) (by omega) W (he.below hW)
   have z1 := fun W (hW : Below w.heap.size w W) => spotR 0 0 1 (by omega) (by omega) (by omega) W (he.below hW)
   have z2 := fun W (hW : Below w.heap.size w W) => spotR 0 0 (-2) (by omega) (by omega) (by omega) W (he.below hW)
   have z3 := fun W (hW : Below w.heap.size w W) => spotR 1 0 0 (by omega) (by omega) (by omega) W (he.below hW)
   have z4 := fun W (hW : Below w.heap.size w W) => spotR 1 0 1 (by omega) (by omega) (by omega) W (he.below hW)
   have pl := fun W (hW : Below w.heap.size w W) => hpl W (he.below hW)
   have yes : sl = true → r = .agg #[.string n.t.x, .string n.t.y, .string n.t.z, .string (canonR q), .string (ofI ⟨0, 0, 0⟩ 1).t.x, .string (ofI ⟨0, 0, 0⟩ 1).t.y, .string (ofI ⟨0, 0, 0⟩ 1).t.z] := fun h => by rw [hr, if_pos h]
   have no : ¬ sl = true → r = .agg #[.string n.t.x, .string n.t.y, .string n.t.z, .string (canonR q), .string m.t.x, .string m.t.y, .string m.t.z] := fun h => by rw [hr, if_neg h]
   clear hr hm hdir
   rcases hw with ⟨h1, h2, rfl⟩ | ⟨h1, h2, rfl⟩ | ⟨h1, h2, rfl⟩ | ⟨h1, h2, rfl⟩ | ⟨h1, rfl⟩
   ·exact lmake_of _ _ _ _ _ _ _ _ _ _ _ _ _ _ _ _ _ _ _ _ _ _ _ _ _ _ _ _ _ _ _ _ _ _ _ _ x y z t s d sl sp r w hk (fun _ _ => yes) (fun _ _ => no) (fun _ h => by omega) (fun _ h => by omega) (fun _ h => by omega) (fun _ h => by omega) (fun _ h => by omega) (fun _ h => by omega) (fun h => absurd h1 h) (fun h => absurd h1 h) ws wd pl z0 z1 z2 z3 z4 (o1 w he) x1 (o2 w he) x2 x3 (fun _ => hD) (fun h => by omega) (fun h => by omega) (fun h => by omega) (fun h => absurd h1 h)
   ·exact lmake_of _ _ _ _ _ _ _ _ _ _ _ _ _ _ _ _ _ _ _ _ _ _ _ _ _ _ _ _ _ _ _ _ _ _ _ _ x y z t s d sl sp r w hk (fun _ h => by omega) (fun _ h => by omega) (fun _ _ => yes) (fun _ _ => no) (fun _ h => by omega) (fun _ h => by omega) (fun _ h => by omega) (fun _ h => by omega) (fun h => absurd h1 h) (fun h => absurd h1 h) ws wd pl z0 z1 z2 z3 z4 (o1 w he) x1 (o2 w he) x2 x3 (fun h => by omega) (fun _ => hD) (fun h => by omega) (fun h => by omega) (fun h => absurd h1 h)
   ·exact lmake_of _ _ _ _ _ _ _ _ _ _ _ _ _ _ _ _ _ _ _ _ _ _ _ _ _ _ _ _ _ _ _ _ _ _ _ _ x y z t s d sl sp r w hk (fun _ h => by omega) (fun _ h => by omega) (fun _ h => by omega) (fun _ h => by omega) (fun _ _ => yes) (fun _ _ => no) (fun _ h => by omega) (fun _ h => by omega) (fun h => absurd h1 h) (fun h => absurd h1 h) ws wd pl z0 z1 z2 z3 z4 (o1 w he) x1 (o2 w he) x2 x3 (fun h => by omega) (fun h => by omega) (fun _ => hD) (fun h => by omega) (fun h => absurd h1 h)
   ·exact lmake_of _ _ _ _ _ _ _ _ _ _ _ _ _ _ _ _ _ _ _ _ _ _ _ _ _ _ _ _ _ _ _ _ _ _ _ _ x y z t s d sl sp r w hk (fun _ h => by omega) (fun _ h => by omega) (fun _ h => by omega) (fun _ h => by omega) (fun _ h => by omega) (fun _ h => by omega) (fun _ _ => yes) (fun _ _ => no) (fun h => absurd h1 h) (fun h => absurd h1 h) ws wd pl z0 z1 z2 z3 z4 (o1 w he) x1 (o2 w he) x2 x3 (fun h => by omega) (fun h => by omega) (fun h => by omega) (fun _ => hD) (fun h => absurd h1 h)
   ·exact lmake_of _ _ _ _ _ _ _ _ _ _ _ _ _ _ _ _ _ _ _ _ _ _ _ _ _ _ _ _ _ _ _ _ _ _ _ _ x y z t s d sl sp r w hk (fun h => absurd h h1) (fun h => absurd h h1) (fun h => absurd h h1) (fun h => absurd h h1) (fun h => absurd h h1) (fun h => absurd h h1) (fun h => absurd h h1) (fun h => absurd h h1) (fun _ => yes) (fun _ => no) ws wd pl z0 z1 z2 z3 z4 (o1 w he) x1 (o2 w he) x2 x3 (fun h => absurd h.1 h1) (fun h => absurd h.1 h1) (fun h => absurd h.1 h1) (fun h => absurd h.1 h1) (fun _ => hD)
  have nzz : ∀ {a b c : Int}, ¬ (mkRat a 1 = 0 ∧ mkRat b 1 = 0 ∧ mkRat c 1 = 0) → (ofI ⟨a, b, c⟩ 1).t.zero = false := fun {a b c} h => by
   rw [V3.t_zero]
   exact decide_eq_false h
  by_cases hsp : sp = true
  ·rcases hk with h | h | h | h
   ·exact H (ofI ⟨0, 0, 1⟩ 1) (nzz (by simp only [mk1]; grind)) V1 (fun a b m r hdir ha hb hm hr w he => step _ a b m r hdir ha hb hm hr (.inl ⟨hsp, h, rfl⟩) w he)
   ·exact H (ofI ⟨0, 0, -2⟩ 1) (nzz (by simp only [mk1]; grind)) V2 (fun a b m r hdir ha hb hm hr w he => step _ a b m r hdir ha hb hm hr (.inr (.inl ⟨hsp, h, rfl⟩)) w he)
   ·exact H (ofI ⟨1, 0, 0⟩ 1) (nzz (by simp only [mk1]; grind)) V3' (fun a b m r hdir ha hb hm hr w he => step _ a b m r hdir ha hb hm hr (.inr (.inr (.inl ⟨hsp, h, rfl⟩))) w he)
   ·exact H (ofI ⟨1, 0, 1⟩ 1) (nzz (by simp only [mk1]; grind)) V4 (fun a b m r hdir ha hb hm hr w he => step _ a b m r hdir ha hb hm hr (.inr (.inr (.inr (.inl ⟨hsp, h, rfl⟩)))) w he)
  ·exact H p pz hp (fun a b m r hdir ha hb hm hr w he => step _ a b m r hdir ha hb hm hr (.inr (.inr (.inr (.inr ⟨hsp, rfl⟩)))) w he)
 intro n nz hn hmk
 obtain ⟨a, b, ha, hb, da, db, _, hdir⟩ := dirs42 n hn
 have hm : R3 ((a.scale (mkRat (s.tmod 4) 1)).add (b.scale (mkRat (d.tmod 4) 2))) 10 6 := ((ha.scale k1).add (hb.scale k2) (m := 6) (by omega) (by omega)).sz' 10 6 (by omega) (by omega)
 refine ⟨n, if sl = true then ofI ⟨0, 0, 0⟩ 1 else (a.scale (mkRat (s.tmod 4) 1)).add (b.scale (mkRat (d.tmod 4) 2)), q, ⟨nz, ?_, hn, ?_, hq⟩, hmk a b _ _ hdir ha hb rfl rfl⟩
 ·split
  ·exact dot_zero3 n
  ·exact dot_two n a b _ _ da db
 ·split
  ·exact Z.sz' 10 6 (by omega) (by omega)
  ·exact hm

end Go.Proofs.YtopilnlniidejaaGreatDoor
