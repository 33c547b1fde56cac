/- SlipParts returns true. -/
import Derived.Test.YtopilnlniidejaaGreatDoorSlipJ3
import Derived.Test.YtopilnlniidejaaGreatDoorSlip9D
namespace Go.Proofs.YtopilnlniidejaaGreatDoor
set_option linter.all false
open Go.RowKit

theorem partsC (x y z t s d : Int) (sl sp : Bool) (hx : -128 ≤ x ∧ x ≤ 127) (hy : -128 ≤ y ∧ y ≤ 127) (hz : -128 ≤ z ∧ z ≤ 127) (ht : -128 ≤ t ∧ t ≤ 127) (hs : -128 ≤ s ∧ s ≤ 127) (hd : -128 ≤ d ∧ d ≤ 127) (w : World) (he : Env w) :
  Calls Tryz.prog 7 #[.agg #[.int .i8 x, .int .i8 y, .int .i8 z, .int .i8 t, .int .i8 s, .int .i8 d, .bool sl, .bool sp]] w fun e w' => e = .returned (.bool true) ∧ Below w.heap.size w w' := by
 obtain ⟨n, v, q, ok, hmk⟩ := make42 x y z t s d sl sp hx hy hz ht hs hd
 have knw := fun W (hW : Below w.heap.size w W) => known42 W (he.below hW)
 have mk := fun W (hW : Below w.heap.size w W) => hmk W (he.below hW)
 have ki := fun W (hW : Below w.heap.size w W) => skindR n v q ok.n2 ok.hs ok.q60 ok.chk W (he.below hW)
 have th := fun W (hW : Below w.heap.size w W) => ok.throw W (he.below hW)
 have hv := fun W (hW : Below w.heap.size w W) => ok.heave W (he.below hW)
 have lk := fun W (hW : Below w.heap.size w W) => lkindR n v q (ok.hn.sz' 60 60 (by omega) (by omega)) (ok.hs.sz' 60 60 (by omega) (by omega)) W (he.below hW)
 obtain ⟨vx, vy, vz⟩ := ok.hs.xyz
 have m1 := fun W (hW : Below w.heap.size w W) => rmulR_any v.x v.x 60 (by omega) (by omega) (vx.sz (by omega) (by omega)) (vx.sz (by omega) (by omega)) W (he.below hW)
 have m2 := fun W (hW : Below w.heap.size w W) => rmulR_any v.y v.y 60 (by omega) (by omega) (vy.sz (by omega) (by omega)) (vy.sz (by omega) (by omega)) W (he.below hW)
 have a1 := fun W (hW : Below w.heap.size w W) => raddR_any (v.x * v.x) (v.y * v.y) 60 (by omega) (by omega) ((vx.mul vx).sz (by omega) (by omega)) ((vy.mul vy).sz (by omega) (by omega)) W (he.below hW)
 have e1 : (n.t.x.toList == [48]) = decide (n.x = 0) := canonR_beq0 _
 have e2 : (n.t.y.toList == [48]) = decide (n.y = 0) := canonR_beq0 _
 by_cases hf : n.x = 0 ∧ n.y = 0
 ·exact parts_of (fl := true) (ax := true) (Q := ⟨#[]⟩) (R := ⟨#[]⟩) (G1 := ⟨#[]⟩) (G2 := ⟨#[]⟩) (G3 := ⟨#[]⟩) (H1 := ⟨#[]⟩) (H2 := ⟨#[]⟩) (H3 := ⟨#[]⟩) (I1 := ⟨#[]⟩) (I2 := ⟨#[]⟩) (I3 := ⟨#[]⟩) (J1 := ⟨#[]⟩) (J2 := ⟨#[]⟩) (J3 := ⟨#[]⟩) w (h1 := fun _ => by rw [e1]; exact decide_eq_true hf.1) (h2 := fun _ => by rw [e2]; exact decide_eq_true hf.2) (h_kn := knw) (h_mk := mk)
   (h_pa := fun _ W hW => ok.flat hf W (he.below hW)) (h_ki := ki) (h_th := th) (h_he := hv) (h_m1 := m1) (h_m2 := m2) (h_a1 := a1) (h_lk := lk)
 ·have ha := ok.n2.strike
  have hb := ok.n2.cross ha
  have d1 := ok.hs.dot ha
  have d2 := ha.dot ha
  have d3 := ok.hs.dot hb
  have d4 := hb.dot hb
  have r1 := d1.div d2 (strike_dot hf)
  have r2 := d3.div d4 (across_dot hf)
  have pb := fun W (hW : Below w.heap.size w W) => spartsR n v q ok.n2 ok.hs ok.q60 ok.chk hf W (he.below hW)
  have sum := parts_sum n v hf ok.dot
  obtain ⟨a, b, _, _, _, _, hab, hdir⟩ := dirs42 n ok.hn
  obtain ⟨rfl, rfl⟩ := hab hf
  have di := fun W (hW : Below w.heap.size w W) => hdir W (he.below hW)
  have x1 := fun W (hW : Below w.heap.size w W) => rscale3R (strikeV n) 60 (by omega) _ (by omega) (ha.sz (by omega) (by omega)) (r1.sz (by omega) (by omega)) W (he.below hW)
  have x2 := fun W (hW : Below w.heap.size w W) => rscale3R (crossR n (strikeV n)) 60 (by omega) _ (by omega) (hb.sz (by omega) (by omega)) (r2.sz (by omega) (by omega)) W (he.below hW)
  have x3 := fun W (hW : Below w.heap.size w W) => radd3R _ _ 60 (by omega) (by omega) ((ha.scale r1).sz (by omega) (by omega)) ((hb.scale r2).sz (by omega) (by omega)) W (he.below hW)
  rw [sum] at x3
  have nu := fun W b (hb' : Blk W b #[.string (canonR (dotR v (strikeV n) / dotR (strikeV n) (strikeV n))), .string (canonR (dotR v (crossR n (strikeV n)) / dotR (crossR n (strikeV n)) (crossR n (strikeV n))))] 22) (hW : Below w.heap.size w W) =>
   rnumbers_any [canonR (dotR v (strikeV n) / dotR (strikeV n) (strikeV n)), canonR (dotR v (crossR n (strikeV n)) / dotR (crossR n (strikeV n)) (crossR n (strikeV n)))] (fun t ht => by simp at ht; rcases ht with rfl | rfl; exact r1.brief (by omega) (by omega); exact r2.brief (by omega) (by omega)) (by simp) W b hb' (he.below hW)
  have en : ([canonR (dotR v (strikeV n) / dotR (strikeV n) (strikeV n)), canonR (dotR v (crossR n (strikeV n)) / dotR (crossR n (strikeV n)) (crossR n (strikeV n)))].all rightQ) = true := by
   rw [List.all_cons, List.all_cons, r1.right (by omega) (by omega), r2.right (by omega) (by omega)]
   rfl
  rw [en] at nu
  by_cases hx0 : n.x = 0
  ·have hy0 : ¬ n.y = 0 := fun h => hf ⟨hx0, h⟩
   exact parts_of (fl := false) (ax := true) w (h4 := fun _ _ => by rw [e1]; exact decide_eq_true hx0) (h5 := fun _ _ => by rw [e2]; exact decide_eq_false hy0) (h_kn := knw) (h_mk := mk) (h_pb := fun _ => pb) (h_ki := ki) (h_th := th) (h_he := hv) (h_m1 := m1) (h_m2 := m2) (h_a1 := a1) (h_lk := lk) (h_nu := fun _ => nu) (h_di := fun _ => di) (h_s1 := fun _ => x1) (h_s2 := fun _ => x2) (h_ad := fun _ => x3)
  ·exact parts_of (fl := false) (ax := false) w (h3 := fun _ _ => by rw [e1]; exact decide_eq_false hx0) (h_kn := knw) (h_mk := mk) (h_pb := fun _ => pb) (h_ki := ki) (h_th := th) (h_he := hv) (h_m1 := m1) (h_m2 := m2) (h_a1 := a1) (h_lk := lk) (h_nu := fun _ => nu) (h_di := fun _ => di) (h_s1 := fun _ => x1) (h_s2 := fun _ => x2) (h_ad := fun _ => x3)

end Go.Proofs.YtopilnlniidejaaGreatDoor
