/- Pierce over rational numbers. -/
import Derived.Test.YtopilnlniidejaaGreatDoorSlipJ4
import Derived.Test.YtopilnlniidejaaGreatDoorGSlipZ
import Derived.Test.YtopilnlniidejaaGreatDoorSlipH
namespace Go.Proofs.YtopilnlniidejaaGreatDoor
set_option linter.all false
open Go.RowKit

def pierceV (a : V3) (q : Rat) (c d f g : V3) : V3 := (placeR a q f g).add ((placeR a q c d).scale (-1))
theorem Sz.one (N : Nat) (h : 0 < N) : Sz (-1) N := ⟨by show 1 < 10 ^ N; exact Nat.one_lt_pow (by omega) (by omega), by show 1 < 10 ^ N; exact Nat.one_lt_pow (by omega) (by omega)⟩
theorem S2.neg1 {q : Rat} {a b : Nat} (h : S2 q a b) : S2 (q * -1) a b := by
 rw [show q * -1 = -q by grind]
 exact h.neg
theorem pierce_size {a c d f g : V3} {q : Rat} (ha : R3 a 20 18) (hc : R3 c 20 18) (hd : R3 d 20 18) (hf : R3 f 20 18) (hg : R3 g 20 18) (hq : S2 q 8 6) (h1 : dotR a d ≠ 0) (h2 : dotR a g ≠ 0) :
  S2 (pierceV a q c d f g).x 141 136 ∧ S2 (pierceV a q c d f g).y 141 136 ∧ S2 (pierceV a q c d f g).z 141 136 := by
 obtain ⟨x1, x2, x3⟩ := place_size ha hc hd hq h1
 obtain ⟨y1, y2, y3⟩ := place_size ha hf hg hq h2
 exact ⟨y1.add x1.neg1 140 (by omega) (by omega), y2.add x2.neg1 140 (by omega) (by omega), y3.add x3.neg1 140 (by omega) (by omega)⟩
theorem right_s2 {v : V3} {a b : Nat} (h : S2 v.x a b ∧ S2 v.y a b ∧ S2 v.z a b) (ha : a ≤ 200) (hb : b ≤ 200) : v.t.right = true ∧ v.t.small := by
 obtain ⟨x, y, z⟩ := h
 refine ⟨?_, x.brief ha hb, y.brief ha hb, z.brief ha hb⟩
 unfold T3.right
 rw [show rightQ v.t.x = true from x.right ha hb, show rightQ v.t.y = true from y.right ha hb, show rightQ v.t.z = true from z.right ha hb]
 rfl
section
variable (a c d f g : V3) (q : Rat) (ha : R3 a 20 18) (hc : R3 c 20 18) (hd : R3 d 20 18) (hf : R3 f 20 18) (hg : R3 g 20 18) (hq : S2 q 8 6)
include ha hc hd hf hg hq
theorem spierceR (ez : Int) (hez : errZ [a.t, d.t, g.t] = ez) (res : Value) (r2 : ¬ ez = 0 → res = .tuple #[.agg #[.string ⟨#[]⟩, .string ⟨#[]⟩, .string ⟨#[]⟩], .int .i64 ez]) (r3 : ez = 0 → (dotR a d = 0 ∨ dotR a g = 0) → res = .tuple #[.agg #[.string ⟨#[]⟩, .string ⟨#[]⟩, .string ⟨#[]⟩], .int .i64 18])
  (r5 : ez = 0 → dotR a d ≠ 0 → dotR a g ≠ 0 → res = .tuple #[.agg #[.string (pierceV a q c d f g).t.x, .string (pierceV a q c d f g).t.y, .string (pierceV a q c d f g).t.z], .int .i64 0]) (w : World) (he : Env w) :
  Calls Tryz.prog 21 #[.agg #[.string a.t.x, .string a.t.y, .string a.t.z, .string (canonR q)], .agg #[.string c.t.x, .string c.t.y, .string c.t.z, .string d.t.x, .string d.t.y, .string d.t.z], .agg #[.string f.t.x, .string f.t.y, .string f.t.z, .string g.t.x, .string g.t.y, .string g.t.z]] w fun e w' => e = .returned res ∧ Below w.heap.size w w' := by
 have small := fun {v : V3} (h : R3 v 20 18) => h.small (by omega : 20 ≤ 200) (by omega : 18 ≤ 200)
 have right := fun {v : V3} (h : R3 v 20 18) => h.right (by omega : 20 ≤ 200) (by omega : 18 ≤ 200)
 have sz := fun {v : V3} (h : R3 v 20 18) => (h.sz (by omega) (by omega) : Sz3 v 60)
 have hp1 := fun W (hW : Below w.heap.size w W) => splaneT W a.t (canonR q) (small ha) (hq.brief (by omega) (by omega)) (he.below hW)
 have hv1 := fun W b (hb' : Blk W b #[.string c.t.x, .string c.t.y, .string c.t.z, .string d.t.x, .string d.t.y, .string d.t.z, .string f.t.x, .string f.t.y, .string f.t.z, .string g.t.x, .string g.t.y, .string g.t.z] 24) (hW : Below w.heap.size w W) =>
  svectors_any [c.t, d.t, f.t, g.t] (fun v hv => by simp at hv; rcases hv with rfl | rfl | rfl | rfl; exact small hc; exact small hd; exact small hf; exact small hg) (by simp) W b hb' (he.below hW)
 have hf1 := fun W b (hb' : Blk W b #[.int .i64 (e2 (a.t.right && rightQ (canonR q))), .int .i64 (errV [c.t, d.t, f.t, g.t])] 31) (_ : Below w.heap.size w W) => sfirst2 (a.t.right && rightQ (canonR q)) ([c.t, d.t, f.t, g.t].all T3.right) W b hb'
 have e0 : ((a.t.right && rightQ (canonR q)) && [c.t, d.t, f.t, g.t].all T3.right) = true := by
  simp only [List.all_cons, List.all_nil, Bool.and_true, right ha, right hc, right hd, right hf, right hg, hq.right (by omega : 8 ≤ 200) (by omega)]
 rw [e0] at hf1
 have hz1 := fun W b (hb' : Blk W b #[.string a.t.x, .string a.t.y, .string a.t.z, .string d.t.x, .string d.t.y, .string d.t.z, .string g.t.x, .string g.t.y, .string g.t.z] 24) (_ : Below w.heap.size w W) => szeros_any [a.t, d.t, g.t] (by simp) W b hb'
 rw [hez] at hz1
 have n0 : ∀ {P : Prop}, ¬ e2 true = 0 → P := fun h => absurd rfl h
 have n17 : ¬ (17 : Int) = 0 := by decide
 by_cases hne : ez = 0
 case neg => exact spierce_of (ef := e2 true) (ez := ez) (ed1 := 0) (ed2 := 0) (Q1 := ⟨#[]⟩) (Q2 := ⟨#[]⟩) (Q3 := ⟨#[]⟩) (T := ⟨#[]⟩) (U1 := ⟨#[]⟩) (U2 := ⟨#[]⟩) (U3 := ⟨#[]⟩) (X := ⟨#[]⟩) (R1 := ⟨#[]⟩) (R2 := ⟨#[]⟩) (R3 := ⟨#[]⟩) (Rx1 := ⟨#[]⟩) (Rx2 := ⟨#[]⟩) (Rx3 := ⟨#[]⟩) (Y1 := ⟨#[]⟩) (Y2 := ⟨#[]⟩) (Y3 := ⟨#[]⟩) (Yx1 := ⟨#[]⟩) (Yx2 := ⟨#[]⟩) (Yx3 := ⟨#[]⟩) (M1 := ⟨#[]⟩) (M2 := ⟨#[]⟩) (M3 := ⟨#[]⟩) (O1 := ⟨#[]⟩) (O2 := ⟨#[]⟩) (O3 := ⟨#[]⟩) w n0 (fun _ h => r2 h) (fun _ h => absurd h hne) (fun _ h => absurd h hne) (fun _ h => absurd h hne) (h_p1 := hp1) (h_v1 := hv1) (h_f1 := hf1) (h_z1 := fun _ => hz1) (h_dp1 := fun h => absurd h.2 hne) (h_su1 := fun h => absurd h.2 hne) (h_da1 := fun h => absurd h.2 hne) (h_dv1 := fun h => absurd h.2 hne) (h_sc1 := fun h => absurd h.2.1 hne) (h_ad1 := fun h => absurd h.2.1 hne) (h_dp2 := fun h => absurd h.2.1 hne) (h_su2 := fun h => absurd h.2.1 hne) (h_da2 := fun h => absurd h.2.1 hne) (h_dv2 := fun h => absurd h.2.1 hne) (h_sc2 := fun h => absurd h.2.1 hne) (h_ad2 := fun h => absurd h.2.1 hne) (h_sm := fun h => absurd h.2.1 hne) (h_am := fun h => absurd h.2.1 hne) (h_sv := fun h => absurd h.2.1 hne)
 have dc := ha.dot hc
 have dd := ha.dot hd
 have df := ha.dot hf
 have dg := ha.dot hg
 have dp1 := fun W (hW : Below w.heap.size w W) => sdotR a c 60 (by omega) (by omega) (sz ha) (sz hc) W (he.below hW)
 have su1 := fun W (hW : Below w.heap.size w W) => rsub_any q (dotR a c) 60 (by omega) (by omega) (hq.sz (by omega) (by omega)) (dc.sz (by omega) (by omega)) W (he.below hW)
 have da1 := fun W (hW : Below w.heap.size w W) => sdotR a d 60 (by omega) (by omega) (sz ha) (sz hd) W (he.below hW)
 by_cases h1 : dotR a d = 0
 ·have dv1 := fun W (_ : Below w.heap.size w W) => (rdiv_zero (q - dotR a c) W).mono fun e w' h => (⟨h.1, by rw [h.2]; exact Below.refl _ _⟩ : e = .returned (.tuple #[.string ⟨#[]⟩, .int .i64 17]) ∧ Below W.heap.size W w')
  rw [h1] at da1
  exact spierce_of (ef := e2 true) (ez := ez) (ed1 := 17) (ed2 := 0) (R1 := ⟨#[]⟩) (R2 := ⟨#[]⟩) (R3 := ⟨#[]⟩) (Rx1 := ⟨#[]⟩) (Rx2 := ⟨#[]⟩) (Rx3 := ⟨#[]⟩) (U1 := ⟨#[]⟩) (U2 := ⟨#[]⟩) (U3 := ⟨#[]⟩) (X := ⟨#[]⟩) (Y1 := ⟨#[]⟩) (Y2 := ⟨#[]⟩) (Y3 := ⟨#[]⟩) (Yx1 := ⟨#[]⟩) (Yx2 := ⟨#[]⟩) (Yx3 := ⟨#[]⟩) (M1 := ⟨#[]⟩) (M2 := ⟨#[]⟩) (M3 := ⟨#[]⟩) (O1 := ⟨#[]⟩) (O2 := ⟨#[]⟩) (O3 := ⟨#[]⟩) w n0 (fun _ h => absurd hne h) (fun _ _ _ => r3 hne (.inl h1)) (fun _ _ h => absurd h n17) (fun _ _ h => absurd h n17) (h_p1 := hp1) (h_v1 := hv1) (h_f1 := hf1) (h_z1 := fun _ => hz1)
   (h_dp1 := fun _ => dp1) (h_su1 := fun _ => su1) (h_da1 := fun _ => da1) (h_dv1 := fun _ => dv1) (h_sc1 := fun h => absurd h.2.2 n17) (h_ad1 := fun h => absurd h.2.2 n17) (h_dp2 := fun h => absurd h.2.2 n17) (h_su2 := fun h => absurd h.2.2 n17) (h_da2 := fun h => absurd h.2.2 n17) (h_dv2 := fun h => absurd h.2.2 n17) (h_sc2 := fun h => absurd h.2.2.1 n17) (h_ad2 := fun h => absurd h.2.2.1 n17) (h_sm := fun h => absurd h.2.2.1 n17) (h_am := fun h => absurd h.2.2.1 n17) (h_sv := fun h => absurd h.2.2.1 n17)
 have q1 := hq.sub dc 47 (by omega) (by omega)
 have k1 := q1.div dd h1
 have p1 := place_size ha hc hd hq h1
 have dv1 := fun W (hW : Below w.heap.size w W) => rdiv_any (q - dotR a c) (dotR a d) 60 (by omega) (by omega) (q1.sz (by omega) (by omega)) (dd.sz (by omega) (by omega)) h1 W (he.below hW)
 have sc1 := fun W (hW : Below w.heap.size w W) => sscaleR d 120 (by omega) ((q - dotR a c) / dotR a d) (by omega) (hd.sz (by omega) (by omega)) (k1.sz (by omega) (by omega)) W (he.below hW)
 have ad1 := fun W (hW : Below w.heap.size w W) => saddR c (d.scale ((q - dotR a c) / dotR a d)) 120 (by omega) (by omega) (hc.sz (by omega) (by omega)) ((hd.scale k1).sz (by omega) (by omega)) W (he.below hW)
 have dp2 := fun W (hW : Below w.heap.size w W) => sdotR a f 60 (by omega) (by omega) (sz ha) (sz hf) W (he.below hW)
 have su2 := fun W (hW : Below w.heap.size w W) => rsub_any q (dotR a f) 60 (by omega) (by omega) (hq.sz (by omega) (by omega)) (df.sz (by omega) (by omega)) W (he.below hW)
 have da2 := fun W (hW : Below w.heap.size w W) => sdotR a g 60 (by omega) (by omega) (sz ha) (sz hg) W (he.below hW)
 by_cases h2 : dotR a g = 0
 ·have dv2 := fun W (_ : Below w.heap.size w W) => (rdiv_zero (q - dotR a f) W).mono fun e w' h => (⟨h.1, by rw [h.2]; exact Below.refl _ _⟩ : e = .returned (.tuple #[.string ⟨#[]⟩, .int .i64 17]) ∧ Below W.heap.size W w')
  rw [h2] at da2
  exact spierce_of (ef := e2 true) (ez := ez) (ed1 := 0) (ed2 := 17) (Y1 := ⟨#[]⟩) (Y2 := ⟨#[]⟩) (Y3 := ⟨#[]⟩) (Yx1 := ⟨#[]⟩) (Yx2 := ⟨#[]⟩) (Yx3 := ⟨#[]⟩) (M1 := ⟨#[]⟩) (M2 := ⟨#[]⟩) (M3 := ⟨#[]⟩) (O1 := ⟨#[]⟩) (O2 := ⟨#[]⟩) (O3 := ⟨#[]⟩) w n0 (fun _ h => absurd hne h) (fun _ _ h => absurd rfl h) (fun _ _ _ _ => r3 hne (.inr h2)) (fun _ _ _ h => absurd h n17) (h_p1 := hp1) (h_v1 := hv1) (h_f1 := hf1) (h_z1 := fun _ => hz1)
   (h_dp1 := fun _ => dp1) (h_su1 := fun _ => su1) (h_da1 := fun _ => da1) (h_dv1 := fun _ => dv1) (h_sc1 := fun _ => sc1) (h_ad1 := fun _ => ad1) (h_dp2 := fun _ => dp2) (h_su2 := fun _ => su2) (h_da2 := fun _ => da2) (h_dv2 := fun _ => dv2) (h_sc2 := fun h => absurd h.2.2.2 n17) (h_ad2 := fun h => absurd h.2.2.2 n17) (h_sm := fun h => absurd h.2.2.2 n17) (h_am := fun h => absurd h.2.2.2 n17) (h_sv := fun h => absurd h.2.2.2 n17)
 have q2 := hq.sub df 47 (by omega) (by omega)
 have k2 := q2.div dg h2
 have p2 := place_size ha hf hg hq h2
 have ps := pierce_size ha hc hd hf hg hq h1 h2
 have s1 : Sz3 (placeR a q c d) 80 := ⟨p1.1.sz (by omega) (by omega), p1.2.1.sz (by omega) (by omega), p1.2.2.sz (by omega) (by omega)⟩
 have s2 : Sz3 (placeR a q f g) 160 := ⟨p2.1.sz (by omega) (by omega), p2.2.1.sz (by omega) (by omega), p2.2.2.sz (by omega) (by omega)⟩
 have dv2 := fun W (hW : Below w.heap.size w W) => rdiv_any (q - dotR a f) (dotR a g) 60 (by omega) (by omega) (q2.sz (by omega) (by omega)) (dg.sz (by omega) (by omega)) h2 W (he.below hW)
 have sc2 := fun W (hW : Below w.heap.size w W) => sscaleR g 120 (by omega) ((q - dotR a f) / dotR a g) (by omega) (hg.sz (by omega) (by omega)) (k2.sz (by omega) (by omega)) W (he.below hW)
 have ad2 := fun W (hW : Below w.heap.size w W) => saddR f (g.scale ((q - dotR a f) / dotR a g)) 120 (by omega) (by omega) (hf.sz (by omega) (by omega)) ((hg.scale k2).sz (by omega) (by omega)) W (he.below hW)
 have sm := fun W (hW : Below w.heap.size w W) => sscaleR (placeR a q c d) 80 (by omega) (-1) (by omega) s1 (Sz.one 80 (by omega)) W (he.below hW)
 rw [canonR_m1] at sm
 have am := fun W (hW : Below w.heap.size w W) => saddR (placeR a q f g) ((placeR a q c d).scale (-1)) 160 (by omega) (by omega) s2 (s1.scale (Sz.one 80 (by omega))) W (he.below hW)
 have hr := right_s2 ps (by omega) (by omega)
 have sv := fun W (hW : Below w.heap.size w W) => sshortv_ok (pierceV a q c d f g).t.x (pierceV a q c d f g).t.y (pierceV a q c d f g).t.z W (fun V b hb hV => by have := svec1 (pierceV a q c d f g).t hr.2 V b ((he.below hW).below hV) hb; rw [hr.1] at this; exact this)
 exact spierce_of (ef := e2 true) (ez := ez) (ed1 := 0) (ed2 := 0) w n0 (fun _ h => absurd hne h) (fun _ _ h => absurd rfl h) (fun _ _ _ h => absurd rfl h) (fun _ _ _ _ => r5 hne h1 h2) (h_p1 := hp1) (h_v1 := hv1) (h_f1 := hf1) (h_z1 := fun _ => hz1)
  (h_dp1 := fun _ => dp1) (h_su1 := fun _ => su1) (h_da1 := fun _ => da1) (h_dv1 := fun _ => dv1) (h_sc1 := fun _ => sc1) (h_ad1 := fun _ => ad1) (h_dp2 := fun _ => dp2) (h_su2 := fun _ => su2) (h_da2 := fun _ => da2) (h_dv2 := fun _ => dv2) (h_sc2 := fun _ => sc2) (h_ad2 := fun _ => ad2) (h_sm := fun _ => sm) (h_am := fun _ => am) (h_sv := fun _ => sv)
end

end Go.Proofs.YtopilnlniidejaaGreatDoor
