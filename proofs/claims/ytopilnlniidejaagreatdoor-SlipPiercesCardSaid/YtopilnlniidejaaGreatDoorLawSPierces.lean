/- SlipPierces returns true. -/
import Derived.Test.YtopilnlniidejaaGreatDoorSlipJ5
import Derived.Test.YtopilnlniidejaaGreatDoorSlip9A
namespace Go.Proofs.YtopilnlniidejaaGreatDoor
set_option linter.all false
open Go.RowKit

theorem rsub3R (u v : V3) (N : Nat) (hN0 : 0 < N) (hN : N ≤ 400) (hu : Sz3 u N) (hv : Sz3 v N) (w : World) (he : Env w) :
  Calls Tryz.prog 26 #[.agg #[.string (canonR u.x), .string (canonR u.y), .string (canonR u.z)], .agg #[.string (canonR v.x), .string (canonR v.y), .string (canonR v.z)]] w fun e w' => e = .returned (.agg #[.string (canonR (u.add (v.scale (-1))).x), .string (canonR (u.add (v.scale (-1))).y), .string (canonR (u.add (v.scale (-1))).z)]) ∧ Below w.heap.size w w' := by
 have h1 := fun W (hW : Below w.heap.size w W) => rscale3R v N hN0 (-1) (by omega) hv (Sz.one N hN0) W (he.below hW)
 rw [canonR_m1] at h1
 exact rsub3_of _ _ _ _ _ _ _ _ _ _ _ _ w h1 (fun W hW => radd3R u (v.scale (-1)) (N + N) (by omega) (by omega) (hu.mono (by omega)) (hv.scale (Sz.one N hN0)) W (he.below hW))
set_option maxHeartbeats 4000000 in
theorem pierces_walk (A C D F G : T3) (A0 : ByteArray) (w : World) (he : Env w) :
  Calls Tryz.prog 4 #[.agg #[.string A.x, .string A.y, .string A.z, .string A0], .agg #[.string C.x, .string C.y, .string C.z, .string D.x, .string D.y, .string D.z], .agg #[.string F.x, .string F.y, .string F.z, .string G.x, .string G.y, .string G.z]] w fun e w' => e = .returned (.bool true) ∧ Below w.heap.size w w' := by
 have knw := fun W (hW : Below w.heap.size w W) => known42 W (he.below hW)
 have hbr := fun W b (hb : Blk W b #[.string A.x, .string A.y, .string A.z, .string C.x, .string C.y, .string C.z, .string D.x, .string D.y, .string D.z, .string F.x, .string F.y, .string F.z, .string G.x, .string G.y, .string G.z] 24) (_ : Below w.heap.size w W) => lbrief_any [A, C, D, F, G] (by simp) W b hb
 cases hl : ([A, C, D, F, G].all fun v => !v.long) with
 | false =>
  rw [hl] at hbr
  exact pierces_long1 _ _ _ _ _ _ _ _ _ _ _ _ _ _ _ _ w knw hbr
 | true =>
 rw [hl] at hbr
 cases hm : decide ((8 : Int) < (A0.size : Int)) with
 | true => exact pierces_long2 _ _ _ _ _ _ _ _ _ _ _ _ _ _ _ _ w hm knw hbr
 | false =>
 have h0 : A0.size ≤ 8 := by
  rw [decide_eq_false_iff_not] at hm
  omega
 simp only [List.all_cons, List.all_nil, Bool.and_true, Bool.and_eq_true, Bool.not_eq_true'] at hl
 obtain ⟨la, lc, ld, lf, lg⟩ := hl
 have hnu := fun W b c (hb : Blk W b #[.string A.x, .string A.y, .string A.z, .string C.x, .string C.y, .string C.z, .string D.x, .string D.y, .string D.z, .string F.x, .string F.y, .string F.z, .string G.x, .string G.y, .string G.z] 24) (hc : Blk W c #[.string A0] 22) (hW : Below w.heap.size w W) =>
  lnumbers_any [A, C, D, F, G] [A0] (fun v hv => by simp at hv; rcases hv with rfl | rfl | rfl | rfl | rfl; exact smallT_of la; exact smallT_of lc; exact smallT_of ld; exact smallT_of lf; exact smallT_of lg) (fun t ht => by simp at ht; subst ht; omega) (by simp) (by simp) W b c hb hc (he.below hW)
 cases hq : ([A0].all rightQ && [A, C, D, F, G].all T3.right) with
 | false =>
  rw [hq] at hnu
  have hbad : ((A.right && rightQ A0) && [C, D, F, G].all T3.right) = false := by
   simp only [List.all_cons, List.all_nil, Bool.and_true] at hq ⊢
   revert hq
   cases rightQ A0 <;> cases A.right <;> cases C.right <;> cases D.right <;> cases F.right <;> cases G.right <;> decide
  exact pierces_of (er := 2) (ok := false) (nu := false) (za := true) (zd := true) (zg := true) (td := true) (tg := true) (O1 := ⟨#[]⟩) (O2 := ⟨#[]⟩) (O3 := ⟨#[]⟩) (P := ⟨#[]⟩) (Q := ⟨#[]⟩) (H1 := ⟨#[]⟩) (H2 := ⟨#[]⟩) (H3 := ⟨#[]⟩) (SH1 := ⟨#[]⟩) (SH2 := ⟨#[]⟩) (SH3 := ⟨#[]⟩) (I1 := ⟨#[]⟩) (I2 := ⟨#[]⟩) (I3 := ⟨#[]⟩) (SI1 := ⟨#[]⟩) (SI2 := ⟨#[]⟩) (SI3 := ⟨#[]⟩) (X1 := ⟨#[]⟩) (X2 := ⟨#[]⟩) (X3 := ⟨#[]⟩) (Y1 := ⟨#[]⟩) (Y2 := ⟨#[]⟩) (Y3 := ⟨#[]⟩) w hm (f1 := fun _ _ => rfl) (h_kn := knw) (h_br := hbr) (h_nu := hnu) (h_pe := fun _ W hW => spierce_num A C D F G A0 (smallT_of la) (smallT_of lc) (smallT_of ld) (smallT_of lf) (smallT_of lg) (by omega) hbad W (he.below hW))
 | true =>
 rw [hq] at hnu
 simp only [List.all_cons, List.all_nil, Bool.and_true, Bool.and_eq_true] at hq
 obtain ⟨q0, ra, rc, rd, rf, rg⟩ := hq
 obtain ⟨a, rfl⟩ := right_t ra
 obtain ⟨c, rfl⟩ := right_t rc
 obtain ⟨d, rfl⟩ := right_t rd
 obtain ⟨f, rfl⟩ := right_t rf
 obtain ⟨g, rfl⟩ := right_t rg
 obtain ⟨q, rfl⟩ := right_q q0
 have na := r3_of la
 have nc := r3_of lc
 have nd := r3_of ld
 have nf := r3_of lf
 have ng := r3_of lg
 have nq := brief_S2 h0
 have hza := fun W (_ : Below w.heap.size w W) => rzero_any a.t W
 have hzd := fun W (_ : Below w.heap.size w W) => rzero_any d.t W
 have hzg := fun W (_ : Below w.heap.size w W) => rzero_any g.t W
 have err17 : errZ [a.t, d.t, g.t] = 17 → ∀ W, Below w.heap.size w W → _ := fun hez W (hW : Below w.heap.size w W) => spierceR a c d f g q na nc nd nf ng nq 17 hez _ (fun _ => rfl) (fun h => absurd h (by decide)) (fun h => absurd h (by decide)) W (he.below hW)
 have td := fun W (hW : Below w.heap.size w W) => ldotR a d 60 (by omega) (by omega) (na.sz (by omega) (by omega)) (nd.sz (by omega) (by omega)) W (he.below hW)
 have tg := fun W (hW : Below w.heap.size w W) => ldotR a g 60 (by omega) (by omega) (na.sz (by omega) (by omega)) (ng.sz (by omega) (by omega)) W (he.below hW)
 cases ca : a.t.zero with
 | true =>
  rw [ca] at hza
  exact pierces_of (er := 17) (ok := false) (nu := true) (za := true) (zd := d.t.zero) (zg := g.t.zero) (td := true) (tg := true) (O1 := ⟨#[]⟩) (O2 := ⟨#[]⟩) (O3 := ⟨#[]⟩) (P := ⟨#[]⟩) (Q := ⟨#[]⟩) (H1 := ⟨#[]⟩) (H2 := ⟨#[]⟩) (H3 := ⟨#[]⟩) (SH1 := ⟨#[]⟩) (SH2 := ⟨#[]⟩) (SH3 := ⟨#[]⟩) (I1 := ⟨#[]⟩) (I2 := ⟨#[]⟩) (I3 := ⟨#[]⟩) (SI1 := ⟨#[]⟩) (SI2 := ⟨#[]⟩) (SI3 := ⟨#[]⟩) (X1 := ⟨#[]⟩) (X2 := ⟨#[]⟩) (X3 := ⟨#[]⟩) (Y1 := ⟨#[]⟩) (Y2 := ⟨#[]⟩) (Y3 := ⟨#[]⟩) w hm (f2 := fun _ _ _ => rfl) (h_kn := knw) (h_br := hbr) (h_nu := hnu) (h_pe := fun _ => err17 (by unfold errZ; rw [List.any_cons, ca]; rfl)) (h_za := fun _ => hza) (h_zd := fun _ => hzd) (h_zg := fun _ => hzg)
 | false =>
 rw [ca] at hza
 cases cd : d.t.zero with
 | true =>
  rw [cd] at hzd
  exact pierces_of (er := 17) (ok := false) (nu := true) (za := false) (zd := true) (zg := g.t.zero) (td := true) (tg := true) (O1 := ⟨#[]⟩) (O2 := ⟨#[]⟩) (O3 := ⟨#[]⟩) (P := ⟨#[]⟩) (Q := ⟨#[]⟩) (H1 := ⟨#[]⟩) (H2 := ⟨#[]⟩) (H3 := ⟨#[]⟩) (SH1 := ⟨#[]⟩) (SH2 := ⟨#[]⟩) (SH3 := ⟨#[]⟩) (I1 := ⟨#[]⟩) (I2 := ⟨#[]⟩) (I3 := ⟨#[]⟩) (SI1 := ⟨#[]⟩) (SI2 := ⟨#[]⟩) (SI3 := ⟨#[]⟩) (X1 := ⟨#[]⟩) (X2 := ⟨#[]⟩) (X3 := ⟨#[]⟩) (Y1 := ⟨#[]⟩) (Y2 := ⟨#[]⟩) (Y3 := ⟨#[]⟩) w hm (f3 := fun _ _ _ _ => rfl) (h_kn := knw) (h_br := hbr) (h_nu := hnu) (h_pe := fun _ => err17 (by unfold errZ; rw [List.any_cons, List.any_cons, ca, cd]; rfl)) (h_za := fun _ => hza) (h_zd := fun _ => hzd) (h_zg := fun _ => hzg)
 | false =>
 rw [cd] at hzd
 cases cg : g.t.zero with
 | true =>
  rw [cg] at hzg
  exact pierces_of (er := 17) (ok := false) (nu := true) (za := false) (zd := false) (zg := true) (td := true) (tg := true) (O1 := ⟨#[]⟩) (O2 := ⟨#[]⟩) (O3 := ⟨#[]⟩) (P := ⟨#[]⟩) (Q := ⟨#[]⟩) (H1 := ⟨#[]⟩) (H2 := ⟨#[]⟩) (H3 := ⟨#[]⟩) (SH1 := ⟨#[]⟩) (SH2 := ⟨#[]⟩) (SH3 := ⟨#[]⟩) (I1 := ⟨#[]⟩) (I2 := ⟨#[]⟩) (I3 := ⟨#[]⟩) (SI1 := ⟨#[]⟩) (SI2 := ⟨#[]⟩) (SI3 := ⟨#[]⟩) (X1 := ⟨#[]⟩) (X2 := ⟨#[]⟩) (X3 := ⟨#[]⟩) (Y1 := ⟨#[]⟩) (Y2 := ⟨#[]⟩) (Y3 := ⟨#[]⟩) w hm (f4 := fun _ _ _ _ _ => rfl) (h_kn := knw) (h_br := hbr) (h_nu := hnu) (h_pe := fun _ => err17 (by unfold errZ; rw [List.any_cons, List.any_cons, List.any_cons, ca, cd, cg]; rfl)) (h_za := fun _ => hza) (h_zd := fun _ => hzd) (h_zg := fun _ => hzg)
 | false =>
 rw [cg] at hzg
 have hez : errZ [a.t, d.t, g.t] = 0 := by unfold errZ; rw [List.any_cons, List.any_cons, List.any_cons, ca, cd, cg]; rfl
 have err18 : (dotR a d = 0 ∨ dotR a g = 0) → ∀ W, Below w.heap.size w W → _ := fun hd0 W (hW : Below w.heap.size w W) => spierceR a c d f g q na nc nd nf ng nq 0 hez _ (fun h => absurd rfl h) (fun _ _ => rfl) (fun _ h1 h2 => by rcases hd0 with h | h; exact absurd h h1; exact absurd h h2) W (he.below hW)
 by_cases h1 : dotR a d = 0
 ·exact pierces_of (er := 18) (ok := false) (nu := true) (za := false) (zd := false) (zg := false) (td := true) (tg := true) (O1 := ⟨#[]⟩) (O2 := ⟨#[]⟩) (O3 := ⟨#[]⟩) (H1 := ⟨#[]⟩) (H2 := ⟨#[]⟩) (H3 := ⟨#[]⟩) (SH1 := ⟨#[]⟩) (SH2 := ⟨#[]⟩) (SH3 := ⟨#[]⟩) (I1 := ⟨#[]⟩) (I2 := ⟨#[]⟩) (I3 := ⟨#[]⟩) (SI1 := ⟨#[]⟩) (SI2 := ⟨#[]⟩) (SI3 := ⟨#[]⟩) (X1 := ⟨#[]⟩) (X2 := ⟨#[]⟩) (X3 := ⟨#[]⟩) (Y1 := ⟨#[]⟩) (Y2 := ⟨#[]⟩) (Y3 := ⟨#[]⟩) w hm (f5 := fun _ _ _ _ _ => by rw [canonR_beq0]; exact decide_eq_true h1) (f9 := fun _ _ _ _ _ _ => rfl) (h_kn := knw) (h_br := hbr) (h_nu := hnu) (h_pe := fun _ => err18 (.inl h1)) (h_za := fun _ => hza) (h_zd := fun _ => hzd) (h_zg := fun _ => hzg) (h_td := fun _ _ _ _ => td) (h_tg := fun _ _ _ _ => tg)
 by_cases h2 : dotR a g = 0
 ·exact pierces_of (er := 18) (ok := false) (nu := true) (za := false) (zd := false) (zg := false) (td := false) (tg := true) (O1 := ⟨#[]⟩) (O2 := ⟨#[]⟩) (O3 := ⟨#[]⟩) (H1 := ⟨#[]⟩) (H2 := ⟨#[]⟩) (H3 := ⟨#[]⟩) (SH1 := ⟨#[]⟩) (SH2 := ⟨#[]⟩) (SH3 := ⟨#[]⟩) (I1 := ⟨#[]⟩) (I2 := ⟨#[]⟩) (I3 := ⟨#[]⟩) (SI1 := ⟨#[]⟩) (SI2 := ⟨#[]⟩) (SI3 := ⟨#[]⟩) (X1 := ⟨#[]⟩) (X2 := ⟨#[]⟩) (X3 := ⟨#[]⟩) (Y1 := ⟨#[]⟩) (Y2 := ⟨#[]⟩) (Y3 := ⟨#[]⟩) w hm (f6 := fun _ _ _ _ _ => by rw [canonR_beq0]; exact decide_eq_false h1) (f7 := fun _ _ _ _ _ _ => by rw [canonR_beq0]; exact decide_eq_true h2) (fa := fun _ _ _ _ _ _ _ => rfl) (h_kn := knw) (h_br := hbr) (h_nu := hnu) (h_pe := fun _ => err18 (.inr h2)) (h_za := fun _ => hza) (h_zd := fun _ => hzd) (h_zg := fun _ => hzg) (h_td := fun _ _ _ _ => td) (h_tg := fun _ _ _ _ => tg)
 have po := fun W (hW : Below w.heap.size w W) => spierceR a c d f g q na nc nd nf ng nq 0 hez _ (fun h => absurd rfl h) (fun _ h => by rcases h with h | h; exact absurd h h1; exact absurd h h2) (fun _ _ _ => rfl) W (he.below hW)
 obtain ⟨o1, o2⟩ := canonR_ne (pierceV a q c d f g).x
 have one : ∀ (c d : V3), R3 c 20 18 → R3 d 20 18 → dotR a d ≠ 0 → ∀ W, Below w.heap.size w W →
   (Calls Tryz.prog 17 #[.agg #[.string a.t.x, .string a.t.y, .string a.t.z], .agg #[.string c.t.x, .string c.t.y, .string c.t.z]] W fun e w' => e = .returned (.string (canonR (dotR a c))) ∧ Below W.heap.size W w') ∧
   (Calls Tryz.prog 20 #[.string (canonR q), .string (canonR (dotR a c))] W fun e w' => e = .returned (.string (canonR (q - dotR a c))) ∧ Below W.heap.size W w') ∧
   (Calls Tryz.prog 22 #[.string (canonR (q - dotR a c)), .string (canonR (dotR a d))] W fun e w' => e = .returned (.string (canonR ((q - dotR a c) / dotR a d))) ∧ Below W.heap.size W w') ∧
   (Calls Tryz.prog 24 #[.agg #[.string d.t.x, .string d.t.y, .string d.t.z], .string (canonR ((q - dotR a c) / dotR a d))] W fun e w' => e = .returned (.agg #[.string (d.scale ((q - dotR a c) / dotR a d)).t.x, .string (d.scale ((q - dotR a c) / dotR a d)).t.y, .string (d.scale ((q - dotR a c) / dotR a d)).t.z]) ∧ Below W.heap.size W w') ∧
   (Calls Tryz.prog 23 #[.agg #[.string c.t.x, .string c.t.y, .string c.t.z], .agg #[.string (d.scale ((q - dotR a c) / dotR a d)).t.x, .string (d.scale ((q - dotR a c) / dotR a d)).t.y, .string (d.scale ((q - dotR a c) / dotR a d)).t.z]] W fun e w' => e = .returned (.agg #[.string (placeR a q c d).t.x, .string (placeR a q c d).t.y, .string (placeR a q c d).t.z]) ∧ Below W.heap.size W w') ∧
   (Calls Tryz.prog 25 #[.agg #[.string a.t.x, .string a.t.y, .string a.t.z, .string (canonR q)], .agg #[.string (placeR a q c d).t.x, .string (placeR a q c d).t.y, .string (placeR a q c d).t.z]] W fun e w' => e = .returned (.bool true) ∧ Below W.heap.size W w') := by
  intro c d nc nd h1 W hW
  have hW' := he.below hW
  have dc := na.dot nc
  have dd := na.dot nd
  have q1 := nq.sub dc 47 (by omega) (by omega)
  have k1 := q1.div dd h1
  have p1 := place_size na nc nd nq h1
  exact ⟨ldotR a c 60 (by omega) (by omega) (na.sz (by omega) (by omega)) (nc.sz (by omega) (by omega)) W hW', rsubR_any q (dotR a c) 60 (by omega) (by omega) (nq.sz (by omega) (by omega)) (dc.sz (by omega) (by omega)) W hW',
   rdivR_any (q - dotR a c) (dotR a d) 60 (by omega) (by omega) (q1.sz (by omega) (by omega)) (dd.sz (by omega) (by omega)) h1 W hW', rscale3R d 120 (by omega) _ (by omega) (nd.sz (by omega) (by omega)) (k1.sz (by omega) (by omega)) W hW',
   radd3R c (d.scale ((q - dotR a c) / dotR a d)) 120 (by omega) (by omega) (nc.sz (by omega) (by omega)) ((nd.scale k1).sz (by omega) (by omega)) W hW', onR a (placeR a q c d) q 80 (by omega) (by omega) (na.sz (by omega) (by omega)) ⟨p1.1.sz (by omega) (by omega), p1.2.1.sz (by omega) (by omega), p1.2.2.sz (by omega) (by omega)⟩ (place_dot a q c d h1) W hW'⟩
 have hh := one c d nc nd h1
 have hi := one f g nf ng h2
 have p1 := place_size na nc nd nq h1
 have p2 := place_size na nf ng nq h2
 have df := fun W (hW : Below w.heap.size w W) => rsub3R (placeR a q f g) (placeR a q c d) 80 (by omega) (by omega) ⟨p2.1.sz (by omega) (by omega), p2.2.1.sz (by omega) (by omega), p2.2.2.sz (by omega) (by omega)⟩ ⟨p1.1.sz (by omega) (by omega), p1.2.1.sz (by omega) (by omega), p1.2.2.sz (by omega) (by omega)⟩ W (he.below hW)
 exact pierces_of (er := 0) (ok := true) (nu := true) (za := false) (zd := false) (zg := false) (td := false) (tg := false) w hm (g1 := fun _ => o1) (g2 := fun _ => o2) (f6 := fun _ _ _ _ _ => by rw [canonR_beq0]; exact decide_eq_false h1) (f8 := fun _ _ _ _ _ _ => by rw [canonR_beq0]; exact decide_eq_false h2) (h_kn := knw) (h_br := hbr) (h_nu := hnu) (h_po := fun _ => po) (h_za := fun _ => hza) (h_zd := fun _ => hzd) (h_zg := fun _ => hzg) (h_td := fun _ _ _ _ => td) (h_tg := fun _ _ _ _ => tg)
  (h_dh := fun _ _ _ _ _ W hW => (hh W hW).1) (h_sh := fun _ _ _ _ _ W hW => (hh W hW).2.1) (h_qh := fun _ _ _ _ _ W hW => (hh W hW).2.2.1) (h_xh := fun _ _ _ _ _ W hW => (hh W hW).2.2.2.1) (h_ah := fun _ _ _ _ _ W hW => (hh W hW).2.2.2.2.1) (h_nh := fun _ _ _ _ _ W hW => (hh W hW).2.2.2.2.2)
  (h_di := fun _ _ _ _ _ W hW => (hi W hW).1) (h_si := fun _ _ _ _ _ W hW => (hi W hW).2.1) (h_qi := fun _ _ _ _ _ W hW => (hi W hW).2.2.1) (h_xi := fun _ _ _ _ _ W hW => (hi W hW).2.2.2.1) (h_ai := fun _ _ _ _ _ W hW => (hi W hW).2.2.2.2.1) (h_ni := fun _ _ _ _ _ W hW => (hi W hW).2.2.2.2.2)
  (h_df := fun _ _ _ _ _ => df)
theorem piercesC (A1 A2 A3 A0 C1 C2 C3 D1 D2 D3 F1 F2 F3 G1 G2 G3 : ByteArray) (w : World) (he : Env w) :
  Calls Tryz.prog 4 #[.agg #[.string A1, .string A2, .string A3, .string A0], .agg #[.string C1, .string C2, .string C3, .string D1, .string D2, .string D3], .agg #[.string F1, .string F2, .string F3, .string G1, .string G2, .string G3]] w fun e w' => e = .returned (.bool true) ∧ Below w.heap.size w w' :=
 pierces_walk ⟨A1, A2, A3⟩ ⟨C1, C2, C3⟩ ⟨D1, D2, D3⟩ ⟨F1, F2, F3⟩ ⟨G1, G2, G3⟩ A0 w he

end Go.Proofs.YtopilnlniidejaaGreatDoor
