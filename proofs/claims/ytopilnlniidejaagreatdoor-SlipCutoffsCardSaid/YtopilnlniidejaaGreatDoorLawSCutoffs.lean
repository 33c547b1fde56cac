/- SlipCutoffs returns true. -/
import Derived.Test.YtopilnlniidejaaGreatDoorSlipJ7c
import Derived.Test.YtopilnlniidejaaGreatDoorSlip9E
namespace Go.Proofs.YtopilnlniidejaaGreatDoor
set_option linter.all false
open Go.RowKit

theorem cutoffs_walk (x y z t s d : Int) (sl sp : Bool) (hx : -128 ≤ x ∧ x ≤ 127) (hy : -128 ≤ y ∧ y ≤ 127) (hz : -128 ≤ z ∧ z ≤ 127) (ht : -128 ≤ t ∧ t ≤ 127) (hs : -128 ≤ s ∧ s ≤ 127) (hd : -128 ≤ d ∧ d ≤ 127) (C D : T3) (C0 D0 : ByteArray) (w : World) (he : Env w) :
  Calls Tryz.prog 8 #[.agg #[.int .i8 x, .int .i8 y, .int .i8 z, .int .i8 t, .int .i8 s, .int .i8 d, .bool sl, .bool sp], .agg #[.string C.x, .string C.y, .string C.z, .string C0], .agg #[.string D.x, .string D.y, .string D.z, .string D0]] w fun e w' => e = .returned (.bool true) ∧ Below w.heap.size w w' := by
 obtain ⟨n, v, q, ok, hmk⟩ := make42 x y z t s d sl sp hx hy hz ht hs hd
 have knw := fun W (hW : Below w.heap.size w W) => known42 W (he.below hW)
 have mk := fun W (hW : Below w.heap.size w W) => hmk W (he.below hW)
 have hbr := fun W b (hb : Blk W b #[.string C.x, .string C.y, .string C.z, .string D.x, .string D.y, .string D.z] 24) (_ : Below w.heap.size w W) => lbrief_any [C, D] (by simp) W b hb
 cases hl : ([C, D].all fun v => !v.long) with
 | false =>
  rw [hl] at hbr
  exact cutoffs_long1 _ _ _ _ _ _ _ _ x y z t s d sl sp w knw hbr
 | true =>
 rw [hl] at hbr
 cases hm1 : decide ((8 : Int) < (C0.size : Int)) with
 | true => exact cutoffs_long2 _ _ _ _ _ _ _ _ x y z t s d sl sp w hm1 knw hbr
 | false =>
 cases hm2 : decide ((8 : Int) < (D0.size : Int)) with
 | true => exact cutoffs_long3 _ _ _ _ _ _ _ _ x y z t s d sl sp w hm1 hm2 knw hbr
 | false =>
 have h1 : C0.size ≤ 8 := by
  rw [decide_eq_false_iff_not] at hm1
  omega
 have h2 : D0.size ≤ 8 := by
  rw [decide_eq_false_iff_not] at hm2
  omega
 simp only [List.all_cons, List.all_nil, Bool.and_true, Bool.and_eq_true, Bool.not_eq_true'] at hl
 obtain ⟨lc, ld⟩ := hl
 have hnu := fun W b c (hb : Blk W b #[.string C.x, .string C.y, .string C.z, .string D.x, .string D.y, .string D.z] 24) (hc : Blk W c #[.string C0, .string D0] 22) (hW : Below w.heap.size w W) =>
  lnumbers_any [C, D] [C0, D0] (fun v hv => by simp at hv; rcases hv with rfl | rfl; exact smallT_of lc; exact smallT_of ld) (fun t ht => by simp at ht; rcases ht with rfl | rfl <;> omega) (by simp) (by simp) W b c hb hc (he.below hW)
 have hzc := fun W (_ : Below w.heap.size w W) => rzero_any C W
 have hzd := fun W (_ : Below w.heap.size w W) => rzero_any D W
 cases hq : ([C0, D0].all rightQ && [C, D].all T3.right) with
 | false =>
  rw [hq] at hnu
  have hbad : ((C.right && rightQ C0) && (D.right && rightQ D0)) = false := by
   simp only [List.all_cons, List.all_nil, Bool.and_true] at hq
   revert hq
   cases rightQ C0 <;> cases rightQ D0 <;> cases C.right <;> cases D.right <;> decide
  exact cutoffs_of (er := 2) (ok := false) (nu := false) (td := true) (T := ⟨#[]⟩) (P := ⟨#[]⟩) (M := ⟨#[]⟩) (X1 := ⟨#[]⟩) (X2 := ⟨#[]⟩) (X3 := ⟨#[]⟩) (O1 := ⟨#[]⟩) (O2 := ⟨#[]⟩) (O3 := ⟨#[]⟩) (I1 := ⟨#[]⟩) (I2 := ⟨#[]⟩) (I3 := ⟨#[]⟩) w hm1 hm2 (f1 := fun _ _ => rfl) (h_kn := knw) (h_br := hbr) (h_mk := mk) (h_nu := hnu) (h_zc := hzc) (h_zd := hzd) (h_ce := fun _ W hW => scut_num ok C D C0 D0 (smallT_of lc) (smallT_of ld) (by omega) (by omega) hbad W (he.below hW))
 | true =>
 rw [hq] at hnu
 simp only [List.all_cons, List.all_nil, Bool.and_true, Bool.and_eq_true] at hq
 obtain ⟨⟨q1, q2⟩, rc, rd⟩ := hq
 obtain ⟨c, rfl⟩ := right_t rc
 obtain ⟨d', rfl⟩ := right_t rd
 obtain ⟨qc, rfl⟩ := right_q q1
 obtain ⟨qd, rfl⟩ := right_q q2
 have nc := r3_of lc
 have nd := r3_of ld
 have bc := brief_S2 h1
 have bd := brief_S2 h2
 have err17 : errZ [n.t, c.t, d'.t] = 17 → ∀ W, Below w.heap.size w W → _ := fun hez W (hW : Below w.heap.size w W) => scutR ok c d' qc qd nc nd bc bd 17 hez _ (fun _ => rfl) (fun h => absurd h (by decide)) (fun h => absurd h (by decide)) W (he.below hW)
 have cx := fun W (hW : Below w.heap.size w W) => rcrossR c d' 60 (by omega) (by omega) (nc.sz (by omega) (by omega)) (nd.sz (by omega) (by omega)) W (he.below hW)
 have dx := fun W (hW : Below w.heap.size w W) => ldotR n (crossR c d') 60 (by omega) (by omega) (ok.hn.sz (by omega) (by omega)) ((nc.cross nd).sz (by omega) (by omega)) W (he.below hW)
 cases cc : c.t.zero with
 | true =>
  rw [cc] at hzc
  exact cutoffs_of (er := 17) (ok := false) (nu := true) (td := true) (T := ⟨#[]⟩) (P := ⟨#[]⟩) (M := ⟨#[]⟩) (X1 := ⟨#[]⟩) (X2 := ⟨#[]⟩) (X3 := ⟨#[]⟩) (O1 := ⟨#[]⟩) (O2 := ⟨#[]⟩) (O3 := ⟨#[]⟩) (I1 := ⟨#[]⟩) (I2 := ⟨#[]⟩) (I3 := ⟨#[]⟩) w hm1 hm2 (f2 := fun _ _ _ => rfl) (h_kn := knw) (h_br := hbr) (h_mk := mk) (h_nu := hnu) (h_zc := hzc) (h_zd := hzd) (h_ce := fun _ => err17 (by unfold errZ; rw [List.any_cons, List.any_cons, ok.nz, cc]; rfl))
 | false =>
 rw [cc] at hzc
 cases cd : d'.t.zero with
 | true =>
  rw [cd] at hzd
  exact cutoffs_of (er := 17) (ok := false) (nu := true) (td := true) (T := ⟨#[]⟩) (P := ⟨#[]⟩) (M := ⟨#[]⟩) (X1 := ⟨#[]⟩) (X2 := ⟨#[]⟩) (X3 := ⟨#[]⟩) (O1 := ⟨#[]⟩) (O2 := ⟨#[]⟩) (O3 := ⟨#[]⟩) (I1 := ⟨#[]⟩) (I2 := ⟨#[]⟩) (I3 := ⟨#[]⟩) w hm1 hm2 (f3 := fun _ _ _ _ => rfl) (h_kn := knw) (h_br := hbr) (h_mk := mk) (h_nu := hnu) (h_zc := hzc) (h_zd := hzd) (h_ce := fun _ => err17 (by unfold errZ; rw [List.any_cons, List.any_cons, List.any_cons, ok.nz, cc, cd]; rfl))
 | false =>
 rw [cd] at hzd
 have hez : errZ [n.t, c.t, d'.t] = 0 := by unfold errZ; rw [List.any_cons, List.any_cons, List.any_cons, ok.nz, cc, cd]; rfl
 by_cases hD : dotR n (crossR c d') = 0
 ·exact cutoffs_of (er := 18) (ok := false) (nu := true) (td := true) (P := ⟨#[]⟩) (M := ⟨#[]⟩) (O1 := ⟨#[]⟩) (O2 := ⟨#[]⟩) (O3 := ⟨#[]⟩) (I1 := ⟨#[]⟩) (I2 := ⟨#[]⟩) (I3 := ⟨#[]⟩) w hm1 hm2 (f4 := fun _ _ _ _ => by rw [canonR_beq0]; exact decide_eq_true hD) (f6 := fun _ _ _ _ _ => rfl) (h_kn := knw) (h_br := hbr) (h_mk := mk) (h_nu := hnu) (h_zc := hzc) (h_zd := hzd) (h_cx := fun _ _ _ => cx) (h_dx := fun _ _ _ => dx)
   (h_ce := fun _ W hW => scutR ok c d' qc qd nc nd bc bd 0 hez _ (fun h => absurd rfl h) (fun _ _ => rfl) (fun _ h => absurd hD h) W (he.below hW))
 ·obtain ⟨t1, t2⟩ := cut_size ok c d' qc qd nc nd bc bd hD
  have m := moved_size ok c d' qc qd nc nd bc bd
  have y1 := right_s3 t1 (by omega) (by omega)
  have y2 := right_s3 t2 (by omega) (by omega)
  obtain ⟨u0, u1, u2⟩ := meet_dot n c d' q qc qd hD
  obtain ⟨v0, v1, v2⟩ := meet_dot n c d' q (qc + dotR c v) qd hD
  obtain ⟨o1, o2⟩ := canonR_ne (meetR n c d' q qc qd).x
  have co := fun W (hW : Below w.heap.size w W) => scutR ok c d' qc qd nc nd bc bd 0 hez _ (fun h => absurd rfl h) (fun _ h => absurd h hD) (fun _ _ => rfl) W (he.below hW)
  have z1 : Sz3 (meetR n c d' q qc qd) 170 := ⟨t1.1.sz (by omega) (by omega), t1.2.1.sz (by omega) (by omega), t1.2.2.sz (by omega) (by omega)⟩
  have z2 : Sz3 (meetR n c d' q (qc + dotR c v) qd) 170 := ⟨t2.1.sz (by omega) (by omega), t2.2.1.sz (by omega) (by omega), t2.2.2.sz (by omega) (by omega)⟩
  have zn : Sz3 n 170 := ok.hn.sz (by omega) (by omega)
  have zc : Sz3 c 170 := nc.sz (by omega) (by omega)
  have zd : Sz3 d' 170 := nd.sz (by omega) (by omega)
  have on := fun (a p : V3) (k : Rat) (h1 : Sz3 a 170) (h2 : Sz3 p 170) (h : dotR a p = k) W (hW : Below w.heap.size w W) => onR a p k 170 (by omega) (by omega) h1 h2 h W (he.below hW)
  exact cutoffs_of (er := 0) (ok := true) (nu := true) (td := false) w hm1 hm2 (g1 := fun _ => o1) (g2 := fun _ => o2) (f5 := fun _ _ _ _ => by rw [canonR_beq0]; exact decide_eq_false hD) (h_kn := knw) (h_br := hbr) (h_mk := mk) (h_nu := hnu) (h_zc := hzc) (h_zd := hzd) (h_cx := fun _ _ _ => cx) (h_dx := fun _ _ _ => dx) (h_co := fun _ => co)
   (h_ds := fun _ _ _ _ W hW => ldotR c v 60 (by omega) (by omega) (nc.sz (by omega) (by omega)) (ok.hs.sz (by omega) (by omega)) W (he.below hW)) (h_ad := fun _ _ _ _ W hW => raddR_any qc (dotR c v) 60 (by omega) (by omega) (bc.sz (by omega) (by omega)) (m.1.sz (by omega) (by omega)) W (he.below hW))
   (h_ro := fun _ _ _ _ W hW => by have := rright3_any (meetR n c d' q qc qd).t y1.2 W (he.below hW); rw [y1.1] at this; exact this) (h_ri := fun _ _ _ _ W hW => by have := rright3_any (meetR n c d' q (qc + dotR c v) qd).t y2.2 W (he.below hW); rw [y2.1] at this; exact this)
   (h_o1 := fun _ _ _ _ => on n _ q zn z1 u0) (h_o2 := fun _ _ _ _ => on c _ qc zc z1 u1) (h_o3 := fun _ _ _ _ => on d' _ qd zd z1 u2) (h_o4 := fun _ _ _ _ => on n _ q zn z2 v0) (h_o5 := fun _ _ _ _ => on c _ _ zc z2 v1) (h_o6 := fun _ _ _ _ => on d' _ qd zd z2 v2)
theorem cutoffsC (x y z t s d : Int) (sl sp : Bool) (hx : -128 ≤ x ∧ x ≤ 127) (hy : -128 ≤ y ∧ y ≤ 127) (hz : -128 ≤ z ∧ z ≤ 127) (ht : -128 ≤ t ∧ t ≤ 127) (hs : -128 ≤ s ∧ s ≤ 127) (hd : -128 ≤ d ∧ d ≤ 127) (C1 C2 C3 C0 D1 D2 D3 D0 : ByteArray) (w : World) (he : Env w) :
  Calls Tryz.prog 8 #[.agg #[.int .i8 x, .int .i8 y, .int .i8 z, .int .i8 t, .int .i8 s, .int .i8 d, .bool sl, .bool sp], .agg #[.string C1, .string C2, .string C3, .string C0], .agg #[.string D1, .string D2, .string D3, .string D0]] w fun e w' => e = .returned (.bool true) ∧ Below w.heap.size w w' :=
 cutoffs_walk x y z t s d sl sp hx hy hz ht hs hd ⟨C1, C2, C3⟩ ⟨D1, D2, D3⟩ C0 D0 w he

end Go.Proofs.YtopilnlniidejaaGreatDoor
