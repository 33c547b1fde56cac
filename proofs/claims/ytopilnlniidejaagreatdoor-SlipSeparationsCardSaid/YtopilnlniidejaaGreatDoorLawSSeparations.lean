/- SlipSeparations returns true. -/
import Derived.Test.YtopilnlniidejaaGreatDoorSlipJ7s
import Derived.Test.YtopilnlniidejaaGreatDoorSlip9F
namespace Go.Proofs.YtopilnlniidejaaGreatDoor
set_option linter.all false
open Go.RowKit

theorem emptyT : ((⟨#[]⟩ : ByteArray).toList == []) = true ∧ (⟨#[]⟩ : ByteArray).toList.isEmpty = true := by
 rw [ByteArray.toList_eq]
 exact ⟨rfl, rfl⟩
theorem add_back (a b : Rat) : b = a + b - a := by grind
theorem half_more (a b : Rat) : ¬ b = a + b + half - a := fun h => by
 have h0 : half ≠ 0 := by decide
 generalize half = k at *
 grind
theorem seps_walk (x y z t s d : Int) (sl sp : Bool) (hx : -128 ≤ x ∧ x ≤ 127) (hy : -128 ≤ y ∧ y ≤ 127) (hz : -128 ≤ z ∧ z ≤ 127) (ht : -128 ≤ t ∧ t ≤ 127) (hs : -128 ≤ s ∧ s ≤ 127) (hd : -128 ≤ d ∧ d ≤ 127) (C D : T3) (C0 : ByteArray) (w : World) (he : Env w) :
  Calls Tryz.prog 9 #[.agg #[.int .i8 x, .int .i8 y, .int .i8 z, .int .i8 t, .int .i8 s, .int .i8 d, .bool sl, .bool sp], .agg #[.string C.x, .string C.y, .string C.z, .string C0], .agg #[.string D.x, .string D.y, .string D.z]] w fun e w' => e = .returned (.bool true) ∧ Below w.heap.size w w' := by
 obtain ⟨n, v, q, ok, hmk⟩ := make42 x y z t s d sl sp hx hy hz ht hs hd
 have knw := fun W (hW : Below w.heap.size w W) => known42 W (he.below hW)
 have mk := fun W (hW : Below w.heap.size w W) => hmk W (he.below hW)
 have hbr := fun W b (hb : Blk W b #[.string C.x, .string C.y, .string C.z, .string D.x, .string D.y, .string D.z] 24) (_ : Below w.heap.size w W) => lbrief_any [C, D] (by simp) W b hb
 cases hl : ([C, D].all fun v => !v.long) with
 | false =>
  rw [hl] at hbr
  exact seps_long1 _ _ _ _ _ _ _ x y z t s d sl sp w knw hbr
 | true =>
 rw [hl] at hbr
 cases hm1 : decide ((8 : Int) < (C0.size : Int)) with
 | true => exact seps_long2 _ _ _ _ _ _ _ x y z t s d sl sp w hm1 knw hbr
 | false =>
 have h1 : C0.size ≤ 8 := by
  rw [decide_eq_false_iff_not] at hm1
  omega
 simp only [List.all_cons, List.all_nil, Bool.and_true, Bool.and_eq_true, Bool.not_eq_true'] at hl
 obtain ⟨lc, ld⟩ := hl
 have hnu := fun W b c (hb : Blk W b #[.string C.x, .string C.y, .string C.z] 24) (hc : Blk W c #[.string C0] 22) (hW : Below w.heap.size w W) =>
  lnumbers_any [C] [C0] (fun v hv => by simp at hv; subst hv; exact smallT_of lc) (fun t ht => by simp at ht; subst ht; omega) (by simp) (by simp) W b c hb hc (he.below hW)
 have hzc := fun W (_ : Below w.heap.size w W) => rzero_any C W
 have hzd := fun W (_ : Below w.heap.size w W) => rzero_any D W
 have hrd := fun W (hW : Below w.heap.size w W) => rright3_any D (smallT_of ld) W (he.below hW)
 have num : ((C.right && rightQ C0) && D.right) = false → ∀ W, Below w.heap.size w W → _ := fun hb W (hW : Below w.heap.size w W) => ssep_num ok C D C0 (smallT_of lc) (smallT_of ld) (by omega) hb W (he.below hW)
 cases hq : ([C0].all rightQ && [C].all T3.right) with
 | false =>
  rw [hq] at hnu
  have hbad : ((C.right && rightQ C0) && D.right) = false := by
   simp only [List.all_cons, List.all_nil, Bool.and_true] at hq
   revert hq
   cases rightQ C0 <;> cases C.right <;> cases D.right <;> decide
  exact seps_of (er := 2) (Qk := ⟨#[]⟩) (nr := false) (td := true) (P := ⟨#[]⟩) (M := ⟨#[]⟩) (N := ⟨#[]⟩) (Q := ⟨#[]⟩) w hm1 (ma := fun _ => emptyT.1) (mae := fun _ => emptyT.2) (na := fun _ => rfl) (h_kn := knw) (h_br := hbr) (h_mk := mk) (h_nu := hnu) (h_zc := hzc) (h_zd := hzd) (h_rd := hrd) (h_se := num hbad)
 | true =>
 rw [hq] at hnu
 simp only [List.all_cons, List.all_nil, Bool.and_true, Bool.and_eq_true] at hq
 obtain ⟨q1, rc⟩ := hq
 obtain ⟨c, rfl⟩ := right_t rc
 obtain ⟨qc, rfl⟩ := right_q q1
 have nc := r3_of lc
 have bc := brief_S2 h1
 have bad : D.right = false → ((c.t.right && rightQ (canonR qc)) && D.right) = false := fun h => by rw [h, Bool.and_false]
 cases cc : c.t.zero with
 | true =>
  rw [cc] at hzc
  cases cr : D.right with
  | false =>
   rw [cr] at hrd
   exact seps_of (er := 2) (Qk := ⟨#[]⟩) (nr := true) (td := true) (P := ⟨#[]⟩) (M := ⟨#[]⟩) (N := ⟨#[]⟩) (Q := ⟨#[]⟩) w hm1 (mb := fun _ _ _ => emptyT.1) (mbe := fun _ _ _ => emptyT.2) (nb := fun _ _ _ => rfl) (h_kn := knw) (h_br := hbr) (h_mk := mk) (h_nu := hnu) (h_zc := hzc) (h_zd := hzd) (h_rd := hrd) (h_se := num (bad cr))
  | true =>
   rw [cr] at hrd
   obtain ⟨d', rfl⟩ := right_t cr
   exact seps_of (er := 17) (Qk := ⟨#[]⟩) (nr := true) (td := true) (P := ⟨#[]⟩) (M := ⟨#[]⟩) (N := ⟨#[]⟩) (Q := ⟨#[]⟩) w hm1 (mc := fun _ _ _ => emptyT.1) (mce := fun _ _ _ => emptyT.2) (nc := fun _ _ _ => rfl) (h_kn := knw) (h_br := hbr) (h_mk := mk) (h_nu := hnu) (h_zc := hzc) (h_zd := hzd) (h_rd := hrd) (h_se := fun W hW => ssepR ok c d' qc nc (r3_of ld) bc 17 (by unfold errZ; rw [List.any_cons, List.any_cons, ok.nz, cc]; rfl) _ (fun _ => rfl) (fun h => absurd h (by decide)) (fun h => absurd h (by decide)) W (he.below hW))
 | false =>
 rw [cc] at hzc
 have d1 := nc.dot ok.hs
 have m1 := bc.add d1 37 (by omega) (by omega)
 have hh : S2 half 1 1 := ⟨by decide, by decide⟩
 have m2 := m1.add hh 39 (by omega) (by omega)
 have dp := fun W (hW : Below w.heap.size w W) => ldotR c v 60 (by omega) (by omega) (nc.sz (by omega) (by omega)) (ok.hs.sz (by omega) (by omega)) W (he.below hW)
 have am := fun W (hW : Below w.heap.size w W) => raddR_any qc (dotR c v) 60 (by omega) (by omega) (bc.sz (by omega) (by omega)) (d1.sz (by omega) (by omega)) W (he.below hW)
 have an := fun W (hW : Below w.heap.size w W) => raddR_any (qc + dotR c v) half 60 (by omega) (by omega) (m1.sz (by omega) (by omega)) (hh.sz (by omega) (by omega)) W (he.below hW)
 have x1 := fun W (hW : Below w.heap.size w W) => sexplR ok c qc (qc + dotR c v) nc bc (m1.mono (by omega) (by omega)) cc W (he.below hW)
 have x2 := fun W (hW : Below w.heap.size w W) => sexplR ok c qc (qc + dotR c v + half) nc bc (m2.mono (by omega) (by omega)) cc W (he.below hW)
 rw [decide_eq_true (add_back qc (dotR c v))] at x1
 rw [decide_eq_false (half_more qc (dotR c v))] at x2
 rw [k_half] at an
 cases cr : D.right with
 | false =>
  rw [cr] at hrd
  exact seps_of (er := 2) (Qk := ⟨#[]⟩) (Q := ⟨#[]⟩) (nr := true) (td := true) w hm1 (md := fun _ _ _ => emptyT.1) (mde := fun _ _ _ => emptyT.2) (nd := fun _ _ _ => rfl) (h_kn := knw) (h_br := hbr) (h_mk := mk) (h_nu := hnu) (h_zc := hzc) (h_zd := hzd) (h_rd := hrd) (h_se := num (bad cr)) (h_dp := fun _ _ => dp) (h_am := fun _ _ => am) (h_an := fun _ _ => an) (h_e1 := fun _ _ => x1) (h_e2 := fun _ _ => x2)
 | true =>
 rw [cr] at hrd
 obtain ⟨d', rfl⟩ := right_t cr
 have nd := r3_of ld
 have dq := fun W (hW : Below w.heap.size w W) => ldotR c d' 60 (by omega) (by omega) (nc.sz (by omega) (by omega)) (nd.sz (by omega) (by omega)) W (he.below hW)
 cases cd : d'.t.zero with
 | true =>
  rw [cd] at hzd
  exact seps_of (er := 17) (Qk := ⟨#[]⟩) (Q := ⟨#[]⟩) (nr := true) (td := true) w hm1 (me := fun _ _ _ _ => emptyT.1) (mee := fun _ _ _ _ => emptyT.2) (ne := fun _ _ _ _ => rfl) (h_kn := knw) (h_br := hbr) (h_mk := mk) (h_nu := hnu) (h_zc := hzc) (h_zd := hzd) (h_rd := hrd) (h_dp := fun _ _ => dp) (h_am := fun _ _ => am) (h_an := fun _ _ => an) (h_e1 := fun _ _ => x1) (h_e2 := fun _ _ => x2) (h_se := fun W hW => ssepR ok c d' qc nc nd bc 17 (by unfold errZ; rw [List.any_cons, List.any_cons, List.any_cons, ok.nz, cc, cd]; rfl) _ (fun _ => rfl) (fun h => absurd h (by decide)) (fun h => absurd h (by decide)) W (he.below hW))
 | false =>
 rw [cd] at hzd
 have hez : errZ [n.t, c.t, d'.t] = 0 := by unfold errZ; rw [List.any_cons, List.any_cons, List.any_cons, ok.nz, cc, cd]; rfl
 by_cases hD : dotR c d' = 0
 ·exact seps_of (er := 18) (Qk := ⟨#[]⟩) (nr := true) (td := true) w hm1 (mf := fun _ _ _ _ _ => emptyT.1) (mfe := fun _ _ _ _ _ => emptyT.2) (nf := fun _ _ _ _ _ => rfl) (t1 := fun _ _ _ _ _ => by rw [canonR_beq0]; exact decide_eq_true hD) (h_kn := knw) (h_br := hbr) (h_mk := mk) (h_nu := hnu) (h_zc := hzc) (h_zd := hzd) (h_rd := hrd) (h_dp := fun _ _ => dp) (h_am := fun _ _ => am) (h_an := fun _ _ => an) (h_e1 := fun _ _ => x1) (h_e2 := fun _ _ => x2) (h_dq := fun _ _ _ _ => dq) (h_se := fun W hW => ssepR ok c d' qc nc nd bc 0 hez _ (fun h => absurd rfl h) (fun _ _ => rfl) (fun _ h => absurd hD h) W (he.below hW))
 ·exact seps_of (er := 0) (nr := true) (td := false) w hm1 (ng := fun _ _ _ _ _ => rfl) (t2 := fun _ _ _ _ _ => by rw [canonR_beq0]; exact decide_eq_false hD) (h_kn := knw) (h_br := hbr) (h_mk := mk) (h_nu := hnu) (h_zc := hzc) (h_zd := hzd) (h_rd := hrd) (h_dp := fun _ _ => dp) (h_am := fun _ _ => am) (h_an := fun _ _ => an) (h_e1 := fun _ _ => x1) (h_e2 := fun _ _ => x2) (h_dq := fun _ _ _ _ => dq) (h_se := fun W hW => ssepR ok c d' qc nc nd bc 0 hez _ (fun h => absurd rfl h) (fun _ h => absurd h hD) (fun _ _ => rfl) W (he.below hW))
   (h_dv := fun _ _ _ _ _ W hW => rdivR_any (dotR c v) (dotR c d') 60 (by omega) (by omega) (d1.sz (by omega) (by omega)) ((nc.dot nd).sz (by omega) (by omega)) hD W (he.below hW))
theorem sepsC (x y z t s d : Int) (sl sp : Bool) (hx : -128 ≤ x ∧ x ≤ 127) (hy : -128 ≤ y ∧ y ≤ 127) (hz : -128 ≤ z ∧ z ≤ 127) (ht : -128 ≤ t ∧ t ≤ 127) (hs : -128 ≤ s ∧ s ≤ 127) (hd : -128 ≤ d ∧ d ≤ 127) (C1 C2 C3 C0 D1 D2 D3 : ByteArray) (w : World) (he : Env w) :
  Calls Tryz.prog 9 #[.agg #[.int .i8 x, .int .i8 y, .int .i8 z, .int .i8 t, .int .i8 s, .int .i8 d, .bool sl, .bool sp], .agg #[.string C1, .string C2, .string C3, .string C0], .agg #[.string D1, .string D2, .string D3]] w fun e w' => e = .returned (.bool true) ∧ Below w.heap.size w w' :=
 seps_walk x y z t s d sl sp hx hy hz ht hs hd ⟨C1, C2, C3⟩ ⟨D1, D2, D3⟩ C0 w he

end Go.Proofs.YtopilnlniidejaaGreatDoor
