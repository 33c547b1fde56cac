/- Separation and Explains of the faults that plans describe. -/
import Derived.Test.YtopilnlniidejaaGreatDoorSlipJ7
import Derived.Test.YtopilnlniidejaaGreatDoorSlipE
namespace Go.Proofs.YtopilnlniidejaaGreatDoor
set_option linter.all false
open Go.RowKit

section
variable {n s : V3} {q : Rat} (h : FaultOk n s q)
include h
theorem ssep_num (C D : T3) (C0 : ByteArray) (hc : C.small) (hd : D.small) (h1 : C0.size ≤ 1000000) (hb : ((C.right && rightQ C0) && D.right) = false) (w : World) (he : Env w) :
  Calls Tryz.prog 42 #[.agg #[.string n.t.x, .string n.t.y, .string n.t.z, .string (canonR q), .string s.t.x, .string s.t.y, .string s.t.z], .agg #[.string C.x, .string C.y, .string C.z, .string C0], .agg #[.string D.x, .string D.y, .string D.z]] w fun e w' => e = .returned (.tuple #[.string ⟨#[]⟩, .int .i64 2]) ∧ Below w.heap.size w w' := by
 have hne : ¬ e2 false = 0 := by decide
 exact ssep_of (ef := e2 false) (ez := 0) (e5 := 0) (e6 := 0) (ed := 0) (P := ⟨#[]⟩) (Q := ⟨#[]⟩) (R := ⟨#[]⟩) w (fun _ => rfl) (fun h => absurd h hne) (fun h => absurd h hne) (fun h => absurd h hne) (h_p1 := h.plane w he) (h_v1 := h.slipV w he)
  (h_p2 := fun W hW => splaneT W C C0 hc h1 (he.below hW)) (h_v2 := fun W b hb' hW => svec1 D hd W b (he.below hW) hb') (h_f1 := fun W b hb' _ => by have := sfirst4 true true (C.right && rightQ C0) D.right W b hb'; rw [hb] at this; exact this)
  (h_z1 := fun h => absurd h hne) (h_m1 := fun h => absurd h hne) (h_f2 := fun h => absurd h hne) (h_d1 := fun h => absurd h.1 hne) (h_d2 := fun h => absurd h.1 hne) (h_di := fun h => absurd h.1 hne) (h_sh := fun h => absurd h.1 hne)
section
variable (c d : V3) (qc : Rat) (hc : R3 c 20 18) (hd : R3 d 20 18) (hqc : S2 qc 8 6)
include hc hd hqc
theorem ssepR (ez : Int) (hez : errZ [n.t, c.t, d.t] = ez) (res : Value) (r2 : ¬ ez = 0 → res = .tuple #[.string ⟨#[]⟩, .int .i64 ez]) (r3 : ez = 0 → dotR c d = 0 → res = .tuple #[.string ⟨#[]⟩, .int .i64 18])
  (r4 : ez = 0 → dotR c d ≠ 0 → res = .tuple #[.string (canonR (dotR c s / dotR c d)), .int .i64 0]) (w : World) (he : Env w) :
  Calls Tryz.prog 42 #[.agg #[.string n.t.x, .string n.t.y, .string n.t.z, .string (canonR q), .string s.t.x, .string s.t.y, .string s.t.z], .agg #[.string c.t.x, .string c.t.y, .string c.t.z, .string (canonR qc)], .agg #[.string d.t.x, .string d.t.y, .string d.t.z]] w fun e w' => e = .returned res ∧ Below w.heap.size w w' := by
 have rc : (c.t.right && rightQ (canonR qc)) = true := by rw [hc.right (by omega) (by omega), hqc.right (by omega) (by omega)]; rfl
 have rd : d.t.right = true := hd.right (by omega) (by omega)
 have p2 := fun W (hW : Below w.heap.size w W) => splaneT W c.t (canonR qc) (hc.small (by omega) (by omega)) (hqc.brief (by omega) (by omega)) (he.below hW)
 have v2 := fun W b (hb : Blk W b #[.string d.t.x, .string d.t.y, .string d.t.z] 24) (hW : Below w.heap.size w W) => svec1 d.t (hd.small (by omega) (by omega)) W b (he.below hW) hb
 rw [rc] at p2
 rw [rd] at v2
 have f1 := fun W b (hb : Blk W b #[.int .i64 (e2 true), .int .i64 (e2 true), .int .i64 (e2 true), .int .i64 (e2 true)] 31) (_ : Below w.heap.size w W) => sfirst4 true true true true W b hb
 have z1 := fun W b (hb : Blk W b #[.string n.t.x, .string n.t.y, .string n.t.z, .string c.t.x, .string c.t.y, .string c.t.z, .string d.t.x, .string d.t.y, .string d.t.z] 24) (_ : Below w.heap.size w W) => szeros_any [n.t, c.t, d.t] (by simp) W b hb
 rw [hez] at z1
 have f2 := fun W b (hb : Blk W b #[.int .i64 ez, .int .i64 0] 31) (_ : Below w.heap.size w W) => sfirst_any [ez, 0] (by simp) W b hb
 rw [firstZ] at f2
 have n0 : ∀ {P : Prop}, ¬ e2 true = 0 → P := fun h => absurd rfl h
 by_cases hne : ez = 0
 case neg => exact ssep_of (ef := e2 true) (ez := ez) (ed := 0) (P := ⟨#[]⟩) (Q := ⟨#[]⟩) (R := ⟨#[]⟩) w n0 (fun _ h => r2 h) (fun _ h => absurd h hne) (fun _ h => absurd h hne) (h_p1 := h.plane w he) (h_v1 := h.slipV w he) (h_p2 := p2) (h_v2 := v2) (h_f1 := f1) (h_z1 := fun _ => z1) (h_m1 := fun _ => h.form w he) (h_f2 := fun _ => f2) (h_d1 := fun h => absurd h.2 hne) (h_d2 := fun h => absurd h.2 hne) (h_di := fun h => absurd h.2 hne) (h_sh := fun h => absurd h.2.1 hne)
 have d1 := hc.dot h.hs
 have d2 := hc.dot hd
 have x1 := fun W (hW : Below w.heap.size w W) => sdotR c s 60 (by omega) (by omega) (hc.sz (by omega) (by omega)) (h.hs.sz (by omega) (by omega)) W (he.below hW)
 have x2 := fun W (hW : Below w.heap.size w W) => sdotR c d 60 (by omega) (by omega) (hc.sz (by omega) (by omega)) (hd.sz (by omega) (by omega)) W (he.below hW)
 by_cases hD : dotR c d = 0
 ·have dv := fun W (_ : Below w.heap.size w W) => (rdiv_zero (dotR c s) W).mono fun e w' h => (⟨h.1, by rw [h.2]; exact Below.refl _ _⟩ : e = .returned (.tuple #[.string ⟨#[]⟩, .int .i64 17]) ∧ Below W.heap.size W w')
  rw [hD] at x2
  exact ssep_of (ef := e2 true) (ez := ez) (ed := 17) w n0 (fun _ h => absurd hne h) (fun _ _ _ => r3 hne hD) (fun _ _ h => absurd h (by decide)) (h_p1 := h.plane w he) (h_v1 := h.slipV w he) (h_p2 := p2) (h_v2 := v2) (h_f1 := f1) (h_z1 := fun _ => z1) (h_m1 := fun _ => h.form w he) (h_f2 := fun _ => f2)
   (h_d1 := fun _ => x1) (h_d2 := fun _ => x2) (h_di := fun _ => dv) (h_sh := fun h => absurd h.2.2 (by decide))
 ·have r := d1.div d2 hD
  exact ssep_of (ef := e2 true) (ez := ez) (ed := 0) w n0 (fun _ h => absurd hne h) (fun _ _ h => absurd rfl h) (fun _ _ _ => r4 hne hD) (h_p1 := h.plane w he) (h_v1 := h.slipV w he) (h_p2 := p2) (h_v2 := v2) (h_f1 := f1) (h_z1 := fun _ => z1) (h_m1 := fun _ => h.form w he) (h_f2 := fun _ => f2)
   (h_d1 := fun _ => x1) (h_d2 := fun _ => x2) (h_di := fun _ W hW => rdiv_any (dotR c s) (dotR c d) 60 (by omega) (by omega) (d1.sz (by omega) (by omega)) (d2.sz (by omega) (by omega)) hD W (he.below hW))
   (h_sh := fun _ W hW => sshort_ok _ W (fun V hV => by
    have := rcheck_any (canonR (dotR c s / dotR c d)) V ((he.below hW).below hV) (r.brief (by omega) (by omega))
    rw [r.right (by omega) (by omega), if_pos rfl] at this
    exact this))
end
theorem sexplR (c : V3) (qc m : Rat) (hc : R3 c 20 18) (hqc : S2 qc 8 6) (hm : S2 m 50 50) (hz : c.t.zero = false) (w : World) (he : Env w) :
  Calls Tryz.prog 43 #[.agg #[.string n.t.x, .string n.t.y, .string n.t.z, .string (canonR q), .string s.t.x, .string s.t.y, .string s.t.z], .agg #[.string c.t.x, .string c.t.y, .string c.t.z, .string (canonR qc), .string (canonR m)]] w fun e w' => e = .returned (.tuple #[.bool (decide (dotR c s = m - qc)), .int .i64 0]) ∧ Below w.heap.size w w' := by
 have rc : (c.t.right && rightQ (canonR qc)) = true := by rw [hc.right (by omega) (by omega), hqc.right (by omega) (by omega)]; rfl
 have rm : rightQ (canonR m) = true := hm.right (by omega) (by omega)
 have p2 := fun W (hW : Below w.heap.size w W) => splaneT W c.t (canonR qc) (hc.small (by omega) (by omega)) (hqc.brief (by omega) (by omega)) (he.below hW)
 have n1 := fun W b (hb : Blk W b #[.string (canonR m)] 22) (hW : Below w.heap.size w W) => snum1 (canonR m) (hm.brief (by omega) (by omega)) W b (he.below hW) hb
 rw [rc] at p2
 rw [rm] at n1
 have hez : errZ [n.t, c.t] = 0 := by unfold errZ; rw [List.any_cons, List.any_cons, h.nz, hz]; rfl
 have z1 := fun W b (hb : Blk W b #[.string n.t.x, .string n.t.y, .string n.t.z, .string c.t.x, .string c.t.y, .string c.t.z] 24) (_ : Below w.heap.size w W) => szeros_any [n.t, c.t] (by simp) W b hb
 rw [hez] at z1
 exact sexpl_of w (canonR_beq _ _) (h_p1 := h.plane w he) (h_v1 := h.slipV w he) (h_p2 := p2) (h_n1 := n1) (h_f1 := fun W b hb _ => sfirst4 true true true true W b hb) (h_z1 := z1) (h_m1 := h.form w he) (h_f2 := fun W b hb _ => sfirst_any [0, 0] (by simp) W b hb)
  (h_d1 := fun W hW => sdotR c s 60 (by omega) (by omega) (hc.sz (by omega) (by omega)) (h.hs.sz (by omega) (by omega)) W (he.below hW)) (h_su := fun W hW => rsub_any m qc 60 (by omega) (by omega) (hm.sz (by omega) (by omega)) (hqc.sz (by omega) (by omega)) W (he.below hW))
end

end Go.Proofs.YtopilnlniidejaaGreatDoor
