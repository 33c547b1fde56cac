/- Cutoffs of the faults that plans describe. -/
import Derived.Test.YtopilnlniidejaaGreatDoorSlipJ7
import Derived.Test.YtopilnlniidejaaGreatDoorSlipI
namespace Go.Proofs.YtopilnlniidejaaGreatDoor
set_option linter.all false
open Go.RowKit

section
variable {n s : V3} {q : Rat} (h : FaultOk n s q)
include h
theorem scut_num (C D : T3) (C0 D0 : ByteArray) (hc : C.small) (hd : D.small) (h1 : C0.size ≤ 1000000) (h2 : D0.size ≤ 1000000) (hb : ((C.right && rightQ C0) && (D.right && rightQ D0)) = false) (w : World) (he : Env w) :
  Calls Tryz.prog 41 #[.agg #[.string n.t.x, .string n.t.y, .string n.t.z, .string (canonR q), .string s.t.x, .string s.t.y, .string s.t.z], .agg #[.string C.x, .string C.y, .string C.z, .string C0], .agg #[.string D.x, .string D.y, .string D.z, .string D0]] w fun e w' => e = .returned (.tuple #[.agg #[.string ⟨#[]⟩, .string ⟨#[]⟩, .string ⟨#[]⟩], .agg #[.string ⟨#[]⟩, .string ⟨#[]⟩, .string ⟨#[]⟩], .int .i64 2]) ∧ Below w.heap.size w w' := by
 have hne : ¬ e2 false = 0 := by decide
 exact scut_of (ef := e2 false) (ez := 0) (e5 := 0) (e6 := 0) (ok := false) (P := ⟨#[]⟩) (Q := ⟨#[]⟩) (O1 := ⟨#[]⟩) (O2 := ⟨#[]⟩) (O3 := ⟨#[]⟩) (I1 := ⟨#[]⟩) (I2 := ⟨#[]⟩) (I3 := ⟨#[]⟩) w (fun _ => rfl) (fun h => absurd h hne) (fun h => absurd h hne) (fun h => absurd h hne) (h_p1 := h.plane w he) (h_v1 := h.slipV w he)
  (h_p2 := fun W hW => splaneT W C C0 hc h1 (he.below hW)) (h_p3 := fun W hW => splaneT W D D0 hd h2 (he.below hW)) (h_f1 := fun W b hb' _ => by have := sfirst4 true true (C.right && rightQ C0) (D.right && rightQ D0) W b hb'; rw [hb] at this; exact this)
  (h_z1 := fun h => absurd h hne) (h_m1 := fun h => absurd h hne) (h_f2 := fun h => absurd h hne) (h_mt := fun h => absurd h.1 hne) (h_mf := fun h => absurd h.1 hne) (h_d1 := fun h => absurd h.1 hne) (h_ad := fun h => absurd h.1 hne) (h_mu := fun h => absurd h.1 hne) (h_v2 := fun h => absurd h.1 hne)
section
variable (c d : V3) (qc qd : Rat) (hc : R3 c 20 18) (hd : R3 d 20 18) (hqc : S2 qc 8 6) (hqd : S2 qd 8 6)
include hc hd hqc hqd
theorem moved_size : S2 (dotR c s) 31 24 ∧ S2 (qc + dotR c s) 38 30 := ⟨hc.dot h.hs, hqc.add (hc.dot h.hs) 37 (by omega) (by omega)⟩
theorem cut_size (hD : dotR n (crossR c d) ≠ 0) : (S2 (meetR n c d q qc qd).x 164 158 ∧ S2 (meetR n c d q qc qd).y 164 158 ∧ S2 (meetR n c d q qc qd).z 164 158) ∧
  S2 (meetR n c d q (qc + dotR c s) qd).x 164 158 ∧ S2 (meetR n c d q (qc + dotR c s) qd).y 164 158 ∧ S2 (meetR n c d q (qc + dotR c s) qd).z 164 158 := by
 have m := (moved_size h c d qc qd hc hd hqc hqd).2
 have a := meet_size h.n20 hc hd (h.hq.mono (by omega) (by omega) : S2 q 38 30) (hqc.mono (by omega) (by omega)) (hqd.mono (by omega) (by omega)) hD
 have b := meet_size h.n20 hc hd (h.hq.mono (by omega) (by omega) : S2 q 38 30) m (hqd.mono (by omega) (by omega)) hD
 exact ⟨a, b⟩
theorem scutR (ez : Int) (hez : errZ [n.t, c.t, d.t] = ez) (res : Value) (r2 : ¬ ez = 0 → res = .tuple #[.agg #[.string ⟨#[]⟩, .string ⟨#[]⟩, .string ⟨#[]⟩], .agg #[.string ⟨#[]⟩, .string ⟨#[]⟩, .string ⟨#[]⟩], .int .i64 ez]) (r3 : ez = 0 → dotR n (crossR c d) = 0 → res = .tuple #[.agg #[.string ⟨#[]⟩, .string ⟨#[]⟩, .string ⟨#[]⟩], .agg #[.string ⟨#[]⟩, .string ⟨#[]⟩, .string ⟨#[]⟩], .int .i64 18])
  (r4 : ez = 0 → dotR n (crossR c d) ≠ 0 → res = .tuple #[.agg #[.string (meetR n c d q qc qd).t.x, .string (meetR n c d q qc qd).t.y, .string (meetR n c d q qc qd).t.z], .agg #[.string (meetR n c d q (qc + dotR c s) qd).t.x, .string (meetR n c d q (qc + dotR c s) qd).t.y, .string (meetR n c d q (qc + dotR c s) qd).t.z], .int .i64 0]) (w : World) (he : Env w) :
  Calls Tryz.prog 41 #[.agg #[.string n.t.x, .string n.t.y, .string n.t.z, .string (canonR q), .string s.t.x, .string s.t.y, .string s.t.z], .agg #[.string c.t.x, .string c.t.y, .string c.t.z, .string (canonR qc)], .agg #[.string d.t.x, .string d.t.y, .string d.t.z, .string (canonR qd)]] w fun e w' => e = .returned res ∧ Below w.heap.size w w' := by
 have rc : (c.t.right && rightQ (canonR qc)) = true := by rw [hc.right (by omega) (by omega), hqc.right (by omega) (by omega)]; rfl
 have rd : (d.t.right && rightQ (canonR qd)) = true := by rw [hd.right (by omega) (by omega), hqd.right (by omega) (by omega)]; rfl
 have p2 := fun W (hW : Below w.heap.size w W) => splaneT W c.t (canonR qc) (hc.small (by omega) (by omega)) (hqc.brief (by omega) (by omega)) (he.below hW)
 have p3 := fun W (hW : Below w.heap.size w W) => splaneT W d.t (canonR qd) (hd.small (by omega) (by omega)) (hqd.brief (by omega) (by omega)) (he.below hW)
 rw [rc] at p2
 rw [rd] at p3
 have f1 := fun W b (hb : Blk W b #[.int .i64 (e2 true), .int .i64 (e2 true), .int .i64 (e2 true), .int .i64 (e2 true)] 31) (_ : Below w.heap.size w W) => sfirst4 true true true true W b hb
 have z1 := fun W b (hb : Blk W b #[.string n.t.x, .string n.t.y, .string n.t.z, .string c.t.x, .string c.t.y, .string c.t.z, .string d.t.x, .string d.t.y, .string d.t.z] 24) (_ : Below w.heap.size w W) => szeros_any [n.t, c.t, d.t] (by simp) W b hb
 rw [hez] at z1
 have f2 := fun W b (hb : Blk W b #[.int .i64 ez, .int .i64 0] 31) (_ : Below w.heap.size w W) => sfirst_any [ez, 0] (by simp) W b hb
 rw [firstZ] at f2
 have n0 : ∀ {P : Prop}, ¬ e2 true = 0 → P := fun h => absurd rfl h
 by_cases hne : ez = 0
 case neg => exact scut_of (ef := e2 true) (ez := ez) (ok := false) (P := ⟨#[]⟩) (Q := ⟨#[]⟩) (O1 := ⟨#[]⟩) (O2 := ⟨#[]⟩) (O3 := ⟨#[]⟩) (I1 := ⟨#[]⟩) (I2 := ⟨#[]⟩) (I3 := ⟨#[]⟩) w n0 (fun _ h => r2 h) (fun _ h => absurd h hne) (fun _ h => absurd h hne) (h_p1 := h.plane w he) (h_v1 := h.slipV w he) (h_p2 := p2) (h_p3 := p3) (h_f1 := f1) (h_z1 := fun _ => z1) (h_m1 := fun _ => h.form w he) (h_f2 := fun _ => f2) (h_mt := fun h => absurd h.2.1 hne) (h_mf := fun h => absurd h.2.1 hne) (h_d1 := fun h => absurd h.2.1 hne) (h_ad := fun h => absurd h.2.1 hne) (h_mu := fun h => absurd h.2.1 hne) (h_v2 := fun h => absurd h.2.1 hne)
 have m := moved_size h c d qc qd hc hd hqc hqd
 have sq := h.hq.sz (N := 80) (by omega) (by omega)
 have sc := hqc.sz (N := 80) (by omega) (by omega)
 have sd := hqd.sz (N := 80) (by omega) (by omega)
 by_cases hD : dotR n (crossR c d) = 0
 ·exact scut_of (ef := e2 true) (ez := ez) (ok := false) (P := ⟨#[]⟩) (Q := ⟨#[]⟩) (O1 := ⟨#[]⟩) (O2 := ⟨#[]⟩) (O3 := ⟨#[]⟩) (I1 := ⟨#[]⟩) (I2 := ⟨#[]⟩) (I3 := ⟨#[]⟩) w n0 (fun _ h => absurd hne h) (fun _ _ _ => r3 hne hD) (fun _ _ h => by cases h) (h_p1 := h.plane w he) (h_v1 := h.slipV w he) (h_p2 := p2) (h_p3 := p3) (h_f1 := f1) (h_z1 := fun _ => z1) (h_m1 := fun _ => h.form w he) (h_f2 := fun _ => f2)
   (h_mt := fun h => by cases h.2.2) (h_mf := fun _ W hW => smeet_dep n c d q qc qd h.n20 hc hd hD W (he.below hW)) (h_d1 := fun h => by cases h.2.2) (h_ad := fun h => by cases h.2.2) (h_mu := fun h => by cases h.2.2) (h_v2 := fun h => by cases h.2.2)
 ·obtain ⟨t1, t2⟩ := cut_size h c d qc qd hc hd hqc hqd hD
  have y1 := right_s3 t1 (by omega) (by omega)
  have y2 := right_s3 t2 (by omega) (by omega)
  exact scut_of (ef := e2 true) (ez := ez) (ok := true) w n0 (fun _ h => absurd hne h) (fun _ _ h => absurd rfl h) (fun _ _ _ => r4 hne hD) (h_p1 := h.plane w he) (h_v1 := h.slipV w he) (h_p2 := p2) (h_p3 := p3) (h_f1 := f1) (h_z1 := fun _ => z1) (h_m1 := fun _ => h.form w he) (h_f2 := fun _ => f2)
   (h_mt := fun _ W hW => smeet_any n c d q qc qd h.n20 hc hd sq sc sd hD W (he.below hW)) (h_mf := fun h => absurd rfl h.2.2) (h_d1 := fun _ W hW => sdotR c s 60 (by omega) (by omega) (hc.sz (by omega) (by omega)) (h.hs.sz (by omega) (by omega)) W (he.below hW))
   (h_ad := fun _ W hW => radd_any qc (dotR c s) 60 (by omega) (by omega) (hqc.sz (by omega) (by omega)) (m.1.sz (by omega) (by omega)) W (he.below hW)) (h_mu := fun _ W hW => smeet_any n c d q (qc + dotR c s) qd h.n20 hc hd sq (m.2.sz (by omega) (by omega)) sd hD W (he.below hW))
   (h_v2 := fun _ W b hb hW => by
    have := svectors_any [(meetR n c d q qc qd).t, (meetR n c d q (qc + dotR c s) qd).t] (fun v hv => by simp at hv; rcases hv with rfl | rfl; exact y1.2; exact y2.2) (by simp) W b hb (he.below hW)
    have e : errV [(meetR n c d q qc qd).t, (meetR n c d q (qc + dotR c s) qd).t] = 0 := by unfold errV; rw [List.all_cons, List.all_cons, y1.1, y2.1]; rfl
    rw [e] at this
    exact this)
end

end

end Go.Proofs.YtopilnlniidejaaGreatDoor
