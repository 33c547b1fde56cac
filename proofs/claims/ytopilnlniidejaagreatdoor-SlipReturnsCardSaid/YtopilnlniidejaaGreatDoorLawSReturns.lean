/- SlipReturns returns true. -/
import Derived.Test.YtopilnlniidejaaGreatDoorSlipJ5
import Derived.Test.YtopilnlniidejaaGreatDoorSlipJ1
import Derived.Test.YtopilnlniidejaaGreatDoorSlip9G
namespace Go.Proofs.YtopilnlniidejaaGreatDoor
set_option linter.all false
open Go.RowKit

section
variable (a c d : V3) (qa qc qd m1 m2 : Rat) (na : R3 a 20 18) (nc : R3 c 20 18) (nd : R3 d 20 18) (s0 : S2 qa 60 60) (s1 : S2 qc 60 60) (s2 : S2 qd 60 60) (s3 : S2 m1 60 60) (s4 : S2 m2 60 60) (b1 : S2 (m1 - qc) 16 12) (b2 : S2 (m2 - qd) 16 12) (hez : errZ [a.t, c.t, d.t] = 0)
include na nc nd s0 s1 s2 s3 s4 b1 b2 hez
theorem ssolveG (ok : Bool) (res : Value) (hok : ok = true ↔ dotR a (crossR c d) ≠ 0) (r3 : ¬ ok = true → res = .tuple #[.agg #[.string ⟨#[]⟩, .string ⟨#[]⟩, .string ⟨#[]⟩], .int .i64 18])
  (r4 : ok = true → res = .tuple #[.agg #[.string (canonR (meetR a c d 0 (m1 - qc) (m2 - qd)).x), .string (canonR (meetR a c d 0 (m1 - qc) (m2 - qd)).y), .string (canonR (meetR a c d 0 (m1 - qc) (m2 - qd)).z)], .int .i64 0]) (w : World) (he : Env w) :
  Calls Tryz.prog 13 #[.agg #[.string a.t.x, .string a.t.y, .string a.t.z, .string (canonR qa)], .agg #[.string c.t.x, .string c.t.y, .string c.t.z, .string (canonR qc), .string (canonR m1)], .agg #[.string d.t.x, .string d.t.y, .string d.t.z, .string (canonR qd), .string (canonR m2)]] w
   fun e w' => e = .returned res ∧ Below w.heap.size w w' := by
 have z80 := Sz.zero 80 (by omega)
 have hall : ((a.t.right && rightQ (canonR qa)) && ((c.t.right && rightQ (canonR qc)) && (rightQ (canonR m1) && ((d.t.right && rightQ (canonR qd)) && rightQ (canonR m2))))) = true := by
  rw [na.right (by omega) (by omega), nc.right (by omega) (by omega), nd.right (by omega) (by omega), s0.right (by omega) (by omega), s1.right (by omega) (by omega), s2.right (by omega) (by omega), s3.right (by omega) (by omega), s4.right (by omega) (by omega)]
  rfl
 refine ssolve_of _ _ _ _ _ _ _ _ _ _ _ _ _ _ (canonR (m1 - qc)) (canonR (m2 - qd)) (canonR (meetR a c d 0 (m1 - qc) (m2 - qd)).x) (canonR (meetR a c d 0 (m1 - qc) (m2 - qd)).y) (canonR (meetR a c d 0 (m1 - qc) (m2 - qd)).z) _ _ _ _ _ (e2 true) 0 ok res w (fun h => absurd rfl h) (fun _ h => absurd rfl h) (fun _ _ h => r3 h) (fun _ _ h => r4 h)
  (fun W hW => splaneT W a.t (canonR qa) (na.small (by omega) (by omega)) (s0.brief (by omega) (by omega)) (he.below hW)) (fun W hW => splaneT W c.t (canonR qc) (nc.small (by omega) (by omega)) (s1.brief (by omega) (by omega)) (he.below hW)) (fun W b hb hW => snum1 (canonR m1) (s3.brief (by omega) (by omega)) W b (he.below hW) hb)
  (fun W hW => splaneT W d.t (canonR qd) (nd.small (by omega) (by omega)) (s2.brief (by omega) (by omega)) (he.below hW)) (fun W b hb hW => snum1 (canonR m2) (s4.brief (by omega) (by omega)) W b (he.below hW) hb)
  (fun W b hb _ => by have := sfirst5 _ _ _ _ _ W b hb; rw [hall] at this; exact this)
  (fun _ W b hb _ => by have := szeros_any [a.t, c.t, d.t] (by simp) W b hb; rw [hez] at this; exact this)
  (fun _ W hW => rsub_any m1 qc 60 (by omega) (by omega) (s3.sz (by omega) (by omega)) (s1.sz (by omega) (by omega)) W (he.below hW))
  (fun _ W hW => rsub_any m2 qd 60 (by omega) (by omega) (s4.sz (by omega) (by omega)) (s2.sz (by omega) (by omega)) W (he.below hW))
  (fun h W hW => ?_) (fun h W hW => ?_) (fun h W hW => ?_)
 ·have := smeet_any a c d 0 (m1 - qc) (m2 - qd) na nc nd z80 (b1.sz (by omega) (by omega)) (b2.sz (by omega) (by omega)) (hok.1 h.2.2) W (he.below hW)
  rw [canonR0] at this
  exact this
 ·have := smeet_dep a c d 0 (m1 - qc) (m2 - qd) na nc nd (Classical.byContradiction fun hn => h.2.2 (hok.2 hn)) W (he.below hW)
  rw [canonR0] at this
  exact this
 ·have z0 : S2 0 16 12 := ⟨by show 0 < 10 ^ 16; omega, by show 1 < 10 ^ 12; omega⟩
  have hr := right_s2 (meet_size na nc nd z0 b1 b2 (hok.1 h.2.2)) (by omega) (by omega)
  exact sshortv_ok _ _ _ W (fun V b hb hV => by have := svec1 (meetR a c d 0 (m1 - qc) (m2 - qd)).t hr.2 V b ((he.below hW).below hV) hb; rw [hr.1] at this; exact this)
end

theorem meet_self (a c d v : V3) (h : dotR a v = 0) (hD : dotR a (crossR c d) ≠ 0) : meetR a c d 0 (dotR c v) (dotR d v) = v := by
 have key : ∀ (p k D x : Rat), D ≠ 0 → p = x * D → p * (1 / D) = x := fun p k D x hD hp => by
  rw [hp, Rat.div_def, Rat.one_mul, Rat.mul_assoc, Rat.mul_inv_cancel _ hD, Rat.mul_one]
 have e0 : a.x * v.x + a.y * v.y + a.z * v.z = 0 := h
 obtain ⟨vx, vy, vz⟩ := v
 simp only at e0
 unfold meetR V3.scale V3.add
 simp only [V3.mk.injEq]
 refine ⟨key _ 0 _ _ hD ?_, key _ 0 _ _ hD ?_, key _ 0 _ _ hD ?_⟩
 ·unfold dotR crossR
  simp only
  have : (c.y * d.z - c.z * d.y) * (a.x * vx + a.y * vy + a.z * vz) = 0 := by rw [e0]; grind
  grind
 ·unfold dotR crossR
  simp only
  have : (c.z * d.x - c.x * d.z) * (a.x * vx + a.y * vy + a.z * vz) = 0 := by rw [e0]; grind
  grind
 ·unfold dotR crossR
  simp only
  have : (c.x * d.y - c.y * d.x) * (a.x * vx + a.y * vy + a.z * vz) = 0 := by rw [e0]; grind
  grind
theorem pierce_self (n p c v : V3) (q : Rat) (h : dotR n v = 0) : pierceV n q p c (p.add v) c = v := by
 have e : dotR n (p.add v) = dotR n p := by
  have : dotR n (p.add v) = dotR n p + dotR n v := by
   unfold dotR V3.add
   simp only
   grind
  rw [this, h]
  grind
 unfold pierceV placeR
 rw [e]
 generalize (q - dotR n p) / dotR n c = k
 obtain ⟨vx, vy, vz⟩ := v
 unfold V3.add V3.scale
 simp only [V3.mk.injEq]
 refine ⟨?_, ?_, ?_⟩ <;> grind

set_option maxHeartbeats 4000000 in
theorem returnsC (x y z t s d : Int) (sl sp : Bool) (hx : -128 ≤ x ∧ x ≤ 127) (hy : -128 ≤ y ∧ y ≤ 127) (hz : -128 ≤ z ∧ z ≤ 127) (ht : -128 ≤ t ∧ t ≤ 127) (hs : -128 ≤ s ∧ s ≤ 127) (hd : -128 ≤ d ∧ d ≤ 127)
  (xa ya za ta : Int) (ha : (-128 ≤ xa ∧ xa ≤ 127) ∧ (-128 ≤ ya ∧ ya ≤ 127) ∧ (-128 ≤ za ∧ za ≤ 127) ∧ (-128 ≤ ta ∧ ta ≤ 127)) (xb yb zb tb : Int) (hb : (-128 ≤ xb ∧ xb ≤ 127) ∧ (-128 ≤ yb ∧ yb ≤ 127) ∧ (-128 ≤ zb ∧ zb ≤ 127) ∧ (-128 ≤ tb ∧ tb ≤ 127)) (w : World) (he : Env w) :
  Calls Tryz.prog 5 #[.agg #[.int .i8 x, .int .i8 y, .int .i8 z, .int .i8 t, .int .i8 s, .int .i8 d, .bool sl, .bool sp], .agg #[.int .i8 xa, .int .i8 ya, .int .i8 za, .int .i8 ta], .agg #[.int .i8 xb, .int .i8 yb, .int .i8 zb, .int .i8 tb]] w fun e w' => e = .returned (.bool true) ∧ Below w.heap.size w w' := by
 obtain ⟨n, v, q, ok, hmk⟩ := make42 x y z t s d sl sp hx hy hz ht hs hd
 obtain ⟨c, qc, cz, nc, bc, hpa⟩ := plane42 xa ya za ta ha.1 ha.2.1 ha.2.2.1 ha.2.2.2
 obtain ⟨d', qd, dz, nd, bd, hpb⟩ := plane42 xb yb zb tb hb.1 hb.2.1 hb.2.2.1 hb.2.2.2
 have knw := fun W (hW : Below w.heap.size w W) => known42 W (he.below hW)
 have mk := fun W (hW : Below w.heap.size w W) => hmk W (he.below hW)
 have pa := fun W (hW : Below w.heap.size w W) => hpa W (he.below hW)
 have pb := fun W (hW : Below w.heap.size w W) => hpb W (he.below hW)
 have d1 := nc.dot ok.hs
 have d2 := nd.dot ok.hs
 have m1 := bc.add d1 13 (by omega) (by omega)
 have m2 := bd.add d2 13 (by omega) (by omega)
 have da := fun W (hW : Below w.heap.size w W) => ldotR c v 60 (by omega) (by omega) (nc.sz (by omega) (by omega)) (ok.hs.sz (by omega) (by omega)) W (he.below hW)
 have db := fun W (hW : Below w.heap.size w W) => ldotR d' v 60 (by omega) (by omega) (nd.sz (by omega) (by omega)) (ok.hs.sz (by omega) (by omega)) W (he.below hW)
 have aa := fun W (hW : Below w.heap.size w W) => raddR_any qc (dotR c v) 60 (by omega) (by omega) (bc.sz (by omega) (by omega)) (d1.sz (by omega) (by omega)) W (he.below hW)
 have ab := fun W (hW : Below w.heap.size w W) => raddR_any qd (dotR d' v) 60 (by omega) (by omega) (bd.sz (by omega) (by omega)) (d2.sz (by omega) (by omega)) W (he.below hW)
 have hez : errZ [n.t, c.t, d'.t] = 0 := by unfold errZ; rw [List.any_cons, List.any_cons, List.any_cons, ok.nz, cz, dz]; rfl
 have hez2 : errZ [n.t, c.t, c.t] = 0 := by unfold errZ; rw [List.any_cons, List.any_cons, List.any_cons, ok.nz, cz]; rfl
 have e1 : qc + dotR c v - qc = dotR c v := by grind
 have e2' : qd + dotR d' v - qd = dotR d' v := by grind
 have so := fun (o : Bool) (res : Value) h3 h4 h5 W (hW : Below w.heap.size w W) => ssolveG n c d' q qc qd (qc + dotR c v) (qd + dotR d' v) (ok.hn.sz' 20 18 (by omega) (by omega)) (nc.sz' 20 18 (by omega) (by omega)) (nd.sz' 20 18 (by omega) (by omega)) (ok.hq.mono (by omega) (by omega)) (bc.mono (by omega) (by omega)) (bd.mono (by omega) (by omega)) (m1.mono (by omega) (by omega)) (m2.mono (by omega) (by omega))
  (by rw [e1]; exact d1.mono (by omega) (by omega)) (by rw [e2']; exact d2.mono (by omega) (by omega)) hez o res h3 h4 h5 W (he.below hW)
 have P := spot_R3 1 2 3 (by omega) (by omega) (by omega)
 have P2 := P.add ok.hs (m := 11) (by omega) (by omega)
 have sp' := fun W (hW : Below w.heap.size w W) => spotR 1 2 3 (by omega) (by omega) (by omega) W (he.below hW)
 have an := fun W (hW : Below w.heap.size w W) => radd3R (ofI ⟨1, 2, 3⟩ 1) v 60 (by omega) (by omega) (P.sz (by omega) (by omega)) (ok.hs.sz (by omega) (by omega)) W (he.below hW)
 have pi := fun (res : Value) h3 h5 W (hW : Below w.heap.size w W) => spierceR n (ofI ⟨1, 2, 3⟩ 1) c ((ofI ⟨1, 2, 3⟩ 1).add v) c q (ok.hn.sz' 20 18 (by omega) (by omega)) (P.sz' 20 18 (by omega) (by omega)) (nc.sz' 20 18 (by omega) (by omega)) (P2.sz' 20 18 (by omega) (by omega)) (nc.sz' 20 18 (by omega) (by omega)) (ok.hq.mono (by omega) (by omega)) 0 hez2 res (fun h => absurd rfl h) h3 h5 W (he.below hW)
 have ps := pierce_self n (ofI ⟨1, 2, 3⟩ 1) c v q ok.dot
 by_cases hD : dotR n (crossR c d') = 0
 ·have so' := so false _ ⟨fun h => (by cases h), fun h => absurd hD h⟩ (fun _ => rfl) (fun h => by cases h)
  by_cases hC : dotR n c = 0
  ·exact returns_of (ok := false) (okp := false) w (h_kn := knw) (h_mk := mk) (h_pa := pa) (h_pb := pb) (h_da := da) (h_aa := aa) (h_db := db) (h_ab := ab) (h_se := fun _ => so') (h_sp := sp') (h_an := an) (h_pe := fun _ => pi _ (fun _ _ => rfl) (fun _ h => absurd hC h))
  ·have po := pi _ (fun _ h => by rcases h with h | h <;> exact absurd h hC) (fun _ _ _ => rfl)
   rw [ps] at po
   exact returns_of (ok := false) (okp := true) w (h_kn := knw) (h_mk := mk) (h_pa := pa) (h_pb := pb) (h_da := da) (h_aa := aa) (h_db := db) (h_ab := ab) (h_se := fun _ => so') (h_sp := sp') (h_an := an) (h_po := fun _ => po)
 ·have so' := so true _ ⟨fun _ => hD, fun _ => rfl⟩ (fun h => absurd rfl h) (fun _ => rfl)
  rw [e1, e2', meet_self n c d' v ok.dot hD] at so'
  by_cases hC : dotR n c = 0
  ·exact returns_of (ok := true) (okp := false) w (h_kn := knw) (h_mk := mk) (h_pa := pa) (h_pb := pb) (h_da := da) (h_aa := aa) (h_db := db) (h_ab := ab) (h_so := fun _ => so') (h_sp := sp') (h_an := an) (h_pe := fun _ => pi _ (fun _ _ => rfl) (fun _ h => absurd hC h))
  ·have po := pi _ (fun _ h => by rcases h with h | h <;> exact absurd h hC) (fun _ _ _ => rfl)
   rw [ps] at po
   exact returns_of (ok := true) (okp := true) w (h_kn := knw) (h_mk := mk) (h_pa := pa) (h_pb := pb) (h_da := da) (h_aa := aa) (h_db := db) (h_ab := ab) (h_so := fun _ => so') (h_sp := sp') (h_an := an) (h_po := fun _ => po)

end Go.Proofs.YtopilnlniidejaaGreatDoor
