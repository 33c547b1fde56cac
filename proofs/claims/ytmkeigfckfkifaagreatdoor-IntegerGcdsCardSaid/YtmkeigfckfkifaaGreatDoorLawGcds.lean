/- IntegerGcds: for any two described integers of at most 20 digits, times a described one of at most 8: the walk: the call returns true and leaves the descriptions as they were. Conditions: those of the given row alone. -/
import Derived.Test.YtmkeigfckfkifaaGreatDoorGLaw
import Derived.Test.YtmkeigfckfkifaaGreatDoorGRefB
import Derived.Deep.RegionHeld3
import Derived.Deep.CutRange
namespace Go.Proofs.YtmkeigfckfkifaaGreatDoor
open Go.RowKit

theorem first_gcd {w W : World} (h : Below w.heap.size w W) : Below w.heap.size w W.drew := h.drew

theorem mulabs_gcd {x y : Int} {m n : Nat} (hx : x.natAbs < 10 ^ m) (hy : y.natAbs < 10 ^ n) : (x * y).natAbs < 10 ^ (m + n) := by
  rw [Int.natAbs_mul, Nat.pow_add]
  exact Nat.mul_lt_mul_of_lt_of_lt hx hy

set_option maxRecDepth 100000 in
set_option maxHeartbeats 8000000 in
theorem gcds_walk (m1 m2 m3 : Bool) (A1 A2 A3 : Option Addr) (p1 p2 p3 : Nat) (d1 d2 d3 : List Int) (w : World) (h1 : Sl w .u8 A1 p1 d1) (h2 : Sl w .u8 A2 p2 d2) (h3 : Sl w .u8 A3 p3 d3) (r1 : ∀ x ∈ d1, 0 ≤ x ∧ x < 256) (r2 : ∀ x ∈ d2, 0 ≤ x ∧ x < 256) (r3 : ∀ x ∈ d3, 0 ≤ x ∧ x < 256) (ht : Pow10 w) :
    Calls Tryz.prog 4 #[.agg #[.bool m1, .slice A1 d1.length p1], .agg #[.bool m2, .slice A2 d2.length p2], .agg #[.bool m3, .slice A3 d3.length p3]] w fun e w' => e = .returned (.bool true) ∧ Below w.heap.size w w' := by
  have hk := fun W (hW : Below w.heap.size w W) => known_any W (ht.below hW)
  have k1 := fun W (hW : Below w.heap.size w W) => make_any m1 A1 p1 d1 20 W (h1.below hW) r1 (by omega) (by omega)
  have k2 := fun W (hW : Below w.heap.size w W) => make_any m2 A2 p2 d2 20 W (h2.below hW) r2 (by omega) (by omega)
  have k3 := fun W (hW : Below w.heap.size w W) => make_any m3 A3 p3 d3 8 W (h3.below hW) r3 (by omega) (by omega)
  have HK := Lib.hid hk
  have K1 := Lib.hid k1
  have K2 := Lib.hid k2
  have K3 := Lib.hid k3
  have HT := Lib.hid ht
  have z1 : (w.alloc (Obj.cells #[Value.bool m1, Value.slice A1 d1.length p1] 24)).heap.size = w.heap.size + 1 := World.size_alloc ..
  have z2 : ((w.alloc (Obj.cells #[Value.bool m1, Value.slice A1 d1.length p1] 24)).alloc (Obj.cells #[Value.bool m2, Value.slice A2 d2.length p2] 24)).heap.size = w.heap.size + 2 := by rw [World.size_alloc, z1]
  have z3 : (((w.alloc (Obj.cells #[Value.bool m1, Value.slice A1 d1.length p1] 24)).alloc (Obj.cells #[Value.bool m2, Value.slice A2 d2.length p2] 24)).alloc (Obj.cells #[Value.bool m3, Value.slice A3 d3.length p3] 24)).heap.size = w.heap.size + 3 := by rw [World.size_alloc, z2]
  have b0 : Below w.heap.size w (((w.alloc (Obj.cells #[Value.bool m1, Value.slice A1 d1.length p1] 24)).alloc (Obj.cells #[Value.bool m2, Value.slice A2 d2.length p2] 24)).alloc (Obj.cells #[Value.bool m3, Value.slice A3 d3.length p3] 24)) := (((Below.refl _ _).alloc (Nat.le_refl _) _).alloc (by rw [z1]; omega) _).alloc (by rw [z2]; omega) _
  have x1 := heap_more (heap_more (heap_alloc_new w (Obj.cells #[Value.bool m1, Value.slice A1 d1.length p1] 24)) (Obj.cells #[Value.bool m2, Value.slice A2 d2.length p2] 24)) (Obj.cells #[Value.bool m3, Value.slice A3 d3.length p3] 24)
  have x2 := heap_more (heap_alloc_new (w.alloc (Obj.cells #[Value.bool m1, Value.slice A1 d1.length p1] 24)) (Obj.cells #[Value.bool m2, Value.slice A2 d2.length p2] 24)) (Obj.cells #[Value.bool m3, Value.slice A3 d3.length p3] 24)
  have x3 := heap_alloc_new ((w.alloc (Obj.cells #[Value.bool m1, Value.slice A1 d1.length p1] 24)).alloc (Obj.cells #[Value.bool m2, Value.slice A2 d2.length p2] 24)) (Obj.cells #[Value.bool m3, Value.slice A3 d3.length p3] 24)
  rw [z1] at x2
  rw [z2] at x3
  have B0 := Lib.hid b0
  have X1 := Lib.hid x1
  have X2 := Lib.hid x2
  have X3 := Lib.hid x3
  have Z3 := Lib.hid z3
  clear hk k1 k2 k3 ht b0 x1 x2 x3 h1 h2 h3 r1 r2 r3 z1 z2 z3
  go_enter Tryz.func4, Tryz.ntmps4
  go_upto_region 3 with (go_at_call 9; refine (HK.out _ B0.out).mono ?_; rintro e w1 ⟨rfl, b1⟩; have B1 := Lib.hid b1; clear b1)
  have y1 := (B1.out.block w.heap.size (by rw [Z3.out]; omega)).trans X1.out
  have y2 := (B1.out.block (w.heap.size + 1) (by rw [Z3.out]; omega)).trans X2.out
  have y3 := (B1.out.block (w.heap.size + 2) (by rw [Z3.out]; omega)).trans X3.out
  have bw1 := B0.out.trans (B1.out.mono B0.out.size)
  have c0 : w1.cell? ⟨w.heap.size, 0, none⟩ = some (.bool m1) := by rw [Lib.cell_of_heap y1]; rfl
  have c1 : w1.cell? ⟨w.heap.size, 1, none⟩ = some (.slice A1 d1.length p1) := by rw [Lib.cell_of_heap y1]; rfl
  have c2 : w1.cell? ⟨w.heap.size + 1, 0, none⟩ = some (.bool m2) := by rw [Lib.cell_of_heap y2]; rfl
  have c3 : w1.cell? ⟨w.heap.size + 1, 1, none⟩ = some (.slice A2 d2.length p2) := by rw [Lib.cell_of_heap y2]; rfl
  have c4 : w1.cell? ⟨w.heap.size + 2, 0, none⟩ = some (.bool m3) := by rw [Lib.cell_of_heap y3]; rfl
  have c5 : w1.cell? ⟨w.heap.size + 2, 1, none⟩ = some (.slice A3 d3.length p3) := by rw [Lib.cell_of_heap y3]; rfl
  have hs1 : w.heap.size < w1.heap.size := (Array.getElem?_eq_some_iff.1 y1).1
  have hs2 : w.heap.size + 1 < w1.heap.size := (Array.getElem?_eq_some_iff.1 y2).1
  have BW1 := Lib.hid bw1
  clear y1 y2 y3 bw1 B0 B1 X1 X2 X3 Z3
  go_upto_region 4 with (go_at_call 10; (with_reducible refine (K3.out _ BW1.out).mono ?_); rintro e w2 ⟨⟨z3, hz3, rfl⟩, b⟩; have HZ3 := Lib.hid (show z3.natAbs < 10 ^ 8 from hz3); have d0 := (b.cell (p := ⟨w.heap.size, 0, none⟩) hs1).trans c0; have d1' := (b.cell (p := ⟨w.heap.size, 1, none⟩) hs1).trans c1; have d2' := (b.cell (p := ⟨w.heap.size + 1, 0, none⟩) hs2).trans c2; have d3' := (b.cell (p := ⟨w.heap.size + 1, 1, none⟩) hs2).trans c3; have q0 := b.size; have B2 := Lib.hid (BW1.out.trans (b.mono BW1.out.size)); clear hz3 b)
  have hs3 : w.heap.size < w2.heap.size := Nat.lt_of_lt_of_le hs1 q0
  have hs4 : w.heap.size + 1 < w2.heap.size := Nat.lt_of_lt_of_le hs2 q0
  have v3 := canon_size_lt z3 8 HZ3.out (by omega)
  have hmu := fun (z : Int) (hz : z.natAbs < 10 ^ 20) W (hW : Below w.heap.size w W) => mulR_any z z3 W (HT.out.below hW) (by have := canon_size_lt z 20 hz (by omega); omega) (by omega)
  have HMU := Lib.hid hmu
  clear c0 c1 c2 c3 c4 c5 hs1 hs2 q0 v3 hmu K3 HK BW1
  go_cut [8, 9] from 14 to 22 (fun e1 e2 wx => ∃ z1 z2 : Int, e1 = .string (canon (z1 * z3)) ∧ e2 = .string (canon (z2 * z3)) ∧ z1.natAbs < 10 ^ 20 ∧ z2.natAbs < 10 ^ 20 ∧ Below w.heap.size w wx)
  case first =>
    clear HT
    go_region_held3 (fun w' => w'.cell? ⟨w.heap.size, 0, none⟩ = some (.bool m1) ∧ w'.cell? ⟨w.heap.size, 1, none⟩ = some (.slice A1 d1.length p1) ∧ w'.cell? ⟨w.heap.size + 1, 0, none⟩ = some (.bool m2) ∧ w'.cell? ⟨w.heap.size + 1, 1, none⟩ = some (.slice A2 d2.length p2))
      (first | exact ⟨d0, d1', d2', d3'⟩ | exact ⟨e0, e1, e2, e3⟩ | exact ⟨f0, f1, f2, f3⟩ | exact ⟨g0, g1, g2, g3⟩ | exact ⟨i0, i1, i2, i3⟩)
      (first
        | (go_at_call_of 10 (Value.slice A1 d1.length p1); refine (K1.out _ ?_).mono ?_; (first | exact B2.out | exact B2.out.drew); rintro e w3 ⟨⟨z1, hz1, rfl⟩, b⟩; have e0 := (b.cell (p := ⟨w.heap.size, 0, none⟩) hs3).trans d0; have e1 := (b.cell (p := ⟨w.heap.size, 1, none⟩) hs3).trans d1'; have e2 := (b.cell (p := ⟨w.heap.size + 1, 0, none⟩) hs4).trans d2'; have e3 := (b.cell (p := ⟨w.heap.size + 1, 1, none⟩) hs4).trans d3'; have q2 := b.size; have hs5 := Nat.lt_of_lt_of_le hs3 q2; have hs6 := Nat.lt_of_lt_of_le hs4 q2; have HZ1 := Lib.hid (show z1.natAbs < 10 ^ 20 from hz1); have B3 := Lib.hid (Below.trans (first_gcd B2.out) (b.mono B2.out.size)); clear hz1 b)
        | (go_at_call_of 13 (Value.string (canon z1)); (with_reducible refine (HMU.out z1 HZ1.out _ B3.out).mono ?_); rintro e w4 ⟨rfl, b⟩; have f0 := (b.cell (p := ⟨w.heap.size, 0, none⟩) hs5).trans e0; have f1 := (b.cell (p := ⟨w.heap.size, 1, none⟩) hs5).trans e1; have f2 := (b.cell (p := ⟨w.heap.size + 1, 0, none⟩) hs6).trans e2; have f3 := (b.cell (p := ⟨w.heap.size + 1, 1, none⟩) hs6).trans e3; have hs7 := Nat.lt_of_lt_of_le hs5 b.size; have hs8 := Nat.lt_of_lt_of_le hs6 b.size; have B4 := Lib.hid (B3.out.trans (b.mono B3.out.size)); clear b)
        | (go_at_call_of 10 (Value.slice A2 d2.length p2); refine (K2.out _ B4.out).mono ?_; rintro e w5 ⟨⟨z2, hz2, rfl⟩, b⟩; have g0 := (b.cell (p := ⟨w.heap.size, 0, none⟩) hs7).trans f0; have g1 := (b.cell (p := ⟨w.heap.size, 1, none⟩) hs7).trans f1; have g2 := (b.cell (p := ⟨w.heap.size + 1, 0, none⟩) hs8).trans f2; have g3 := (b.cell (p := ⟨w.heap.size + 1, 1, none⟩) hs8).trans f3; have hs9 := Nat.lt_of_lt_of_le hs7 b.size; have hs10 := Nat.lt_of_lt_of_le hs8 b.size; have HZ2 := Lib.hid (show z2.natAbs < 10 ^ 20 from hz2); have B5 := Lib.hid (B4.out.trans (b.mono B4.out.size)); clear hz2 b)
        | (go_at_call 13; (with_reducible refine (HMU.out z2 HZ2.out _ B5.out).mono ?_); rintro e w6 ⟨rfl, b⟩; have i0 := (b.cell (p := ⟨w.heap.size, 0, none⟩) hs9).trans g0; have i1 := (b.cell (p := ⟨w.heap.size, 1, none⟩) hs9).trans g1; have i2 := (b.cell (p := ⟨w.heap.size + 1, 0, none⟩) hs10).trans g2; have i3 := (b.cell (p := ⟨w.heap.size + 1, 1, none⟩) hs10).trans g3; have B6 := Lib.hid (B5.out.trans (b.mono B5.out.size)); clear b)
        | fail "arm")
    all_goals
      go_wp2_with fail
      go_meet
      exact ⟨z1, z2, rfl, rfl, HZ1.out, HZ2.out, B6.out⟩
  case rest =>
    obtain ⟨z1, z2, rfl, rfl, hz1, hz2, b7⟩ := hcut
    have B7 := Lib.hid b7
    have v1 := canon_size_lt (z1 * z3) 28 (mulabs_gcd hz1 HZ3.out) (by omega)
    have v2 := canon_size_lt (z2 * z3) 28 (mulabs_gcd hz2 HZ3.out) (by omega)
    clear b7 K1 K2 B2 d0 d1' d2' d3' hs3 hs4 HZ3 HMU hz1 hz2
    have l1 := fun W (hW : Below w.heap.size w W) => gcd_any (z1 * z3) (z2 * z3) W (HT.out.below hW) (by omega) (by omega)
    have l2 := fun W (hW : Below w.heap.size w W) => gcdR_any (z1 * z3) (z2 * z3) W (HT.out.below hW) (by omega) (by omega)
    generalize z1 * z3 = y1 at *
    generalize z2 * z3 = y2 at *
    generalize (Int.gcd y1 y2 : Int) = yg at *
    have L1 := Lib.hid l1
    have L2 := Lib.hid l2
    clear l1 l2 v1 v2 HT
    go_wp2_with (first
      | (go_at_call 14; (with_reducible refine (L1.out _ B7.out).mono ?_); rintro e w8 ⟨rfl, b⟩; have B8 := Lib.hid (B7.out.trans (b.mono B7.out.size)); clear b)
      | (go_at_call 15; (with_reducible refine (L2.out _ B8.out).mono ?_); rintro e w9 ⟨rfl, b⟩; have B9 := Lib.hid (B8.out.trans (b.mono B8.out.size)); clear b))
    go_ret
    exact ⟨by simp, B9.out⟩

end Go.Proofs.YtmkeigfckfkifaaGreatDoor
