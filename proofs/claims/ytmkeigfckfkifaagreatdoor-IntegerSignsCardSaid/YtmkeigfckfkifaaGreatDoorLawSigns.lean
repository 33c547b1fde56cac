/- IntegerSigns: for any two described integers of at most 70 digits: the walk: the call returns true and leaves the descriptions as they were. Conditions: those of the given row alone. -/
import Derived.Test.YtmkeigfckfkifaaGreatDoorGLaw
import Derived.Test.YtmkeigfckfkifaaGreatDoorGRefB
import Derived.Deep.RegionHeld3
import Derived.Deep.CutRange
namespace Go.Proofs.YtmkeigfckfkifaaGreatDoor
open Go.RowKit

theorem first_of {w W : World} (h : Below w.heap.size w W) : Below w.heap.size w W.drew := h.drew

set_option maxRecDepth 100000 in
set_option maxHeartbeats 8000000 in
theorem signs_walk (m1 m2 : Bool) (A1 A2 : Option Addr) (p1 p2 : Nat) (d1 d2 : List Int) (w : World) (h1 : Sl w .u8 A1 p1 d1) (h2 : Sl w .u8 A2 p2 d2) (r1 : ∀ x ∈ d1, 0 ≤ x ∧ x < 256) (r2 : ∀ x ∈ d2, 0 ≤ x ∧ x < 256) (ht : Pow10 w) :
    Calls Tryz.prog 8 #[.agg #[.bool m1, .slice A1 d1.length p1], .agg #[.bool m2, .slice A2 d2.length p2]] w fun e w' => e = .returned (.bool true) ∧ Below w.heap.size w w' := by
  have hk := fun W (hW : Below w.heap.size w W) => known_any W (ht.below hW)
  have k1 := fun W (hW : Below w.heap.size w W) => make_any m1 A1 p1 d1 70 W (h1.below hW) r1 (by omega) (by omega)
  have k2 := fun W (hW : Below w.heap.size w W) => make_any m2 A2 p2 d2 70 W (h2.below hW) r2 (by omega) (by omega)
  have HK := Lib.hid hk
  have K1 := Lib.hid k1
  have K2 := Lib.hid k2
  have HT := Lib.hid ht
  have z1 : (w.alloc (Obj.cells #[Value.bool m1, Value.slice A1 d1.length p1] 24)).heap.size = w.heap.size + 1 := World.size_alloc ..
  have z2 : ((w.alloc (Obj.cells #[Value.bool m1, Value.slice A1 d1.length p1] 24)).alloc (Obj.cells #[Value.bool m2, Value.slice A2 d2.length p2] 24)).heap.size = w.heap.size + 2 := by rw [World.size_alloc, z1]
  have b0 : Below w.heap.size w ((w.alloc (Obj.cells #[Value.bool m1, Value.slice A1 d1.length p1] 24)).alloc (Obj.cells #[Value.bool m2, Value.slice A2 d2.length p2] 24)) := ((Below.refl _ _).alloc (Nat.le_refl _) _).alloc (by rw [z1]; omega) _
  have x1 := heap_more (heap_alloc_new w (Obj.cells #[Value.bool m1, Value.slice A1 d1.length p1] 24)) (Obj.cells #[Value.bool m2, Value.slice A2 d2.length p2] 24)
  have x2 := heap_alloc_new (w.alloc (Obj.cells #[Value.bool m1, Value.slice A1 d1.length p1] 24)) (Obj.cells #[Value.bool m2, Value.slice A2 d2.length p2] 24)
  rw [z1] at x2
  have B0 := Lib.hid b0
  have X1 := Lib.hid x1
  have X2 := Lib.hid x2
  have Z2 := Lib.hid z2
  clear hk k1 k2 ht b0 x1 x2 h1 h2 r1 r2 z1 z2
  go_enter Tryz.func8, Tryz.ntmps8
  go_upto_region 3 with (go_at_call 9; refine (HK.out _ B0.out).mono ?_; rintro e w1 ⟨rfl, b1⟩; have B1 := Lib.hid b1; clear b1)
  have y1 := (B1.out.block w.heap.size (by rw [Z2.out]; omega)).trans X1.out
  have y2 := (B1.out.block (w.heap.size + 1) (by rw [Z2.out]; omega)).trans X2.out
  have bw1 := B0.out.trans (B1.out.mono B0.out.size)
  have c0 : w1.cell? ⟨w.heap.size, 0, none⟩ = some (.bool m1) := by rw [Lib.cell_of_heap y1]; rfl
  have c1 : w1.cell? ⟨w.heap.size, 1, none⟩ = some (.slice A1 d1.length p1) := by rw [Lib.cell_of_heap y1]; rfl
  have c2 : w1.cell? ⟨w.heap.size + 1, 0, none⟩ = some (.bool m2) := by rw [Lib.cell_of_heap y2]; rfl
  have c3 : w1.cell? ⟨w.heap.size + 1, 1, none⟩ = some (.slice A2 d2.length p2) := by rw [Lib.cell_of_heap y2]; rfl
  have hs1 : w.heap.size < w1.heap.size := (Array.getElem?_eq_some_iff.1 y1).1
  have hs2 : w.heap.size + 1 < w1.heap.size := (Array.getElem?_eq_some_iff.1 y2).1
  have BW1 := Lib.hid bw1
  clear y1 y2 bw1 B0 B1 X1 X2 Z2
  go_cut [5, 6] from 9 to 12 (fun e1 e2 wx => ∃ z1 z2 : Int, e1 = .string (canon z1) ∧ e2 = .string (canon z2) ∧ z1.natAbs < 10 ^ 70 ∧ z2.natAbs < 10 ^ 70 ∧ Below w.heap.size w wx)
  case first =>
    clear HT
    go_region_held3 (fun w' => w'.cell? ⟨w.heap.size, 0, none⟩ = some (.bool m1) ∧ w'.cell? ⟨w.heap.size, 1, none⟩ = some (.slice A1 d1.length p1) ∧ w'.cell? ⟨w.heap.size + 1, 0, none⟩ = some (.bool m2) ∧ w'.cell? ⟨w.heap.size + 1, 1, none⟩ = some (.slice A2 d2.length p2))
      (first | exact ⟨c0, c1, c2, c3⟩ | exact ⟨e0, e1, e2, e3⟩ | exact ⟨f0, f1, f2, f3⟩)
      (first
        | (go_at_call_of 10 (Value.slice A1 d1.length p1); refine (K1.out _ ?_).mono ?_; (first | exact BW1.out | exact BW1.out.drew); rintro e w2 ⟨⟨z1, hz1, rfl⟩, b⟩; have e0 := (b.cell (p := ⟨w.heap.size, 0, none⟩) hs1).trans c0; have e1 := (b.cell (p := ⟨w.heap.size, 1, none⟩) hs1).trans c1; have e2 := (b.cell (p := ⟨w.heap.size + 1, 0, none⟩) hs2).trans c2; have e3 := (b.cell (p := ⟨w.heap.size + 1, 1, none⟩) hs2).trans c3; have q2 := b.size; have HZ1 := Lib.hid hz1; have B2 := Lib.hid (Below.trans (first_of BW1.out) (b.mono BW1.out.size)); clear hz1 b)
        | (go_at_call_of 10 (Value.slice A2 d2.length p2); refine (K2.out _ B2.out).mono ?_; rintro e w3 ⟨⟨z2, hz2, rfl⟩, b⟩; have f0 := (b.cell (p := ⟨w.heap.size, 0, none⟩) (Nat.lt_of_lt_of_le hs1 q2)).trans e0; have f1 := (b.cell (p := ⟨w.heap.size, 1, none⟩) (Nat.lt_of_lt_of_le hs1 q2)).trans e1; have f2 := (b.cell (p := ⟨w.heap.size + 1, 0, none⟩) (Nat.lt_of_lt_of_le hs2 q2)).trans e2; have f3 := (b.cell (p := ⟨w.heap.size + 1, 1, none⟩) (Nat.lt_of_lt_of_le hs2 q2)).trans e3; have HZ2 := Lib.hid hz2; have B3 := Lib.hid (B2.out.trans (b.mono B2.out.size)); clear hz2 b))
    all_goals
      go_wp2_with fail
      go_meet
      exact ⟨z1, z2, rfl, rfl, HZ1.out, HZ2.out, B3.out⟩
  case rest =>
    obtain ⟨z1, z2, rfl, rfl, hz1, hz2, b4⟩ := hcut
    have B4 := Lib.hid b4
    clear b4 K1 K2 BW1 c0 c1 c2 c3 hs1 hs2
    have v1 := canon_size_lt z1 70 hz1 (by omega)
    have v2 := canon_size_lt z2 70 hz2 (by omega)
    clear hz1 hz2
    have l1 := fun W => sign_any z1 W
    have l2 := fun W => signR_any z1 W (by omega)
    have l3 := fun W => compare_any z1 z2 W
    have l4 := fun W (hW : Below w.heap.size w W) => compareR_any z1 z2 W (HT.out.below hW) (by omega) (by omega)
    have l5 := fun W => neg_any z1 W (by omega)
    have l6 := fun W => negR_any z1 W (by omega)
    have l7 := fun W => abs_any z1 W
    have l8 := fun W => absR_any z1 W (by omega)
    generalize z1.sign = sg at *
    generalize (z1 - z2).sign = sd at *
    generalize -z1 = zn at *
    generalize (z1.natAbs : Int) = za at *
    have L1 := Lib.hid l1
    have L2 := Lib.hid l2
    have L3 := Lib.hid l3
    have L4 := Lib.hid l4
    have L5 := Lib.hid l5
    have L6 := Lib.hid l6
    have L7 := Lib.hid l7
    have L8 := Lib.hid l8
    clear l1 l2 l3 l4 l5 l6 l7 l8 v1 v2 HT
    go_wp2_with (first
      | (go_at_call_of 27 (Value.string (canon z1)); (with_reducible refine (L1.out _).mono ?_); rintro e x5 ⟨rfl, rfl⟩)
      | (go_at_call_of 19 (Value.string (canon z1)); (with_reducible refine (L2.out _).mono ?_); rintro e x5 ⟨rfl, b⟩; have B5 := Lib.hid (B4.out.trans (b.mono B4.out.size)); clear b)
      | (go_at_call_of 28 (Value.string (canon z1)); (with_reducible refine (L3.out _).mono ?_); rintro e x6 ⟨rfl, rfl⟩)
      | (go_at_call_of 29 (Value.string (canon z1)); (with_reducible refine (L4.out _ B5.out).mono ?_); rintro e x6 ⟨rfl, b⟩; have B6 := Lib.hid (B5.out.trans (b.mono B5.out.size)); clear b)
      | (go_at_call_of 30 (Value.string (canon z1)); (with_reducible refine (L5.out _).mono ?_); rintro e x7 ⟨rfl, b⟩; have B7 := Lib.hid (B6.out.trans (b.mono B6.out.size)); clear b)
      | (go_at_call_of 31 (Value.string (canon z1)); (with_reducible refine (L6.out _).mono ?_); rintro e x8 ⟨rfl, b⟩; have B8 := Lib.hid (B7.out.trans (b.mono B7.out.size)); clear b)
      | (go_at_call_of 32 (Value.string (canon z1)); (with_reducible refine (L7.out _).mono ?_); rintro e x9 ⟨rfl, b⟩; have B9 := Lib.hid (B8.out.trans (b.mono B8.out.size)); clear b)
      | (go_at_call_of 22 (Value.string (canon z1)); (with_reducible refine (L8.out _).mono ?_); rintro e x10 ⟨rfl, b⟩; have B10 := Lib.hid (B9.out.trans (b.mono B9.out.size)); clear b)
      | fail "arm")
    go_ret
    exact ⟨by simp, B10.out⟩

end Go.Proofs.YtmkeigfckfkifaaGreatDoor
