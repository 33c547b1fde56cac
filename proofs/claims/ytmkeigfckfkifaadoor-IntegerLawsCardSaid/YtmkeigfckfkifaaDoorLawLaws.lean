/- IntegerLaws: for any three described integers of at most 24 digits the call returns true and leaves the descriptions as they were. Conditions: those of the given row alone. -/
import Derived.Test.YtmkeigfckfkifaaDoorLawBase
import Derived.Test.YtmkeigfckfkifaaDoorSub
import Derived.Test.YtmkeigfckfkifaaDoorMake
import Derived.Deep.RegionHeld3
import Derived.Deep.CutRange
namespace Go.Proofs.YtmkeigfckfkifaaDoor
open Go.RowKit

theorem first_off {w W : World} (h : Below w.heap.size w W) : Below w.heap.size w W.drew := h.drew

theorem mulabs_lt {x y : Int} {m n : Nat} (hx : x.natAbs < 10 ^ m) (hy : y.natAbs < 10 ^ n) : (x * y).natAbs < 10 ^ (m + n) := by
  rw [Int.natAbs_mul, Nat.pow_add]
  exact Nat.mul_lt_mul_of_lt_of_lt hx hy

theorem addabs_lt {x y : Int} {m : Nat} (hx : x.natAbs < 10 ^ m) (hy : y.natAbs < 10 ^ m) : (x + y).natAbs < 10 ^ (m + 1) := by
  rw [Nat.pow_succ]
  omega

set_option maxRecDepth 100000 in
set_option maxHeartbeats 8000000 in
theorem laws_walk (m1 m2 m3 : Bool) (A1 A2 A3 : Option Addr) (p1 p2 p3 : Nat) (d1 d2 d3 : List Int) (w : World) (h1 : Sl w .u8 A1 p1 d1) (h2 : Sl w .u8 A2 p2 d2) (h3 : Sl w .u8 A3 p3 d3) (r1 : ∀ x ∈ d1, 0 ≤ x ∧ x < 256) (r2 : ∀ x ∈ d2, 0 ≤ x ∧ x < 256) (r3 : ∀ x ∈ d3, 0 ≤ x ∧ x < 256) (ht : Pow10 w) :
    Calls Tryd.prog 8 #[.agg #[.bool m1, .slice A1 d1.length p1], .agg #[.bool m2, .slice A2 d2.length p2], .agg #[.bool m3, .slice A3 d3.length p3]] w fun e w' => e = .returned (.bool true) ∧ Below w.heap.size w w' := by
  have hk := fun W (hW : Below w.heap.size w W) => known_any W (ht.below hW)
  have k1 := fun W (hW : Below w.heap.size w W) => make_any m1 A1 p1 d1 24 W (h1.below hW) r1 (by omega) (by omega)
  have k2 := fun W (hW : Below w.heap.size w W) => make_any m2 A2 p2 d2 24 W (h2.below hW) r2 (by omega) (by omega)
  have k3 := fun W (hW : Below w.heap.size w W) => make_any m3 A3 p3 d3 24 W (h3.below hW) r3 (by omega) (by omega)
  have HK := Lib.hid hk
  have K1 := Lib.hid k1
  have K2 := Lib.hid k2
  have K3 := Lib.hid k3
  have HT := Lib.hid ht
  have z1 : (w.alloc (Obj.cells #[Value.bool m1, Value.slice A1 d1.length p1] 30)).heap.size = w.heap.size + 1 := World.size_alloc ..
  have z2 : ((w.alloc (Obj.cells #[Value.bool m1, Value.slice A1 d1.length p1] 30)).alloc (Obj.cells #[Value.bool m2, Value.slice A2 d2.length p2] 30)).heap.size = w.heap.size + 2 := by rw [World.size_alloc, z1]
  have z3 : (((w.alloc (Obj.cells #[Value.bool m1, Value.slice A1 d1.length p1] 30)).alloc (Obj.cells #[Value.bool m2, Value.slice A2 d2.length p2] 30)).alloc (Obj.cells #[Value.bool m3, Value.slice A3 d3.length p3] 30)).heap.size = w.heap.size + 3 := by rw [World.size_alloc, z2]
  have b0 : Below w.heap.size w (((w.alloc (Obj.cells #[Value.bool m1, Value.slice A1 d1.length p1] 30)).alloc (Obj.cells #[Value.bool m2, Value.slice A2 d2.length p2] 30)).alloc (Obj.cells #[Value.bool m3, Value.slice A3 d3.length p3] 30)) := (((Below.refl _ _).alloc (Nat.le_refl _) _).alloc (by rw [z1]; omega) _).alloc (by rw [z2]; omega) _
  have x1 := heap_more (heap_more (heap_alloc_new w (Obj.cells #[Value.bool m1, Value.slice A1 d1.length p1] 30)) (Obj.cells #[Value.bool m2, Value.slice A2 d2.length p2] 30)) (Obj.cells #[Value.bool m3, Value.slice A3 d3.length p3] 30)
  have x2 := heap_more (heap_alloc_new (w.alloc (Obj.cells #[Value.bool m1, Value.slice A1 d1.length p1] 30)) (Obj.cells #[Value.bool m2, Value.slice A2 d2.length p2] 30)) (Obj.cells #[Value.bool m3, Value.slice A3 d3.length p3] 30)
  have x3 := heap_alloc_new ((w.alloc (Obj.cells #[Value.bool m1, Value.slice A1 d1.length p1] 30)).alloc (Obj.cells #[Value.bool m2, Value.slice A2 d2.length p2] 30)) (Obj.cells #[Value.bool m3, Value.slice A3 d3.length p3] 30)
  rw [z1] at x2
  rw [z2] at x3
  have B0 := Lib.hid b0
  have X1 := Lib.hid x1
  have X2 := Lib.hid x2
  have X3 := Lib.hid x3
  have Z3 := Lib.hid z3
  clear hk k1 k2 k3 ht b0 x1 x2 x3 h1 h2 h3 r1 r2 r3 z1 z2 z3
  go_enter Tryd.func8, Tryd.ntmps8
  go_upto_region 3 with (go_at_call 9; refine (HK.out _ B0.out).mono ?_; rintro e w1 ⟨rfl, b1⟩; have B1 := Lib.hid b1; clear b1)
  have y1 := (B1.out.block w.heap.size (by rw [Z3.out]; omega)).trans X1.out
  have y2 := (B1.out.block (w.heap.size + 1) (by rw [Z3.out]; omega)).trans X2.out
  have y3 := (B1.out.block (w.heap.size + 2) (by rw [Z3.out]; omega)).trans X3.out
  have bw1 := B0.out.trans (B1.out.mono B0.out.size)
  have c0 : w1.cell? ⟨w.heap.size, 0, none⟩ = some (.bool m1) := by rw [Lib.cell_of_heap y1]; rfl
  have c1 : w1.cell? ⟨w.heap.size, 1, none⟩ = some (.slice A1 d1.length p1) := by rw [Lib.cell_of_heap y1]; rfl
  have c2 : w1.cell? ⟨w.heap.size + 1, 0, none⟩ = some (.bool m2) := by rw [Lib.cell_of_heap y2]; rfl
  have c3 : w1.cell? ⟨w.heap.size + 1, 1, none⟩ = some (.slice A2 d2.length p2) := by rw [Lib.cell_of_heap y2]; rfl
  have c4 : w1.cell? ⟨w.heap.size + 2, 0, none⟩ = some (.bool m3) := by rw [Lib.cell_of_heap y3]; rfl
  have c5 : w1.cell? ⟨w.heap.size + 2, 1, none⟩ = some (.slice A3 d3.length p3) := by rw [Lib.cell_of_heap y3]; rfl
  have hs1 : w.heap.size < w1.heap.size := (Array.getElem?_eq_some_iff.1 y1).1
  have hs2 : w.heap.size + 1 < w1.heap.size := (Array.getElem?_eq_some_iff.1 y2).1
  have hs3 : w.heap.size + 2 < w1.heap.size := (Array.getElem?_eq_some_iff.1 y3).1
  have BW1 := Lib.hid bw1
  clear y1 y2 y3 bw1 B0 B1 X1 X2 X3 Z3
  go_cut [7, 8, 9] from 14 to 19 (fun e1 e2 e3 wx => ∃ z1 z2 z3 : Int, e1 = .string (canon z1) ∧ e2 = .string (canon z2) ∧ e3 = .string (canon z3) ∧ z1.natAbs < 10 ^ 24 ∧ z2.natAbs < 10 ^ 24 ∧ z3.natAbs < 10 ^ 24 ∧ Below w.heap.size w wx)
  case first =>
    clear HT
    go_region_held3 (fun w' => w'.cell? ⟨w.heap.size, 0, none⟩ = some (.bool m1) ∧ w'.cell? ⟨w.heap.size, 1, none⟩ = some (.slice A1 d1.length p1) ∧ w'.cell? ⟨w.heap.size + 1, 0, none⟩ = some (.bool m2) ∧ w'.cell? ⟨w.heap.size + 1, 1, none⟩ = some (.slice A2 d2.length p2) ∧ w'.cell? ⟨w.heap.size + 2, 0, none⟩ = some (.bool m3) ∧ w'.cell? ⟨w.heap.size + 2, 1, none⟩ = some (.slice A3 d3.length p3))
      (first | exact ⟨c0, c1, c2, c3, c4, c5⟩ | exact ⟨e0, e1, e2, e3, e4, e5⟩ | exact ⟨f0, f1, f2, f3, f4, f5⟩ | exact ⟨g0, g1, g2, g3, g4, g5⟩)
      (first
        | (go_at_call_of 12 (Value.slice A1 d1.length p1); refine (K1.out _ ?_).mono ?_; (first | exact BW1.out | exact BW1.out.drew); rintro e w2 ⟨⟨z1, hz1, rfl⟩, b⟩; have e0 := (b.cell (p := ⟨w.heap.size, 0, none⟩) hs1).trans c0; have e1 := (b.cell (p := ⟨w.heap.size, 1, none⟩) hs1).trans c1; have e2 := (b.cell (p := ⟨w.heap.size + 1, 0, none⟩) hs2).trans c2; have e3 := (b.cell (p := ⟨w.heap.size + 1, 1, none⟩) hs2).trans c3; have e4 := (b.cell (p := ⟨w.heap.size + 2, 0, none⟩) hs3).trans c4; have e5 := (b.cell (p := ⟨w.heap.size + 2, 1, none⟩) hs3).trans c5; have q2 := b.size; have HZ1 := Lib.hid hz1; have B2 := Lib.hid (Below.trans (first_off BW1.out) (b.mono BW1.out.size)); clear hz1 b)
        | (go_at_call_of 12 (Value.slice A2 d2.length p2); refine (K2.out _ B2.out).mono ?_; rintro e w3 ⟨⟨z2, hz2, rfl⟩, b⟩; have f0 := (b.cell (p := ⟨w.heap.size, 0, none⟩) (Nat.lt_of_lt_of_le hs1 q2)).trans e0; have f1 := (b.cell (p := ⟨w.heap.size, 1, none⟩) (Nat.lt_of_lt_of_le hs1 q2)).trans e1; have f2 := (b.cell (p := ⟨w.heap.size + 1, 0, none⟩) (Nat.lt_of_lt_of_le hs2 q2)).trans e2; have f3 := (b.cell (p := ⟨w.heap.size + 1, 1, none⟩) (Nat.lt_of_lt_of_le hs2 q2)).trans e3; have f4 := (b.cell (p := ⟨w.heap.size + 2, 0, none⟩) (Nat.lt_of_lt_of_le hs3 q2)).trans e4; have f5 := (b.cell (p := ⟨w.heap.size + 2, 1, none⟩) (Nat.lt_of_lt_of_le hs3 q2)).trans e5; have q3 := Nat.le_trans q2 b.size; have HZ2 := Lib.hid hz2; have B3 := Lib.hid (B2.out.trans (b.mono B2.out.size)); clear hz2 b)
        | (go_at_call_of 12 (Value.slice A3 d3.length p3); refine (K3.out _ B3.out).mono ?_; rintro e w4 ⟨⟨z3, hz3, rfl⟩, b⟩; have g0 := (b.cell (p := ⟨w.heap.size, 0, none⟩) (Nat.lt_of_lt_of_le hs1 q3)).trans f0; have g1 := (b.cell (p := ⟨w.heap.size, 1, none⟩) (Nat.lt_of_lt_of_le hs1 q3)).trans f1; have g2 := (b.cell (p := ⟨w.heap.size + 1, 0, none⟩) (Nat.lt_of_lt_of_le hs2 q3)).trans f2; have g3 := (b.cell (p := ⟨w.heap.size + 1, 1, none⟩) (Nat.lt_of_lt_of_le hs2 q3)).trans f3; have g4 := (b.cell (p := ⟨w.heap.size + 2, 0, none⟩) (Nat.lt_of_lt_of_le hs3 q3)).trans f4; have g5 := (b.cell (p := ⟨w.heap.size + 2, 1, none⟩) (Nat.lt_of_lt_of_le hs3 q3)).trans f5; have HZ3 := Lib.hid hz3; have B4 := Lib.hid (B3.out.trans (b.mono B3.out.size)); clear hz3 b))
    all_goals
      go_wp2_with fail
      go_meet
      exact ⟨z1, z2, z3, rfl, rfl, rfl, HZ1.out, HZ2.out, HZ3.out, B4.out⟩
  case rest =>
    obtain ⟨z1, z2, z3, rfl, rfl, rfl, hz1, hz2, hz3, b4⟩ := hcut
    have HZ1 := Lib.hid hz1
    have HZ2 := Lib.hid hz2
    have HZ3 := Lib.hid hz3
    have B4 := Lib.hid b4
    clear hz1 hz2 hz3 b4 K1 K2 K3 BW1 c0 c1 c2 c3 c4 c5 hs1 hs2 hs3
    obtain ⟨s, hs⟩ : ∃ s, z1 + z2 = s := ⟨_, rfl⟩
    obtain ⟨p, hp⟩ : ∃ p, z1 * z2 = p := ⟨_, rfl⟩
    obtain ⟨t, ht⟩ : ∃ t, z3 * s = t := ⟨_, rfl⟩
    obtain ⟨u, hu⟩ : ∃ u, z3 * z1 = u := ⟨_, rfl⟩
    obtain ⟨v, hv⟩ : ∃ v, z3 * z2 = v := ⟨_, rfl⟩
    obtain ⟨x, hx⟩ : ∃ x, z1 + z3 = x := ⟨_, rfl⟩
    obtain ⟨y, hy⟩ : ∃ y, z2 + z3 = y := ⟨_, rfl⟩
    obtain ⟨r, hr⟩ : ∃ r, (z1 - z2).sign = r := ⟨_, rfl⟩
    have v1 := canon_size_lt z1 24 HZ1.out (by omega)
    have v2 := canon_size_lt z2 24 HZ2.out (by omega)
    have v3 := canon_size_lt z3 24 HZ3.out (by omega)
    have vs := canon_size_lt (z1 + z2) 25 (addabs_lt HZ1.out HZ2.out) (by omega)
    have vx := canon_size_lt (z1 + z3) 25 (addabs_lt HZ1.out HZ3.out) (by omega)
    have vy := canon_size_lt (z2 + z3) 25 (addabs_lt HZ2.out HZ3.out) (by omega)
    have vu := canon_size_lt (z3 * z1) 48 (mulabs_lt HZ3.out HZ1.out) (by omega)
    have vv := canon_size_lt (z3 * z2) 48 (mulabs_lt HZ3.out HZ2.out) (by omega)
    rw [hs] at vs
    rw [hx] at vx
    rw [hy] at vy
    rw [hu] at vu
    rw [hv] at vv
    have i1 : z2 + z1 = s := by rw [Int.add_comm, hs]
    have i2 : z2 * z1 = p := by rw [Int.mul_comm, hp]
    have i3 : s - z2 = z1 := by omega
    have i4 : u + v = t := by rw [← hu, ← hv, ← ht, ← hs, Int.mul_add]
    have i5 : (x - y).sign = r := by rw [← hr]; exact congrArg Int.sign (by omega)
    have l0 := fun W (hW : Below w.heap.size w W) => add_any z1 z2 W (HT.out.below hW) (by omega) (by omega)
    rw [hs] at l0
    have L0 := Lib.hid l0
    have l1 := fun W (hW : Below w.heap.size w W) => mul_any z1 z2 W (HT.out.below hW) (by omega) (by omega)
    rw [hp] at l1
    have L1 := Lib.hid l1
    have l2 := fun W (hW : Below w.heap.size w W) => add_any z2 z1 W (HT.out.below hW) (by omega) (by omega)
    rw [i1] at l2
    have L2 := Lib.hid l2
    have l3 := fun W (hW : Below w.heap.size w W) => mul_any z2 z1 W (HT.out.below hW) (by omega) (by omega)
    rw [i2] at l3
    have L3 := Lib.hid l3
    have l4 := fun W (hW : Below w.heap.size w W) => sub_any s z2 W (HT.out.below hW) (by omega) (by omega)
    rw [i3] at l4
    have L4 := Lib.hid l4
    have l5 := fun W (hW : Below w.heap.size w W) => mul_any z3 s W (HT.out.below hW) (by omega) (by omega)
    rw [ht] at l5
    have L5 := Lib.hid l5
    have l6 := fun W (hW : Below w.heap.size w W) => mul_any z3 z1 W (HT.out.below hW) (by omega) (by omega)
    rw [hu] at l6
    have L6 := Lib.hid l6
    have l7 := fun W (hW : Below w.heap.size w W) => mul_any z3 z2 W (HT.out.below hW) (by omega) (by omega)
    rw [hv] at l7
    have L7 := Lib.hid l7
    have l8 := fun W (hW : Below w.heap.size w W) => add_any u v W (HT.out.below hW) (by omega) (by omega)
    rw [i4] at l8
    have L8 := Lib.hid l8
    have l9 := fun W (hW : Below w.heap.size w W) => add_any z1 z3 W (HT.out.below hW) (by omega) (by omega)
    rw [hx] at l9
    have L9 := Lib.hid l9
    have l10 := fun W (hW : Below w.heap.size w W) => add_any z2 z3 W (HT.out.below hW) (by omega) (by omega)
    rw [hy] at l10
    have L10 := Lib.hid l10
    have l11 := fun W => compare_any x y W
    rw [i5] at l11
    have L11 := Lib.hid l11
    have l12 := fun W => compare_any z1 z2 W
    rw [hr] at l12
    have L12 := Lib.hid l12
    clear hs hp ht hu hv hx hy hr v1 v2 v3 vs vx vy vu vv i1 i2 i3 i4 i5 l0 l1 l2 l3 l4 l5 l6 l7 l8 l9 l10 l11 l12
    go_wp2_with (first
      | (go_at_call_of 23 (Value.string (canon z1)); (with_reducible refine (L0.out _ B4.out).mono ?_); rintro e w5 ⟨rfl, b⟩; have B5 := Lib.hid (B4.out.trans (b.mono B4.out.size)); clear b)
      | (go_at_call_of 13 (Value.string (canon z1)); (with_reducible refine (L1.out _ B5.out).mono ?_); rintro e w6 ⟨rfl, b⟩; have B6 := Lib.hid (B5.out.trans (b.mono B5.out.size)); clear b)
      | (go_at_call_of 23 (Value.string (canon z2)); (with_reducible refine (L2.out _ B6.out).mono ?_); rintro e w7 ⟨rfl, b⟩; have B7 := Lib.hid (B6.out.trans (b.mono B6.out.size)); clear b)
      | (go_at_call_of 13 (Value.string (canon z2)); (with_reducible refine (L3.out _ B7.out).mono ?_); rintro e w8 ⟨rfl, b⟩; have B8 := Lib.hid (B7.out.trans (b.mono B7.out.size)); clear b)
      | (go_at_call_of 27 (Value.string (canon s)); (with_reducible refine (L4.out _ B8.out).mono ?_); rintro e w9 ⟨rfl, b⟩; have B9 := Lib.hid (B8.out.trans (b.mono B8.out.size)); clear b)
      | (go_at_call_of 13 (Value.string (canon z3)); (with_reducible refine (L5.out _ B9.out).mono ?_); rintro e w10 ⟨rfl, b⟩; have B10 := Lib.hid (B9.out.trans (b.mono B9.out.size)); clear b)
      | (go_at_call_of 13 (Value.string (canon z3)); (with_reducible refine (L6.out _ B10.out).mono ?_); rintro e w11 ⟨rfl, b⟩; have B11 := Lib.hid (B10.out.trans (b.mono B10.out.size)); clear b)
      | (go_at_call_of 13 (Value.string (canon z3)); (with_reducible refine (L7.out _ B11.out).mono ?_); rintro e w12 ⟨rfl, b⟩; have B12 := Lib.hid (B11.out.trans (b.mono B11.out.size)); clear b)
      | (go_at_call_of 23 (Value.string (canon u)); (with_reducible refine (L8.out _ B12.out).mono ?_); rintro e w13 ⟨rfl, b⟩; have B13 := Lib.hid (B12.out.trans (b.mono B12.out.size)); clear b)
      | (go_at_call_of 23 (Value.string (canon z1)); (with_reducible refine (L9.out _ B13.out).mono ?_); rintro e w14 ⟨rfl, b⟩; have B14 := Lib.hid (B13.out.trans (b.mono B13.out.size)); clear b)
      | (go_at_call_of 23 (Value.string (canon z2)); (with_reducible refine (L10.out _ B14.out).mono ?_); rintro e w15 ⟨rfl, b⟩; have B15 := Lib.hid (B14.out.trans (b.mono B14.out.size)); clear b)
      | (go_at_call_of 24 (Value.string (canon x)); (with_reducible refine (L11.out _).mono ?_); rintro e w16 ⟨rfl, rfl⟩)
      | (go_at_call_of 24 (Value.string (canon z1)); (with_reducible refine (L12.out _).mono ?_); rintro e w17 ⟨rfl, rfl⟩))
    go_ret
    exact ⟨rfl, B15.out⟩

end Go.Proofs.YtmkeigfckfkifaaDoor
