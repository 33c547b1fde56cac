/- IntegerProducts: for any two described integers of at most 60 digits the call returns true and leaves the descriptions as they were. Conditions: those of the given row alone. -/
import Derived.Test.YtmkeigfckfkifaaDoorLawBase
import Derived.Test.YtmkeigfckfkifaaDoorRefMul
import Derived.Test.YtmkeigfckfkifaaDoorMake
import Derived.Deep.RegionHeld3
namespace Go.Proofs.YtmkeigfckfkifaaDoor
open Go.RowKit

theorem first_of {w W : World} (h : Below w.heap.size w W) : Below w.heap.size w W.drew := h.drew

set_option maxRecDepth 100000 in
set_option maxHeartbeats 4000000 in
theorem products_walk (m1 m2 : Bool) (A1 A2 : Option Addr) (p1 p2 : Nat) (d1 d2 : List Int) (w : World) (h1 : Sl w .u8 A1 p1 d1) (h2 : Sl w .u8 A2 p2 d2) (r1 : ∀ x ∈ d1, 0 ≤ x ∧ x < 256) (r2 : ∀ x ∈ d2, 0 ≤ x ∧ x < 256) (ht : Pow10 w) :
    Calls Tryd.prog 4 #[.agg #[.bool m1, .slice A1 d1.length p1], .agg #[.bool m2, .slice A2 d2.length p2]] w fun e w' => e = .returned (.bool true) ∧ Below w.heap.size w w' := by
  have hk := fun W (hW : Below w.heap.size w W) => known_any W (ht.below hW)
  have k1 := fun W (hW : Below w.heap.size w W) => make_any m1 A1 p1 d1 60 W (h1.below hW) r1 (by omega) (by omega)
  have k2 := fun W (hW : Below w.heap.size w W) => make_any m2 A2 p2 d2 60 W (h2.below hW) r2 (by omega) (by omega)
  have HK := Lib.hid hk
  have K1 := Lib.hid k1
  have K2 := Lib.hid k2
  have HT := Lib.hid ht
  have b0 : Below w.heap.size w ((w.alloc (.cells #[.bool m1, .slice A1 d1.length p1] 30)).alloc (.cells #[.bool m2, .slice A2 d2.length p2] 30)) := ((Below.refl _ _).alloc (Nat.le_refl _) _).alloc (by simp) _
  have x1 := heap_alloc_new w (Obj.cells #[Value.bool m1, Value.slice A1 d1.length p1] 30)
  have x2 := heap_alloc_new (w.alloc (Obj.cells #[Value.bool m1, Value.slice A1 d1.length p1] 30)) (Obj.cells #[Value.bool m2, Value.slice A2 d2.length p2] 30)
  have x3 := heap_more x1 (Obj.cells #[Value.bool m2, Value.slice A2 d2.length p2] 30)
  rw [World.size_alloc] at x2
  have B0 := Lib.hid b0
  have X2 := Lib.hid x2
  have X3 := Lib.hid x3
  clear hk k1 k2 ht b0 x1 x2 x3 h1 h2 r1 r2
  go_enter Tryd.func4, Tryd.ntmps4
  go_upto_region 3 with (go_at_call 9; refine (HK.out _ B0.out).mono ?_; rintro e w1 ⟨rfl, b1⟩; have B1 := Lib.hid b1; clear b1)
  have z0 : (w.alloc (Obj.cells #[Value.bool m1, Value.slice A1 d1.length p1] 30)).heap.size = w.heap.size + 1 := World.size_alloc ..
  have y1 := (B1.out.block w.heap.size (by rw [World.size_alloc, z0]; omega)).trans X3.out
  have y2 := (B1.out.block (w.heap.size + 1) (by rw [World.size_alloc, z0]; omega)).trans X2.out
  have bw1 := B0.out.trans (B1.out.mono B0.out.size)
  have c0 : w1.cell? ⟨w.heap.size, 0, none⟩ = some (.bool m1) := by rw [Lib.cell_of_heap y1]; rfl
  have c1 : w1.cell? ⟨w.heap.size, 1, none⟩ = some (.slice A1 d1.length p1) := by rw [Lib.cell_of_heap y1]; rfl
  have c2 : w1.cell? ⟨w.heap.size + 1, 0, none⟩ = some (.bool m2) := by rw [Lib.cell_of_heap y2]; rfl
  have c3 : w1.cell? ⟨w.heap.size + 1, 1, none⟩ = some (.slice A2 d2.length p2) := by rw [Lib.cell_of_heap y2]; rfl
  have hs1 : w.heap.size < w1.heap.size := (Array.getElem?_eq_some_iff.1 y1).1
  have hs2 : w.heap.size + 1 < w1.heap.size := (Array.getElem?_eq_some_iff.1 y2).1
  have BW1 := Lib.hid bw1
  clear z0 y1 y2 bw1 B0 B1 X2 X3
  go_region_held3 (fun w' => w'.cell? ⟨w.heap.size, 0, none⟩ = some (.bool m1) ∧ w'.cell? ⟨w.heap.size, 1, none⟩ = some (.slice A1 d1.length p1) ∧ w'.cell? ⟨w.heap.size + 1, 0, none⟩ = some (.bool m2) ∧ w'.cell? ⟨w.heap.size + 1, 1, none⟩ = some (.slice A2 d2.length p2))
    (first | exact ⟨c0, c1, c2, c3⟩ | exact ⟨e0, e1, e2, e3⟩ | exact ⟨f0, f1, f2, f3⟩)
    (first
      | (go_at_call_of 12 (Value.slice A1 d1.length p1); refine (K1.out _ ?_).mono ?_; (first | exact BW1.out | exact BW1.out.drew); rintro e w2 ⟨⟨z1, hz1, rfl⟩, b2⟩; have e0 := (b2.cell (p := ⟨w.heap.size, 0, none⟩) hs1).trans c0; have e1 := (b2.cell (p := ⟨w.heap.size, 1, none⟩) hs1).trans c1; have e2 := (b2.cell (p := ⟨w.heap.size + 1, 0, none⟩) hs2).trans c2; have e3 := (b2.cell (p := ⟨w.heap.size + 1, 1, none⟩) hs2).trans c3; have hs3 := b2.size; have HZ1 := Lib.hid hz1; have B2 := Lib.hid (Below.trans (first_of BW1.out) (b2.mono BW1.out.size)); clear hz1 b2)
      | (go_at_call_of 12 (Value.slice A2 d2.length p2); refine (K2.out _ B2.out).mono ?_; rintro e w3 ⟨⟨z2, hz2, rfl⟩, b3⟩; have f0 := (b3.cell (p := ⟨w.heap.size, 0, none⟩) (Nat.lt_of_lt_of_le hs1 hs3)).trans e0; have f1 := (b3.cell (p := ⟨w.heap.size, 1, none⟩) (Nat.lt_of_lt_of_le hs1 hs3)).trans e1; have f2 := (b3.cell (p := ⟨w.heap.size + 1, 0, none⟩) (Nat.lt_of_lt_of_le hs2 hs3)).trans e2; have f3 := (b3.cell (p := ⟨w.heap.size + 1, 1, none⟩) (Nat.lt_of_lt_of_le hs2 hs3)).trans e3; have HZ2 := Lib.hid hz2; have B3 := Lib.hid (B2.out.trans (b3.mono B2.out.size)); clear hz2 b3))
  all_goals
    have s1 := canon_size_lt z1 60 HZ1.out (by omega)
    have s2 := canon_size_lt z2 60 HZ2.out (by omega)
    have u1 := fun W (hW : Below w.heap.size w W) => mul_any z1 z2 W (HT.out.below hW) (by omega) (by omega)
    have u2 := fun W (hW : Below w.heap.size w W) => mulR_any z1 z2 W (HT.out.below hW) (by omega) (by omega)
    have U1 := Lib.hid u1
    have U2 := Lib.hid u2
    clear s1 s2 u1 u2
    go_wp2_with (first
      | (go_at_call 13; refine (U1.out _ B3.out).mono ?_; rintro e w4 ⟨rfl, b4⟩; have B4 := Lib.hid (B3.out.trans (b4.mono B3.out.size)); clear b4)
      | (go_at_call 14; refine (U2.out _ B4.out).mono ?_; rintro e w5 ⟨rfl, b5⟩; have B5 := Lib.hid (B4.out.trans (b5.mono B4.out.size)); clear b5))
    go_ret
    exact ⟨rfl, B5.out⟩

end Go.Proofs.YtmkeigfckfkifaaDoor
