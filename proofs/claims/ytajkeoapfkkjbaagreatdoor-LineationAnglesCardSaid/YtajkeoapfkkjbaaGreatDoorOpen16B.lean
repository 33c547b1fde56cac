/- A pair of described directions, as it comes in: opened. -/
import Derived.Test.YtajkeoapfkkjbaaGreatDoorOpen16
import Derived.OpenShut
namespace Go.Proofs.YtajkeoapfkkjbaaGreatDoor
set_option linter.all false
open Go.ChangeShapes Go.WideShapes Go.ChangeAt Go.RowKit

theorem cellsPair : Tryz.prog.cellsOf 50 = 8 := by kernel_rfl
theorem cellsI8p : Tryz.prog.cellsOf 22 = 1 := by kernel_rfl
theorem cellsU8p : Tryz.prog.cellsOf 5 = 1 := by kernel_rfl

theorem array8 {α : Type} {cs : Array α} (h : cs.size = 8) : ∃ c0 c1 c2 c3 c4 c5 c6 c7, cs = #[c0, c1, c2, c3, c4, c5, c6, c7] := by
  obtain ⟨l⟩ := cs
  match l, h with
  | [c0, c1, c2, c3, c4, c5, c6, c7], _ => exact ⟨c0, c1, c2, c3, c4, c5, c6, c7, rfl⟩

set_option maxRecDepth 100000 in
theorem small_cells {H : Type} {enc : TypeId × Value → H} {W : World} {m : Nat} {c0 c1 c2 c3 : Value} {r : DataW H × List MemPlace} (h : DataW.trod enc Tryz.prog W 0 (fun _ => true) true m 24 [c0, c1, c2, c3] = some r) :
    ∃ x y z b : Int, c0 = .int .i8 x ∧ c1 = .int .i8 y ∧ c2 = .int .i8 z ∧ c3 = .int .u8 b ∧ (-128 ≤ x ∧ x ≤ 127) ∧ (-128 ≤ y ∧ y ≤ 127) ∧ (-128 ≤ z ∧ z ≤ 127) ∧ (0 ≤ b ∧ b ≤ 255) := by
  obtain ⟨y0, y1, y2, y3, n, _, _, h0, h1, h2, h3⟩ := Joins.trod_struct4 Tryz.underlying24 h
  simp [cellsI8p, cellsU8p] at h0 h1 h2 h3
  obtain ⟨n0, e0, _, hw0⟩ := DataW.trod_int Tryz.underlying22 h0
  obtain ⟨n1, e1, _, hw1⟩ := DataW.trod_int Tryz.underlying22 h1
  obtain ⟨n2, e2, _, hw2⟩ := DataW.trod_int Tryz.underlying22 h2
  obtain ⟨n3, e3, _, hw3⟩ := DataW.trod_int Tryz.underlying5 h3
  simp at e0 e1 e2 e3
  exact ⟨n0, n1, n2, n3, e0, e1, e2, e3, bounds_i8 hw0, bounds_i8 hw1, bounds_i8 hw2, bounds_u8 hw3⟩

set_option maxRecDepth 100000 in
theorem open_pair {H : Type} {enc : TypeId × Value → H} {W : World} {base : Nat} {v : Value} {d : DataW H} {p : List MemPlace}
    (hv : Value.okWide Tryz.prog W .any base 50 v) (h : DataW.Trod enc Tryz.prog W 0 (fun _ => true) true 50 v d p) :
    ∃ x y z b x' y' z' b' : Int, v = .agg #[.int .i8 x, .int .i8 y, .int .i8 z, .int .u8 b, .int .i8 x', .int .i8 y', .int .i8 z', .int .u8 b'] ∧ ((-128 ≤ x ∧ x ≤ 127) ∧ (-128 ≤ y ∧ y ≤ 127) ∧ (-128 ≤ z ∧ z ≤ 127) ∧ (0 ≤ b ∧ b ≤ 255)) ∧
      ((-128 ≤ x' ∧ x' ≤ 127) ∧ (-128 ≤ y' ∧ y' ≤ 127) ∧ (-128 ≤ z' ∧ z' ≤ 127) ∧ (0 ≤ b' ∧ b' ≤ 255)) := by
  have hu := Tryz.underlying50
  simp only [Value.okWide, hu] at hv
  obtain ⟨cs, rfl, hs, _⟩ := hv
  obtain ⟨c0, c1, c2, c3, c4, c5, c6, c7, rfl⟩ := array8 (hs.trans cellsPair)
  obtain ⟨fuel, hf⟩ := h
  obtain ⟨xs, m, _, _, _, hl, hx⟩ := DataW.trod_array hu hf
  have h0 := hx 0 (by omega)
  have h1 := hx 1 (by omega)
  match xs, hl with
  | [u0, u1], _ =>
    rw [cellsSmall] at h0 h1
    simp [Value.cells] at h0 h1
    obtain ⟨x, y, z, b, rfl, rfl, rfl, rfl, hb1⟩ := small_cells h0
    obtain ⟨x', y', z', b', rfl, rfl, rfl, rfl, hb2⟩ := small_cells h1
    exact ⟨x, y, z, b, x', y', z', b', rfl, hb1, hb2⟩

end Go.Proofs.YtajkeoapfkkjbaaGreatDoor
