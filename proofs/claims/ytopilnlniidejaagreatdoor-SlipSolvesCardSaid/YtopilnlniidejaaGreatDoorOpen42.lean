/- Planes, vectors and numbers as texts, as they come in: opened. -/
import Derived.Test.YtopilnlniidejaaGreatDoorShaped
import Derived.OpenShut
import Derived.ChangeSame
import Derived.Deep.Strs
namespace Go.Proofs.YtopilnlniidejaaGreatDoor
set_option linter.all false
open Go.ChangeShapes Go.WideShapes Go.ChangeAt Go.RowKit

theorem cellsV42 : Tryz.prog.cellsOf 24 = 3 := by kernel_rfl
theorem cellsR42 : Tryz.prog.cellsOf 22 = 1 := by kernel_rfl
theorem cellsP42 : Tryz.prog.cellsOf 26 = 4 := by kernel_rfl
theorem cellsP3 : Tryz.prog.cellsOf 27 = 12 := by kernel_rfl
theorem cellsR2 : Tryz.prog.cellsOf 28 = 2 := by kernel_rfl

section
variable {H : Type} {enc : TypeId × Value → H} {W : World} {m : Nat} {r : DataW H × List MemPlace}
set_option maxRecDepth 100000 in
theorem vec_cells {c0 c1 c2 : Value} (h : DataW.trod enc Tryz.prog W 0 (fun _ => true) true m 24 [c0, c1, c2] = some r) : ∃ X Y Z : ByteArray, c0 = .string X ∧ c1 = .string Y ∧ c2 = .string Z := by
  obtain ⟨y0, y1, y2, n, _, _, h0, h1, h2⟩ := Deep.trod_struct3 Tryz.underlying24 h
  simp [cellsR42] at h0 h1 h2
  obtain ⟨n0, e0, _⟩ := DataW.trod_string Tryz.underlying22 h0
  obtain ⟨n1, e1, _⟩ := DataW.trod_string Tryz.underlying22 h1
  obtain ⟨n2, e2, _⟩ := DataW.trod_string Tryz.underlying22 h2
  simp at e0 e1 e2
  exact ⟨n0, n1, n2, e0, e1, e2⟩
set_option maxRecDepth 100000 in
theorem plane_cells {c0 c1 c2 c3 : Value} (h : DataW.trod enc Tryz.prog W 0 (fun _ => true) true m 26 [c0, c1, c2, c3] = some r) : ∃ X Y Z O : ByteArray, c0 = .string X ∧ c1 = .string Y ∧ c2 = .string Z ∧ c3 = .string O := by
  obtain ⟨y0, y1, n, _, _, h0, h1⟩ := ChangeShapes.trod_struct2 Tryz.underlying26 h
  simp [cellsV42, cellsR42] at h0 h1
  obtain ⟨X, Y, Z, e0, e1, e2⟩ := vec_cells h0
  obtain ⟨n3, e3, _⟩ := DataW.trod_string Tryz.underlying22 h1
  simp at e3
  exact ⟨X, Y, Z, n3, e0, e1, e2, e3⟩
end

theorem array12 {α : Type} {cs : Array α} (h : cs.size = 12) : ∃ c0 c1 c2 c3 c4 c5 c6 c7 c8 c9 d0 d1, cs = #[c0, c1, c2, c3, c4, c5, c6, c7, c8, c9, d0, d1] := by
  obtain ⟨l⟩ := cs
  match l, h with
  | [c0, c1, c2, c3, c4, c5, c6, c7, c8, c9, d0, d1], _ => exact ⟨c0, c1, c2, c3, c4, c5, c6, c7, c8, c9, d0, d1, rfl⟩
theorem array2 {α : Type} {cs : Array α} (h : cs.size = 2) : ∃ c0 c1, cs = #[c0, c1] := by
  obtain ⟨l⟩ := cs
  match l, h with
  | [c0, c1], _ => exact ⟨c0, c1, rfl⟩

set_option maxRecDepth 100000 in
theorem open_planes3 {H : Type} {enc : TypeId × Value → H} {W : World} {base : Nat} {v : Value} {d : DataW H} {p : List MemPlace}
    (hv : Value.okWide Tryz.prog W .any base 27 v) (h : DataW.Trod enc Tryz.prog W 0 (fun _ => true) true 27 v d p) :
    ∃ A1 A2 A3 A0 C1 C2 C3 C0 D1 D2 D3 D0 : ByteArray, v = .agg #[.string A1, .string A2, .string A3, .string A0, .string C1, .string C2, .string C3, .string C0, .string D1, .string D2, .string D3, .string D0] := by
  have hu := Tryz.underlying27
  simp only [Value.okWide, hu] at hv
  obtain ⟨cs, rfl, hs, _⟩ := hv
  obtain ⟨c0, c1, c2, c3, c4, c5, c6, c7, c8, c9, d0, d1, rfl⟩ := array12 (hs.trans cellsP3)
  obtain ⟨fuel, hf⟩ := h
  obtain ⟨xs, m, _, _, _, hl, hx⟩ := DataW.trod_array hu hf
  have h0 := hx 0 (by omega)
  have h1 := hx 1 (by omega)
  have h2 := hx 2 (by omega)
  match xs, hl with
  | [u0, u1, u2], _ =>
    rw [cellsP42] at h0 h1 h2
    simp [Value.cells] at h0 h1 h2
    obtain ⟨A1, A2, A3, A0, rfl, rfl, rfl, rfl⟩ := plane_cells h0
    obtain ⟨C1, C2, C3, C0, rfl, rfl, rfl, rfl⟩ := plane_cells h1
    obtain ⟨D1, D2, D3, D0, rfl, rfl, rfl, rfl⟩ := plane_cells h2
    exact ⟨A1, A2, A3, A0, C1, C2, C3, C0, D1, D2, D3, D0, rfl⟩
set_option maxRecDepth 100000 in
theorem open_rats2 {H : Type} {enc : TypeId × Value → H} {W : World} {base : Nat} {v : Value} {d : DataW H} {p : List MemPlace}
    (hv : Value.okWide Tryz.prog W .any base 28 v) (h : DataW.Trod enc Tryz.prog W 0 (fun _ => true) true 28 v d p) :
    ∃ M1 M2 : ByteArray, v = .agg #[.string M1, .string M2] := by
  have hu := Tryz.underlying28
  simp only [Value.okWide, hu] at hv
  obtain ⟨cs, rfl, hs, _⟩ := hv
  obtain ⟨c0, c1, rfl⟩ := array2 (hs.trans cellsR2)
  obtain ⟨fuel, hf⟩ := h
  obtain ⟨xs, m, _, _, _, hl, hx⟩ := DataW.trod_array hu hf
  have h0 := hx 0 (by omega)
  have h1 := hx 1 (by omega)
  match xs, hl with
  | [u0, u1], _ =>
    rw [cellsR42] at h0 h1
    simp [Value.cells] at h0 h1
    obtain ⟨n0, e0, _⟩ := DataW.trod_string Tryz.underlying22 h0
    obtain ⟨n1, e1, _⟩ := DataW.trod_string Tryz.underlying22 h1
    simp at e0 e1
    subst e0
    subst e1
    exact ⟨n0, n1, rfl⟩

end Go.Proofs.YtopilnlniidejaaGreatDoor
