/- Faults, planes, vectors, markers and plans, as they come in: opened. -/
import Derived.Test.YtopilnlniidejaaGreatDoorShaped
import Derived.OpenShut
import Derived.ChangeSame
import Derived.Deep.Strs
import Derived.Lib.SmallJoins
import Derived.Laws.IdiomArrays
namespace Go.Proofs.YtopilnlniidejaaGreatDoor
set_option linter.all false
open Go.ChangeShapes Go.WideShapes Go.ChangeAt Go.RowKit

theorem cellsC42 : Tryz.prog.cellsOf 54 = 4 := by kernel_rfl
theorem cellsPl42 : Tryz.prog.cellsOf 56 = 8 := by kernel_rfl
theorem cellsI8 : Tryz.prog.cellsOf 51 = 1 := by kernel_rfl
theorem cellsB42 : Tryz.prog.cellsOf 4 = 1 := by kernel_rfl
theorem cellsA3 : Tryz.prog.cellsOf 52 = 3 := by kernel_rfl
theorem array4' {α : Type} {cs : Array α} (h : cs.size = 4) : ∃ c0 c1 c2 c3, cs = #[c0, c1, c2, c3] := by
 obtain ⟨l⟩ := cs
 match l, h with
 | [c0, c1, c2, c3], _ => exact ⟨c0, c1, c2, c3, rfl⟩
theorem array8' {α : Type} {cs : Array α} (h : cs.size = 8) : ∃ c0 c1 c2 c3 c4 c5 c6 c7, cs = #[c0, c1, c2, c3, c4, c5, c6, c7] := by
 obtain ⟨l⟩ := cs
 match l, h with
 | [c0, c1, c2, c3, c4, c5, c6, c7], _ => exact ⟨c0, c1, c2, c3, c4, c5, c6, c7, rfl⟩
theorem trod_struct5' {H : Type} {enc : TypeId × Value → H} {P : Program} {w : World} {base : Nat} {spare : Nat → Bool} {held : Bool} {t : TypeId} {f0 f1 f2 f3 f4 : Field} {fuel : Nat} {cs : List Value} {x : DataW H × List MemPlace} (ht : P.underlying t = some (.struct #[f0, f1, f2, f3, f4])) (h : DataW.trod enc P w base spare held fuel t cs = some x) :
  ∃ y0 y1 y2 y3 y4 n, DataW.trod enc P w base spare held n f0.type ((cs.drop f0.offset).take (P.cellsOf f0.type)) = some y0 ∧
   DataW.trod enc P w base spare held n f1.type ((cs.drop f1.offset).take (P.cellsOf f1.type)) = some y1 ∧ DataW.trod enc P w base spare held n f2.type ((cs.drop f2.offset).take (P.cellsOf f2.type)) = some y2 ∧
   DataW.trod enc P w base spare held n f3.type ((cs.drop f3.offset).take (P.cellsOf f3.type)) = some y3 ∧ DataW.trod enc P w base spare held n f4.type ((cs.drop f4.offset).take (P.cellsOf f4.type)) = some y4 := by
 obtain ⟨xs, n, _, rfl, hl, hlen, hf⟩ := DataW.trod_struct ht h
 match xs, hlen with
 | [y0, y1, y2, y3, y4], _ => exact ⟨y0, y1, y2, y3, y4, n, by simpa using hf 0 f0 rfl, by simpa using hf 1 f1 rfl, by simpa using hf 2 f2 rfl, by simpa using hf 3 f3 rfl, by simpa using hf 4 f4 rfl⟩

section
variable {H : Type} {enc : TypeId × Value → H} {W : World} {m : Nat} {r : DataW H × List MemPlace}
set_option maxRecDepth 100000 in
theorem i8_cell {c : Value} (h : DataW.trod enc Tryz.prog W 0 (fun _ => true) true m 51 [c] = some r) : ∃ x : Int, c = .int .i8 x ∧ (-128 ≤ x ∧ x ≤ 127) := by
 obtain ⟨n, e, _, hw⟩ := DataW.trod_int Tryz.underlying51 h
 simp at e
 exact ⟨n, e, bounds_i8 hw⟩
set_option maxRecDepth 100000 in
theorem bool_cell {c : Value} (h : DataW.trod enc Tryz.prog W 0 (fun _ => true) true m 4 [c] = some r) : ∃ b : Bool, c = .bool b := by
 obtain ⟨b, e, _⟩ := DataW.trod_bool Tryz.underlying4 h
 simp at e
 exact ⟨b, e⟩
set_option maxRecDepth 100000 in
theorem cut_cells {c0 c1 c2 c3 : Value} (h : DataW.trod enc Tryz.prog W 0 (fun _ => true) true m 54 [c0, c1, c2, c3] = some r) :
  ∃ x y z t : Int, (c0 = .int .i8 x ∧ c1 = .int .i8 y ∧ c2 = .int .i8 z ∧ c3 = .int .i8 t) ∧ (-128 ≤ x ∧ x ≤ 127) ∧ (-128 ≤ y ∧ y ≤ 127) ∧ (-128 ≤ z ∧ z ≤ 127) ∧ (-128 ≤ t ∧ t ≤ 127) := by
 obtain ⟨y0, y1, n, _, _, h0, h1⟩ := ChangeShapes.trod_struct2 Tryz.underlying54 h
 simp [cellsA3, cellsI8] at h0 h1
 obtain ⟨_, _, _, _, _, g0, g1, g2⟩ := ChangeShapes.trod_array3 Tryz.underlying52 cellsI8 h0
 obtain ⟨x, rfl, bx⟩ := i8_cell g0
 obtain ⟨y, rfl, by'⟩ := i8_cell g1
 obtain ⟨z, rfl, bz⟩ := i8_cell g2
 obtain ⟨t, rfl, bt⟩ := i8_cell h1
 exact ⟨x, y, z, t, ⟨rfl, rfl, rfl, rfl⟩, bx, by', bz, bt⟩
end

section
variable {H : Type} {enc : TypeId × Value → H} {W : World} {base : Nat} {v : Value} {d : DataW H} {p : List MemPlace}
set_option maxRecDepth 100000 in
theorem open_cut (hv : Value.okWide Tryz.prog W .any base 54 v) (h : DataW.Trod enc Tryz.prog W 0 (fun _ => true) true 54 v d p) :
  ∃ x y z t : Int, v = .agg #[.int .i8 x, .int .i8 y, .int .i8 z, .int .i8 t] ∧ (-128 ≤ x ∧ x ≤ 127) ∧ (-128 ≤ y ∧ y ≤ 127) ∧ (-128 ≤ z ∧ z ≤ 127) ∧ (-128 ≤ t ∧ t ≤ 127) := by
 have hu := Tryz.underlying54
 simp only [Value.okWide, hu] at hv
 obtain ⟨cs, rfl, hs, _⟩ := hv
 obtain ⟨c0, c1, c2, c3, rfl⟩ := array4' (hs.trans cellsC42)
 obtain ⟨fuel, hf⟩ := h
 simp [Value.cells] at hf
 obtain ⟨x, y, z, t, ⟨rfl, rfl, rfl, rfl⟩, b⟩ := cut_cells hf
 exact ⟨x, y, z, t, rfl, b⟩
set_option maxRecDepth 100000 in
theorem open_plan (hv : Value.okWide Tryz.prog W .any base 56 v) (h : DataW.Trod enc Tryz.prog W 0 (fun _ => true) true 56 v d p) :
  ∃ (x y z t s u : Int) (sl sp : Bool), v = .agg #[.int .i8 x, .int .i8 y, .int .i8 z, .int .i8 t, .int .i8 s, .int .i8 u, .bool sl, .bool sp] ∧ (-128 ≤ x ∧ x ≤ 127) ∧ (-128 ≤ y ∧ y ≤ 127) ∧ (-128 ≤ z ∧ z ≤ 127) ∧ (-128 ≤ t ∧ t ≤ 127) ∧ (-128 ≤ s ∧ s ≤ 127) ∧ (-128 ≤ u ∧ u ≤ 127) := by
 have hu := Tryz.underlying56
 simp only [Value.okWide, hu] at hv
 obtain ⟨cs, rfl, hs, _⟩ := hv
 obtain ⟨c0, c1, c2, c3, c4, c5, c6, c7, rfl⟩ := array8' (hs.trans cellsPl42)
 obtain ⟨fuel, hf⟩ := h
 simp [Value.cells] at hf
 obtain ⟨y0, y1, y2, y3, y4, n, h0, h1, h2, h3, h4⟩ := trod_struct5' hu hf
 simp [cellsC42, cellsI8, cellsB42] at h0 h1 h2 h3 h4
 obtain ⟨x, y, z, t, ⟨rfl, rfl, rfl, rfl⟩, bx, by', bz, bt⟩ := cut_cells h0
 obtain ⟨s, rfl, bs⟩ := i8_cell h1
 obtain ⟨u, rfl, bu⟩ := i8_cell h2
 obtain ⟨sl, rfl⟩ := bool_cell h3
 obtain ⟨sp, rfl⟩ := bool_cell h4
 exact ⟨x, y, z, t, s, u, sl, sp, rfl, bx, by', bz, bt, bs, bu⟩
end

end Go.Proofs.YtopilnlniidejaaGreatDoor
