/- Planes, vectors and numbers as texts, as they come in: opened. -/
import Derived.Test.YtopilnlniidejaaGreatDoorShaped
import Derived.OpenShut
import Derived.ChangeSame
import Derived.Deep.Strs
namespace Go.Proofs.YtopilnlniidejaaGreatDoor
set_option linter.all false
open Go.ChangeShapes Go.WideShapes Go.ChangeAt Go.RowKit

theorem cellsV42 : Tryz.prog.cellsOf 24 = 3 := by kernel_rfl
theorem cellsR42 : Tryz.prog.cellsOf 22 = 1 := by kernel_rfl
theorem cellsP42 : Tryz.prog.cellsOf 26 = 4 := by kernel_rfl
section
variable {H : Type} {enc : TypeId × Value → H} {W : World} {m : Nat} {r : DataW H × List MemPlace}
set_option maxRecDepth 100000 in
theorem vec_cells {c0 c1 c2 : Value} (h : DataW.trod enc Tryz.prog W 0 (fun _ => true) true m 24 [c0, c1, c2] = some r) : ∃ X Y Z : ByteArray, c0 = .string X ∧ c1 = .string Y ∧ c2 = .string Z := by
 obtain ⟨y0, y1, y2, n, _, _, h0, h1, h2⟩ := Deep.trod_struct3 Tryz.underlying24 h
 simp [cellsR42] at h0 h1 h2
 obtain ⟨n0, e0, _⟩ := DataW.trod_string Tryz.underlying22 h0
 obtain ⟨n1, e1, _⟩ := DataW.trod_string Tryz.underlying22 h1
 obtain ⟨n2, e2, _⟩ := DataW.trod_string Tryz.underlying22 h2
 simp at e0 e1 e2
 exact ⟨n0, n1, n2, e0, e1, e2⟩
set_option maxRecDepth 100000 in
theorem plane_cells {c0 c1 c2 c3 : Value} (h : DataW.trod enc Tryz.prog W 0 (fun _ => true) true m 26 [c0, c1, c2, c3] = some r) : ∃ X Y Z O : ByteArray, c0 = .string X ∧ c1 = .string Y ∧ c2 = .string Z ∧ c3 = .string O := by
 obtain ⟨y0, y1, n, _, _, h0, h1⟩ := ChangeShapes.trod_struct2 Tryz.underlying26 h
 simp [cellsV42, cellsR42] at h0 h1
 obtain ⟨X, Y, Z, e0, e1, e2⟩ := vec_cells h0
 obtain ⟨n3, e3, _⟩ := DataW.trod_string Tryz.underlying22 h1
 simp at e3
 exact ⟨X, Y, Z, n3, e0, e1, e2, e3⟩
end

end Go.Proofs.YtopilnlniidejaaGreatDoor
