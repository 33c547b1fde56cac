/- Bits and steps, as they come in: opened. -/
import Derived.Test.YthhkmihjnnfpgaaGreatDoorOpen44
namespace Go.Proofs.YthhkmihjnnfpgaaGreatDoor
set_option linter.all false
open Go.ChangeShapes Go.WideShapes Go.ChangeAt Go.RowKit

section
variable {H : Type} {enc : TypeId × Value → H} {W : World} {base : Nat} {v : Value} {d : DataW H} {p : List MemPlace}
set_option maxRecDepth 100000 in
theorem open_bits44 (hv : Value.okWide Tryz.prog W .any base 22 v) (h : DataW.Trod enc Tryz.prog W 0 (fun _ => true) true 22 v d p) : ∃ l : List Bt, (∀ b ∈ l, b.ok) ∧ BAt W v l := by
 obtain ⟨a0, len, cap, rfl⟩ := okWide_slice Tryz.underlying22 hv
 obtain ⟨fuel, hf⟩ := h
 simp [Value.cells] at hf
 exact bits_cell44 hf
end

end Go.Proofs.YthhkmihjnnfpgaaGreatDoor
