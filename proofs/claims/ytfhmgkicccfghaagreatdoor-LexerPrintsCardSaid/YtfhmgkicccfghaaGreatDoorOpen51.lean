/- Slices of bytes and of tokens that a row hands in. -/
import Derived.Test.YtfhmgkicccfghaaGreatDoorLexZC
import Derived.Test.YtfhmgkicccfghaaGreatDoorShaped
import Derived.ChangeSlices
import Derived.ChangeMaps5
namespace Go.Proofs.YtfhmgkicccfghaaGreatDoor
set_option linter.all false
open Go.ChangeShapes Go.WideShapes Go.ChangeAt Go.RowKit Go.ChangeMaps

section
variable {H : Type} {enc : TypeId × Value → H} {W : World} {base : Nat} {v : Value} {d : DataW H} {p : List MemPlace}
theorem cell_blk {a : Addr} {u : Value} (h : W.cell? a = some u) : a.block < W.heap.size := World.cells?_block (base := 0) (cells?_one (Nat.zero_le _) h) (by omega)
set_option maxRecDepth 100000 in
theorem open_u8s (hv : Value.okWide Tryz.prog W .any base 22 v) (h : DataW.Trod enc Tryz.prog W 0 (fun _ => true) true 22 v d p) : ∃ zs, U8At W v zs := by
 obtain ⟨a0, len, cap, rfl⟩ := okWide_slice Tryz.underlying22 hv
 obtain ⟨fuel, hf⟩ := h
 rcases open_ints Tryz.underlying22 Tryz.underlying5 (by kernel_rfl) hf with ⟨hcs, _⟩ | ⟨a, len', cap', zs, hcs, _, hl, hm, hz, _, hcell, hwz⟩
 ·simp [Value.cells] at hcs
  obtain ⟨rfl, rfl, rfl⟩ := hcs
  exact ⟨[], none, 0, rfl, fun i z h => by simp at h⟩
 ·simp [Value.cells] at hcs
  obtain ⟨rfl, rfl, rfl⟩ := hcs
  simp only [if_true] at hz
  refine ⟨zs.take len, some a, cap, by rw [List.length_take]; congr 1; omega, fun i z hiz => ?_⟩
  have hi : i < len := by
   have := (List.getElem?_eq_some_iff.1 hiz).1
   rw [List.length_take] at this
   omega
  rw [List.getElem?_take_of_lt hi] at hiz
  have hc := hcell i (by omega)
  rw [List.getD_eq_getElem?_getD, hiz] at hc
  have hw := hwz z (List.mem_of_getElem? hiz)
  have hb := bounds_u8 hw
  obtain ⟨b, off, spot⟩ := a
  have h0 := hcell 0 (by omega)
  have hspot : spot = none := by simpa [Addr.add] using World.cell?_spot h0
  subst hspot
  refine ⟨hb.1, hb.2, b, off, rfl, ?_, ?_⟩
  ·have := cell_blk hc
   simpa [Addr.add, apply_ite] using this
  ·rw [show (⟨b, off, none⟩ : Addr).add i = ⟨b, off + i, none⟩ by unfold Addr.add; split <;> simp_all] at hc
   exact hc
end

end Go.Proofs.YtfhmgkicccfghaaGreatDoor
