/- The examples of chapter 16 hold: known of klippelaw16 returns true. -/
import Derived.Test.YtajkeoapfkkjbaaGreatDoorGLinT
import Derived.Test.YtajkeoapfkkjbaaGreatDoorWKnown
namespace Go.Proofs.YtajkeoapfkkjbaaGreatDoor
set_option linter.all false
open Go.RowKit

theorem k13 : canonR (rdiv2 1 3) = ⟨#[49, 47, 51]⟩ := by
  unfold canonR
  rw [show (rdiv2 1 3).num = 1 by decide, show (rdiv2 1 3).den = 3 by decide, ratT_frac 1 3 (by omega), show canon 1 = ⟨#[49]⟩ from canon_dig 1 (by omega), show canon ((3 : Nat) : Int) = ⟨#[51]⟩ from canon_dig 3 (by omega)]; rfl

theorem known16 (w : World) (he : Env w) :
    Calls Tryz.prog 12 #[] w fun e w' => e = .returned (.bool true) ∧ Below w.heap.size w w' := by
  have d1 : Desc ⟨2, -4, 6⟩ 1 := ⟨⟨by decide, by decide, by decide⟩, fun h => absurd h.1 (by decide), by decide, by decide⟩
  have d2 : Desc ⟨1, 0, 1⟩ 1 := ⟨⟨by decide, by decide, by decide⟩, fun h => absurd h.1 (by decide), by decide, by decide⟩
  have d3 : Desc ⟨0, 1, 1⟩ 1 := ⟨⟨by decide, by decide, by decide⟩, fun h => absurd h.2.1 (by decide), by decide, by decide⟩
  have d4 : Desc ⟨2, 0, 3⟩ 1 := ⟨⟨by decide, by decide, by decide⟩, fun h => absurd h.1 (by decide), by decide, by decide⟩
  have d5 : Desc ⟨-2, 0, 3⟩ 1 := ⟨⟨by decide, by decide, by decide⟩, fun h => absurd h.1 (by decide), by decide, by decide⟩
  have d6 : Desc ⟨1, 1, -1⟩ 1 := ⟨⟨by decide, by decide, by decide⟩, fun h => absurd h.1 (by decide), by decide, by decide⟩
  have v := fun (a : I3) (h1 : -1000000 ≤ a.x ∧ a.x ≤ 1000000) (h2 : -1000000 ≤ a.y ∧ a.y ≤ 1000000) (h3 : -1000000 ≤ a.z ∧ a.z ≤ 1000000) W (hW : Below w.heap.size w W) => mvector a.x a.y a.z h1 h2 h3 W (he.below hW)
  have o1 := fun W (hW : Below w.heap.size w W) => tof d1 W (he.below hW)
  have o2 := fun W (hW : Below w.heap.size w W) => ttrend_ok d1 W (he.below hW) (by decide)
  have o3 := fun W (hW : Below w.heap.size w W) => tisect_ok d2 d3 W (he.below hW) (fun h => absurd h.1 (by decide))
  have o4 := fun W (hW : Below w.heap.size w W) => tpitch_ok d2 d6 W (he.below hW) (by decide) (by decide)
  have o5 := fun W (hW : Below w.heap.size w W) => tinter d4 d5 W (he.below hW)
  rw [show downI ⟨2, -4, 6⟩ = ⟨-1, 2, -3⟩ from (eqI_iff _ _).1 (by decide)] at o1 o2
  rw [show downI (crossI ⟨1, 0, 1⟩ ⟨0, 1, 1⟩) = ⟨1, 1, -1⟩ from (eqI_iff _ _).1 (by decide)] at o3
  rw [show dotI ⟨-0, 1, 0⟩ ⟨1, 1, -1⟩ * dotI ⟨-0, 1, 0⟩ ⟨1, 1, -1⟩ = 1 by decide, show dotI ⟨-0, 1, 0⟩ ⟨-0, 1, 0⟩ * dotI ⟨1, 1, -1⟩ ⟨1, 1, -1⟩ = 3 by decide, k13] at o4
  rw [show classI (dotI ⟨2, 0, 3⟩ ⟨-2, 0, 3⟩) (dotI ⟨2, 0, 3⟩ ⟨2, 0, 3⟩ * dotI ⟨-2, 0, 3⟩ ⟨-2, 0, 3⟩) = 2 by decide] at o5
  rw [← rat_ofI] at o1 o2
  simp only [← rat_ofI] at o3 o4 o5
  exact known_of _ _ _ _ _ _ _ _ _ _ _ _ _ _ _ _ _ _ _ _ _ w (v ⟨2, -4, 6⟩ (by decide) (by decide) (by decide)) (v ⟨1, 0, 1⟩ (by decide) (by decide) (by decide)) (v ⟨0, 1, 1⟩ (by decide) (by decide) (by decide)) (v ⟨2, 0, 3⟩ (by decide) (by decide) (by decide)) (v ⟨-2, 0, 3⟩ (by decide) (by decide) (by decide)) (v ⟨-1, 2, -3⟩ (by decide) (by decide) (by decide)) (v ⟨1, 1, -1⟩ (by decide) (by decide) (by decide)) o1 o2 o3 o4 o5

end Go.Proofs.YtajkeoapfkkjbaaGreatDoor
