/- LineationLimbs returns true. -/
import Derived.Test.YtajkeoapfkkjbaaGreatDoorLinLi
import Derived.Test.YtajkeoapfkkjbaaGreatDoorWLimbs
namespace Go.Proofs.YtajkeoapfkkjbaaGreatDoor
set_option linter.all false
open Go.RowKit

theorem limb_cases (d m : Int) (hm : 0 < m) : ((classI d m == 1) = false ∧ (classI d m == 5) = false) ∨ ((classI d m == 1) = true ∧ (classI (-d) m != 4) = false ∧ (classI d m == 5) = false) ∨ ((classI d m == 1) = true ∧ (classI (-d) m != 4) = true ∧ (classI (-d) m != 5) = false ∧ (classI d m == 5) = false) ∨ ((classI d m == 1) = false ∧ (classI d m == 5) = true ∧ (classI (-d) m != 1) = false) := by
  obtain ⟨h1, h2⟩ := turned_class d m hm
  generalize classI d m = c at *
  generalize classI (-d) m = t at *
  by_cases c1 : c = 1
  · subst c1
    rcases h1 rfl with h | h
    · subst h
      exact .inr (.inl ⟨rfl, rfl, rfl⟩)
    · subst h
      exact .inr (.inr (.inl ⟨rfl, rfl, rfl, rfl⟩))
  · by_cases c5 : c = 5
    · subst c5
      have := h2 rfl
      subst this
      exact .inr (.inr (.inr ⟨rfl, rfl, rfl⟩))
    · exact .inl ⟨beq_eq_false_iff_ne.2 c1, beq_eq_false_iff_ne.2 c5⟩

theorem limbs_walk (x1 y1 z1 b1 x2 y2 z2 b2 : Int) (h1 : Sm x1 y1 z1 b1) (h2 : Sm x2 y2 z2 b2) (w : World) (he : Env w) :
    Calls Tryz.prog 7 #[.agg #[.int .i8 x1, .int .i8 y1, .int .i8 z1, .int .u8 b1], .agg #[.int .i8 x2, .int .i8 y2, .int .i8 z2, .int .u8 b2]] w fun e w' => e = .returned (.bool true) ∧ Below w.heap.size w w' := by
  cases e1 : zeroB (smI x1 y1 z1) with
  | true => exact limbs_z1 _ _ _ _ _ _ _ _ _ _ _ w (fun W hW => known16 W (he.below hW)) (fun W _ => jints h1 W) (fun W _ => jzero (smI x1 y1 z1) e1 W)
  | false =>
  cases e2 : zeroB (smI x2 y2 z2) with
  | true => exact limbs_z2 _ _ _ _ _ _ _ _ _ _ _ _ _ _ w (fun W hW => known16 W (he.below hW)) (fun W _ => jints h1 W) (fun W _ => jzero (smI x1 y1 z1) e1 W) (fun W _ => jints h2 W) (fun W _ => jzero (smI x2 y2 z2) e2 W)
  | false =>
  have D1 := Desc.small (b := b1) (zeroB_false e1)
  have D2 := Desc.small (b := b2) (zeroB_false e2)
  have ps := dot_self_pos D1.nz
  have pt := dot_self_pos D2.nz
  have hq : 0 < dotI (smI x1 y1 z1) (smI x1 y1 z1) * dotI (smI x2 y2 z2) (smI x2 y2 z2) := Int.mul_pos ps pt
  have hc := limb_cases (dotI (smI x1 y1 z1) (smI x2 y2 z2)) _ hq
  obtain ⟨n1, n2, n3⟩ := neg_texts D1 w
  obtain ⟨n4, n5, n6⟩ := neg_texts D2 w
  have o2 := fun W (hW : Below w.heap.size w W) => tinter D2 D1 W (he.below hW)
  rw [dot_comm (smI x2 y2 z2) (smI x1 y1 z1), Int.mul_comm (dotI (smI x2 y2 z2) (smI x2 y2 z2))] at o2
  have o3 := fun W (hW : Below w.heap.size w W) => tinter D1.neg D2.neg W (he.below hW)
  rw [dot_negneg, dot_negneg, dot_negneg] at o3
  have o4 := fun W (hW : Below w.heap.size w W) => tinter D1 D2.neg W (he.below hW)
  rw [dot_neg, dot_negneg] at o4
  have o5 := fun W (hW : Below w.heap.size w W) => tangle D1 D1.neg W (he.below hW)
  rw [self_one D1.nz, canonR_one, show canon 1 = ⟨#[49]⟩ from canon_dig 1 (by omega)] at o5
  by_cases hz : (crossI (smI x1 y1 z1) (smI x2 y2 z2)).nz
  · obtain ⟨l1, l2⟩ := line_in hz
    have lb := down_bd (cross_bd D1.bd D2.bd) hz
    have ln := down_nz hz
    exact limbs_ok _ _ _ _ _ _ _ _ _ _ _ _ _ _ _ _ _ _ _ _ _ _ _ _ _ _ _ _ _ _ _ w hc (fun W hW => known16 W (he.below hW)) (fun W _ => jints h1 W) (fun W _ => jzero (smI x1 y1 z1) e1 W) (fun W _ => jints h2 W) (fun W _ => jzero (smI x2 y2 z2) e2 W) (fun W hW => jmake h1 W (he.below hW)) (fun W hW => jmake h2 W (he.below hW)) n1 n2 n3 n4 n5 n6 (fun W hW => tinter D1 D2 W (he.below hW)) o2 o3 o4 o5 (fun W hW => tisect_ok D1 D2 W (he.below hW) hz) (fun W hW => lies_line D1 _ lb ln l1 W (he.below hW)) (fun W hW => lies_line D2 _ lb ln l2 W (he.below hW))
  · have sm := fun W (hW : Below w.heap.size w W) => tsame D1 D2 W (he.below hW)
    rw [(eqI_iff _ _).2 (down_of_cross_zero hz D1.nz D2.nz)] at sm
    exact limbs_dep _ _ _ _ _ _ _ _ _ _ _ _ _ _ _ _ _ _ _ _ _ _ _ _ _ _ _ _ w hc (fun W hW => known16 W (he.below hW)) (fun W _ => jints h1 W) (fun W _ => jzero (smI x1 y1 z1) e1 W) (fun W _ => jints h2 W) (fun W _ => jzero (smI x2 y2 z2) e2 W) (fun W hW => jmake h1 W (he.below hW)) (fun W hW => jmake h2 W (he.below hW)) n1 n2 n3 n4 n5 n6 (fun W hW => tinter D1 D2 W (he.below hW)) o2 o3 o4 o5 (fun W hW => tisect_dep D1 D2 W (he.below hW) hz) sm

end Go.Proofs.YtajkeoapfkkjbaaGreatDoor
