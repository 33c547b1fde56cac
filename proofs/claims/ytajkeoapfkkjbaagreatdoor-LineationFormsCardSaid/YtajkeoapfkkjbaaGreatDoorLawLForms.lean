/- LineationForms returns true. -/
import Derived.Test.YtajkeoapfkkjbaaGreatDoorLawLin
import Derived.Test.YtajkeoapfkkjbaaGreatDoorWForms
namespace Go.Proofs.YtajkeoapfkkjbaaGreatDoor
set_option linter.all false
open Go.RowKit

theorem forms_walk (x1 y1 z1 b1 x2 y2 z2 b2 : Int) (h1 : Sm x1 y1 z1 b1) (h2 : Sm x2 y2 z2 b2) (w : World) (he : Env w) :
    Calls Tryz.prog 4 #[.agg #[.int .i8 x1, .int .i8 y1, .int .i8 z1, .int .u8 b1], .agg #[.int .i8 x2, .int .i8 y2, .int .i8 z2, .int .u8 b2]] w fun e w' => e = .returned (.bool true) ∧ Below w.heap.size w w' := by
  cases e1 : zeroB (smI x1 y1 z1) with
  | true => exact forms_z1 _ _ _ _ _ _ _ _ _ _ _ w (fun W hW => known16 W (he.below hW)) (fun W _ => jints h1 W) (fun W _ => jzero (smI x1 y1 z1) e1 W)
  | false =>
  cases e2 : zeroB (smI x2 y2 z2) with
  | true => exact forms_z2 _ _ _ _ _ _ _ _ _ _ _ _ _ _ w (fun W hW => known16 W (he.below hW)) (fun W _ => jints h1 W) (fun W _ => jzero (smI x1 y1 z1) e1 W) (fun W _ => jints h2 W) (fun W _ => jzero (smI x2 y2 z2) e2 W)
  | false =>
  have D1 := Desc.small (b := b1) (zeroB_false e1)
  have D2 := Desc.small (b := b2) (zeroB_false e2)
  exact forms_ok _ _ _ _ _ _ _ _ (smI x1 y1 z1).x (smI x1 y1 z1).y (smI x1 y1 z1).z (smI x2 y2 z2).x (smI x2 y2 z2).y (smI x2 y2 z2).z (downI (smI x1 y1 z1)).x (downI (smI x1 y1 z1)).y (downI (smI x1 y1 z1)).z (downI (smI x2 y2 z2)).x (downI (smI x2 y2 z2)).y (downI (smI x2 y2 z2)).z _ _ _ _ _ _ _ _ _ (eqI (downI (smI x1 y1 z1)) (downI (smI x2 y2 z2))) w rfl (fun W hW => known16 W (he.below hW)) (fun W _ => jints h1 W) (fun W _ => jzero (smI x1 y1 z1) e1 W) (fun W _ => jints h2 W) (fun W _ => jzero (smI x2 y2 z2) e2 W) (fun W hW => jmake h1 W (he.below hW)) (fun W hW => jmake h2 W (he.below hW)) (fun W hW => tof D1 W (he.below hW)) (fun W hW => tsame D1 D2 W (he.below hW)) (fun W _ => jdown D1 W) (fun W _ => jdown D2 W) (fun W hW => jof D1 W (he.below hW))

end Go.Proofs.YtajkeoapfkkjbaaGreatDoor
