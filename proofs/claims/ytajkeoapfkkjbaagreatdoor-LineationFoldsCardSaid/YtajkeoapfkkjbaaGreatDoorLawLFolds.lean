/- LineationFolds returns true. -/
import Derived.Test.YtajkeoapfkkjbaaGreatDoorLawLin
import Derived.Test.YtajkeoapfkkjbaaGreatDoorWFolds
namespace Go.Proofs.YtajkeoapfkkjbaaGreatDoor
set_option linter.all false
open Go.RowKit

theorem folds_walk (x1 y1 z1 b1 x2 y2 z2 b2 : Int) (h1 : Sm x1 y1 z1 b1) (h2 : Sm x2 y2 z2 b2) (w : World) (he : Env w) :
    Calls Tryz.prog 3 #[.agg #[.int .i8 x1, .int .i8 y1, .int .i8 z1, .int .u8 b1], .agg #[.int .i8 x2, .int .i8 y2, .int .i8 z2, .int .u8 b2]] w fun e w' => e = .returned (.bool true) ∧ Below w.heap.size w w' := by
  cases e1 : zeroB (smI x1 y1 z1) with
  | true => exact folds_z1 _ _ _ _ _ _ _ _ _ _ _ w (fun W hW => known16 W (he.below hW)) (fun W _ => jints h1 W) (fun W _ => jzero (smI x1 y1 z1) e1 W)
  | false =>
  cases e2 : zeroB (smI x2 y2 z2) with
  | true => exact folds_z2 _ _ _ _ _ _ _ _ _ _ _ _ _ _ w (fun W hW => known16 W (he.below hW)) (fun W _ => jints h1 W) (fun W _ => jzero (smI x1 y1 z1) e1 W) (fun W _ => jints h2 W) (fun W _ => jzero (smI x2 y2 z2) e2 W)
  | false =>
  have D1 := Desc.small (b := b1) (zeroB_false e1)
  have D2 := Desc.small (b := b2) (zeroB_false e2)
  have hd := dot_bd D1.bd D2.bd
  have hs := dd_bd D1.bd
  have ht := dd_bd D2.bd
  have hq := mul_pp hs ht
  have hf := mul_in2 (x := 4 * dotI (smI x1 y1 z1) (smI x2 y2 z2)) (y := dotI (smI x1 y1 z1) (smI x2 y2 z2)) (N := 4800) (M := 1200) (by omega) hd (by omega) (by omega)
  exact folds_ok _ _ _ _ _ _ _ _ _ _ _ _ _ _ (classI (dotI (smI x1 y1 z1) (smI x2 y2 z2)) (dotI (smI x1 y1 z1) (smI x1 y1 z1) * dotI (smI x2 y2 z2) (smI x2 y2 z2))) (dotI (smI x1 y1 z1) (smI x2 y2 z2)) (dotI (smI x1 y1 z1) (smI x1 y1 z1)) (dotI (smI x2 y2 z2) (smI x2 y2 z2)) _ _ _ _ _ _ w (class_cases _ _) (jwrap (by omega)) (jwrap (by omega)) (jwrap (by omega)) (jwrap (by omega)) (fun W hW => known16 W (he.below hW)) (fun W _ => jints h1 W) (fun W _ => jzero (smI x1 y1 z1) e1 W) (fun W _ => jints h2 W) (fun W _ => jzero (smI x2 y2 z2) e2 W) (fun W hW => jmake h1 W (he.below hW)) (fun W hW => jmake h2 W (he.below hW)) (fun W hW => tinter D1 D2 W (he.below hW)) (fun W _ => jdot D1 D2 W) (fun W _ => jdot D1 D1 W) (fun W _ => jdot D2 D2 W)

end Go.Proofs.YtajkeoapfkkjbaaGreatDoor
