/- LineationTrends returns true. -/
import Derived.Test.YtajkeoapfkkjbaaGreatDoorLawLin
import Derived.Test.YtajkeoapfkkjbaaGreatDoorWTrends
namespace Go.Proofs.YtajkeoapfkkjbaaGreatDoor
set_option linter.all false
open Go.RowKit

theorem trends_walk (x1 y1 z1 b1 x2 y2 z2 b2 : Int) (h1 : Sm x1 y1 z1 b1) (h2 : Sm x2 y2 z2 b2) (w : World) (he : Env w) :
    Calls Tryz.prog 8 #[.agg #[.int .i8 x1, .int .i8 y1, .int .i8 z1, .int .u8 b1], .agg #[.int .i8 x2, .int .i8 y2, .int .i8 z2, .int .u8 b2]] w fun e w' => e = .returned (.bool true) ∧ Below w.heap.size w w' := by
  cases e1 : zeroB (smI x1 y1 z1) with
  | true => exact trends_z1 _ _ _ _ _ _ _ _ _ _ _ w (fun W hW => known16 W (he.below hW)) (fun W _ => jints h1 W) (fun W _ => jzero (smI x1 y1 z1) e1 W)
  | false =>
  cases e2 : zeroB (smI x2 y2 z2) with
  | true => exact trends_z2 _ _ _ _ _ _ _ _ _ _ _ _ _ _ w (fun W hW => known16 W (he.below hW)) (fun W _ => jints h1 W) (fun W _ => jzero (smI x1 y1 z1) e1 W) (fun W _ => jints h2 W) (fun W _ => jzero (smI x2 y2 z2) e2 W)
  | false =>
  have D1 := Desc.small (b := b1) (zeroB_false e1)
  have D2 := Desc.small (b := b2) (zeroB_false e2)
  have jd1 := fun W (_ : Below w.heap.size w W) => jdown D1 W
  have jd2 := fun W (_ : Below w.heap.size w W) => jdown D2 W
  cases n1 : noB (downI (smI x1 y1 z1)) with
  | true =>
    rw [noB_true n1] at jd1
    exact trends_none1 _ _ _ _ _ _ _ _ _ _ _ _ _ _ _ _ _ _ _ _ _ _ _ _ w (fun W hW => known16 W (he.below hW)) (fun W _ => jints h1 W) (fun W _ => jzero (smI x1 y1 z1) e1 W) (fun W _ => jints h2 W) (fun W _ => jzero (smI x2 y2 z2) e2 W) jd1 jd2 (fun W hW => jmake h1 W (he.below hW)) (fun W hW => jmake h2 W (he.below hW)) (fun W hW => ttrend_none D1 W (he.below hW) n1) (fun W hW => tctrend_none1 D1 D2 W (he.below hW) n1)
  | false =>
  cases n2 : noB (downI (smI x2 y2 z2)) with
  | true =>
    have tr := fun W (hW : Below w.heap.size w W) => ttrend_ok D1 W (he.below hW) n1
    rw [noB_true n2] at jd2
    exact trends_none2 _ _ _ _ _ _ _ _ _ _ _ _ _ _ _ _ _ _ _ _ _ _ _ _ _ w (noB_cases n1) (fun W hW => known16 W (he.below hW)) (fun W _ => jints h1 W) (fun W _ => jzero (smI x1 y1 z1) e1 W) (fun W _ => jints h2 W) (fun W _ => jzero (smI x2 y2 z2) e2 W) jd1 jd2 (fun W hW => jmake h1 W (he.below hW)) (fun W hW => jmake h2 W (he.below hW)) tr (fun W hW => tctrend_none2 D1 D2 W (he.below hW) n1 n2) (fun W _ => moctant_of _ _ W)
  | false =>
    have ub := down_bd D1.bd D1.nz
    have vb := down_bd D2.bd D2.nz
    have m1 := mul_in2 ub.1 vb.2.1 (by omega) (by omega)
    have m2 := mul_in2 ub.2.1 vb.1 (by omega) (by omega)
    exact trends_ok _ _ _ _ _ _ _ _ _ _ _ _ _ _ _ _ _ _ _ _ _ _ _ _ _ _ _ _ (bearI (downI (smI x1 y1 z1)) (downI (smI x2 y2 z2))) _ _ _ w (noB_cases n1) (noB_cases n2) (trend_cases _ _ _) (jwrap (by omega)) (jwrap (by omega)) (jwrap (by omega)) (fun W hW => known16 W (he.below hW)) (fun W _ => jints h1 W) (fun W _ => jzero (smI x1 y1 z1) e1 W) (fun W _ => jints h2 W) (fun W _ => jzero (smI x2 y2 z2) e2 W) jd1 jd2 (fun W hW => jmake h1 W (he.below hW)) (fun W hW => jmake h2 W (he.below hW)) (fun W hW => ttrend_ok D1 W (he.below hW) n1) (fun W hW => tctrend_ok D1 D2 W (he.below hW) n1 n2) (fun W _ => moctant_of _ _ W) (fun W _ => moctant_of _ _ W)

end Go.Proofs.YtajkeoapfkkjbaaGreatDoor
