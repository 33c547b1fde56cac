/- LineationPlunges returns true. -/
import Derived.Test.YtajkeoapfkkjbaaGreatDoorLawLin
import Derived.Test.YtajkeoapfkkjbaaGreatDoorWPlunges
namespace Go.Proofs.YtajkeoapfkkjbaaGreatDoor
set_option linter.all false
open Go.RowKit

theorem plunges_walk (x1 y1 z1 b1 x2 y2 z2 b2 : Int) (h1 : Sm x1 y1 z1 b1) (h2 : Sm x2 y2 z2 b2) (w : World) (he : Env w) :
    Calls Tryz.prog 10 #[.agg #[.int .i8 x1, .int .i8 y1, .int .i8 z1, .int .u8 b1], .agg #[.int .i8 x2, .int .i8 y2, .int .i8 z2, .int .u8 b2]] w fun e w' => e = .returned (.bool true) ∧ Below w.heap.size w w' := by
  cases e1 : zeroB (smI x1 y1 z1) with
  | true => exact plunges_z1 _ _ _ _ _ _ _ _ _ _ _ w (fun W hW => known16 W (he.below hW)) (fun W _ => jints h1 W) (fun W _ => jzero (smI x1 y1 z1) e1 W)
  | false =>
  cases e2 : zeroB (smI x2 y2 z2) with
  | true => exact plunges_z2 _ _ _ _ _ _ _ _ _ _ _ _ _ _ w (fun W hW => known16 W (he.below hW)) (fun W _ => jints h1 W) (fun W _ => jzero (smI x1 y1 z1) e1 W) (fun W _ => jints h2 W) (fun W _ => jzero (smI x2 y2 z2) e2 W)
  | false =>
  have D1 := Desc.small (b := b1) (zeroB_false e1)
  have D2 := Desc.small (b := b2) (zeroB_false e2)
  have p1 := sq_bd D1.bd.1
  have p2 := sq_bd D1.bd.2.1
  have p3 := sq_bd D1.bd.2.2
  have q1 := sq_bd D2.bd.1
  have q2 := sq_bd D2.bd.2.1
  have q3 := sq_bd D2.bd.2.2
  have f1 : 0 ≤ (smI x1 y1 z1).x * (smI x1 y1 z1).x + (smI x1 y1 z1).y * (smI x1 y1 z1).y ∧ (smI x1 y1 z1).x * (smI x1 y1 z1).x + (smI x1 y1 z1).y * (smI x1 y1 z1).y ≤ 800 := by omega
  have f2 : 0 ≤ (smI x2 y2 z2).x * (smI x2 y2 z2).x + (smI x2 y2 z2).y * (smI x2 y2 z2).y ∧ (smI x2 y2 z2).x * (smI x2 y2 z2).x + (smI x2 y2 z2).y * (smI x2 y2 z2).y ≤ 800 := by omega
  have g1 := mul_pp p3 f2
  have g2 := mul_pp q3 f1
  cases e : ((smI x1 y1 z1).x * (smI x1 y1 z1).x + (smI x1 y1 z1).y * (smI x1 y1 z1).y == 0) with
  | true => exact plunges_vert _ _ _ _ _ _ _ _ _ _ _ _ _ _ _ _ _ _ _ _ _ _ _ _ w (sign_cases _) e (jwrap (by omega)) (jwrap (by omega)) (jwrap (by omega)) (jwrap (by omega)) (jwrap (by omega)) (jwrap (by omega)) (jwrap (by omega)) (jwrap (by omega)) (jwrap (by omega)) (jwrap (by omega)) (jwrap (by omega)) (fun W hW => known16 W (he.below hW)) (fun W _ => jints h1 W) (fun W _ => jzero (smI x1 y1 z1) e1 W) (fun W _ => jints h2 W) (fun W _ => jzero (smI x2 y2 z2) e2 W) (fun W hW => jmake h1 W (he.below hW)) (fun W hW => jmake h2 W (he.below hW)) (fun W hW => tplunge_vert D1 W (he.below hW) (eq_of_beq e)) (fun W hW => tcplunge D1 D2 W (he.below hW))
  | false => exact plunges_ok _ _ _ _ _ _ _ _ _ _ _ _ _ _ _ _ _ _ _ _ _ _ _ _ _ w (sign_cases _) e (jwrap (by omega)) (jwrap (by omega)) (jwrap (by omega)) (jwrap (by omega)) (jwrap (by omega)) (jwrap (by omega)) (jwrap (by omega)) (jwrap (by omega)) (jwrap (by omega)) (jwrap (by omega)) (jwrap (by omega)) (fun W hW => known16 W (he.below hW)) (fun W _ => jints h1 W) (fun W _ => jzero (smI x1 y1 z1) e1 W) (fun W _ => jints h2 W) (fun W _ => jzero (smI x2 y2 z2) e2 W) (fun W hW => jmake h1 W (he.below hW)) (fun W hW => jmake h2 W (he.below hW)) (fun W hW => tplunge_ok D1 W (he.below hW) (ne_of_beq_false e)) (fun W hW => tcplunge D1 D2 W (he.below hW)) (fun W hW => mquot _ _ (ne_of_beq_false e) (by omega) (by omega) (by omega) (by omega) W (he.below hW))

end Go.Proofs.YtajkeoapfkkjbaaGreatDoor
