/- LineationAngles returns true. -/
import Derived.Test.YtajkeoapfkkjbaaGreatDoorLawLin
import Derived.Test.YtajkeoapfkkjbaaGreatDoorWAngles
namespace Go.Proofs.YtajkeoapfkkjbaaGreatDoor
set_option linter.all false
open Go.RowKit

theorem angles_walk (x1 y1 z1 b1 x2 y2 z2 b2 x3 y3 z3 b3 x4 y4 z4 b4 : Int) (h1 : Sm x1 y1 z1 b1) (h2 : Sm x2 y2 z2 b2) (h3 : Sm x3 y3 z3 b3) (h4 : Sm x4 y4 z4 b4) (w : World) (he : Env w) :
    Calls Tryz.prog 6 #[.agg #[.int .i8 x1, .int .i8 y1, .int .i8 z1, .int .u8 b1], .agg #[.int .i8 x2, .int .i8 y2, .int .i8 z2, .int .u8 b2], .agg #[.int .i8 x3, .int .i8 y3, .int .i8 z3, .int .u8 b3, .int .i8 x4, .int .i8 y4, .int .i8 z4, .int .u8 b4]] w fun e w' => e = .returned (.bool true) ∧ Below w.heap.size w w' := by
  cases e1 : zeroB (smI x1 y1 z1) with
  | true => exact angles_z1 _ _ _ _ _ _ _ _ _ _ _ _ _ _ _ _ _ _ _ w (fun W hW => known16 W (he.below hW)) (fun W _ => jints h1 W) (fun W _ => jzero (smI x1 y1 z1) e1 W)
  | false =>
  cases e2 : zeroB (smI x2 y2 z2) with
  | true => exact angles_z2 _ _ _ _ _ _ _ _ _ _ _ _ _ _ _ _ _ _ _ _ _ _ w (fun W hW => known16 W (he.below hW)) (fun W _ => jints h1 W) (fun W _ => jzero (smI x1 y1 z1) e1 W) (fun W _ => jints h2 W) (fun W _ => jzero (smI x2 y2 z2) e2 W)
  | false =>
  cases e3 : zeroB (smI x3 y3 z3) with
  | true => exact angles_z3 _ _ _ _ _ _ _ _ _ _ _ _ _ _ _ _ _ _ _ _ _ _ _ _ _ w (fun W hW => known16 W (he.below hW)) (fun W _ => jints h1 W) (fun W _ => jzero (smI x1 y1 z1) e1 W) (fun W _ => jints h2 W) (fun W _ => jzero (smI x2 y2 z2) e2 W) (fun W _ => jints h3 W) (fun W _ => jzero (smI x3 y3 z3) e3 W)
  | false =>
  cases e4 : zeroB (smI x4 y4 z4) with
  | true => exact angles_z4 _ _ _ _ _ _ _ _ _ _ _ _ _ _ _ _ _ _ _ _ _ _ _ _ _ _ _ _ w (fun W hW => known16 W (he.below hW)) (fun W _ => jints h1 W) (fun W _ => jzero (smI x1 y1 z1) e1 W) (fun W _ => jints h2 W) (fun W _ => jzero (smI x2 y2 z2) e2 W) (fun W _ => jints h3 W) (fun W _ => jzero (smI x3 y3 z3) e3 W) (fun W _ => jints h4 W) (fun W _ => jzero (smI x4 y4 z4) e4 W)
  | false =>
  have D1 := Desc.small (b := b1) (zeroB_false e1)
  have D2 := Desc.small (b := b2) (zeroB_false e2)
  have D3 := Desc.small (b := b3) (zeroB_false e3)
  have D4 := Desc.small (b := b4) (zeroB_false e4)
  have hd := dot_bd D1.bd D2.bd
  have hs := dd_bd D1.bd
  have ht := dd_bd D2.bd
  have ps := dot_self_pos D1.nz
  have pt := dot_self_pos D2.nz
  have hq := mul_pp hs ht
  have hn : dotI (smI x1 y1 z1) (smI x1 y1 z1) * dotI (smI x2 y2 z2) (smI x2 y2 z2) ≠ 0 := fun h => by rcases Int.mul_eq_zero.1 h with h | h <;> omega
  have hf := mul_in2 hd hd (by omega) (by omega)
  have hd' := dot_bd D3.bd D4.bd
  have hs' := dd_bd D3.bd
  have ht' := dd_bd D4.bd
  have ps' := dot_self_pos D3.nz
  have pt' := dot_self_pos D4.nz
  have hq' := mul_pp hs' ht'
  have hn' : dotI (smI x3 y3 z3) (smI x3 y3 z3) * dotI (smI x4 y4 z4) (smI x4 y4 z4) ≠ 0 := fun h => by rcases Int.mul_eq_zero.1 h with h | h <;> omega
  have hf' := mul_in2 hd' hd' (by omega) (by omega)
  exact angles_ok _ _ _ _ _ _ _ _ _ _ _ _ _ _ _ _ _ _ _ _ _ _ _ _ _ _ _ _ (cmpR (rdiv2 (dotI (smI x3 y3 z3) (smI x4 y4 z4) * dotI (smI x3 y3 z3) (smI x4 y4 z4)) (dotI (smI x3 y3 z3) (smI x3 y3 z3) * dotI (smI x4 y4 z4) (smI x4 y4 z4))) (rdiv2 (dotI (smI x1 y1 z1) (smI x2 y2 z2) * dotI (smI x1 y1 z1) (smI x2 y2 z2)) (dotI (smI x1 y1 z1) (smI x1 y1 z1) * dotI (smI x2 y2 z2) (smI x2 y2 z2)))) (dotI (smI x1 y1 z1) (smI x2 y2 z2)) (dotI (smI x1 y1 z1) (smI x1 y1 z1)) (dotI (smI x2 y2 z2) (smI x2 y2 z2)) _ _ _ _ _ _ _ _ _ _ _ _ _ _ w (jwrap (by omega)) (jwrap (by omega)) (fun W hW => known16 W (he.below hW)) (fun W _ => jints h1 W) (fun W _ => jzero (smI x1 y1 z1) e1 W) (fun W _ => jints h2 W) (fun W _ => jzero (smI x2 y2 z2) e2 W) (fun W _ => jints h3 W) (fun W _ => jzero (smI x3 y3 z3) e3 W) (fun W _ => jints h4 W) (fun W _ => jzero (smI x4 y4 z4) e4 W) (fun W hW => jmake h1 W (he.below hW)) (fun W hW => jmake h2 W (he.below hW)) (fun W hW => jmake h3 W (he.below hW)) (fun W hW => jmake h4 W (he.below hW)) (fun W hW => tangle D1 D2 W (he.below hW)) (fun W hW => tangle D3 D4 W (he.below hW)) (fun W hW => tcang D1 D2 D3 D4 W (he.below hW)) (fun W _ => jdot D1 D2 W) (fun W _ => jdot D1 D1 W) (fun W _ => jdot D2 D2 W) (fun W hW => mquot _ _ hn (by omega) (by omega) (by omega) (by omega) W (he.below hW)) (fun W hW => rcompare_any _ _ 7 (by omega) (by omega) (rdiv2_in _ _ 7 hn' (by show _ < 10000000; omega) (by show _ < 10000000; omega)) (rdiv2_in _ _ 7 hn (by show _ < 10000000; omega) (by show _ < 10000000; omega)) W (he.below hW))

end Go.Proofs.YtajkeoapfkkjbaaGreatDoor
