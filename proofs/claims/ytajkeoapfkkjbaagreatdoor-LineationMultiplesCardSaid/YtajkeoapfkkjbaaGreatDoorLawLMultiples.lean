/- LineationMultiples returns true. -/
import Derived.Test.YtajkeoapfkkjbaaGreatDoorLinMu
import Derived.Test.YtajkeoapfkkjbaaGreatDoorWMultiples
namespace Go.Proofs.YtajkeoapfkkjbaaGreatDoor
set_option linter.all false
open Go.RowKit

theorem multiples_walk (x1 y1 z1 b1 k : Int) (h1 : Sm x1 y1 z1 b1) (hk : -128 ≤ k ∧ k ≤ 127) (w : World) (he : Env w) :
    Calls Tryz.prog 9 #[.agg #[.int .i8 x1, .int .i8 y1, .int .i8 z1, .int .u8 b1], .int .i8 k] w fun e w' => e = .returned (.bool true) ∧ Below w.heap.size w w' := by
  cases e1 : zeroB (smI x1 y1 z1) with
  | true => exact multiples_z1 _ _ _ _ _ _ _ _ w (fun W hW => known16 W (he.below hW)) (fun W _ => jints h1 W) (fun W _ => jzero (smI x1 y1 z1) e1 W)
  | false =>
  by_cases hk0 : k = 0
  · subst hk0
    exact multiples_k0 _ _ _ _ _ _ _ w (fun W hW => known16 W (he.below hW)) (fun W _ => jints h1 W) (fun W _ => jzero (smI x1 y1 z1) e1 W)
  have D1 := Desc.small (b := b1) (zeroB_false e1)
  obtain ⟨u1, u2, u3⟩ := rmul_half hk0 hk D1 w he
  have hq : ∃ n m : Int, (∀ W, Below w.heap.size w W → Calls Tryz.prog 31 #[.agg #[.string (canonR (ofI (smI x1 y1 z1) (smD b1)).x), .string (canonR (ofI (smI x1 y1 z1) (smD b1)).y), .string (canonR (ofI (smI x1 y1 z1) (smD b1)).z)]] W fun e w' => e = .returned (.tuple #[.int .i64 n, .int .i64 m]) ∧ Below W.heap.size W w') ∧
      (∀ W, Below w.heap.size w W → Calls Tryz.prog 31 #[.agg #[.string (canonR (downI (smI x1 y1 z1)).rat.x), .string (canonR (downI (smI x1 y1 z1)).rat.y), .string (canonR (downI (smI x1 y1 z1)).rat.z)]] W fun e w' => e = .returned (.tuple #[.int .i64 n, .int .i64 m]) ∧ Below W.heap.size W w') := by
    have dd := down_down D1.nz
    rw [rat_ofI]
    cases n1 : noB (downI (smI x1 y1 z1)) with
    | true => exact ⟨0, 19, fun W hW => ttrend_none D1 W (he.below hW) n1, fun W hW => ttrend_none D1.down W (he.below hW) (by rw [dd]; exact n1)⟩
    | false =>
      have t2 := fun W (hW : Below w.heap.size w W) => ttrend_ok D1.down W (he.below hW) (by rw [dd]; exact n1)
      rw [dd] at t2
      exact ⟨_, 0, fun W hW => ttrend_ok D1 W (he.below hW) n1, t2⟩
  obtain ⟨n, m, t1, t2⟩ := hq
  obtain ⟨S, v, pl⟩ := wplunge hk0 hk D1 w he
  have o3 := fun W (hW : Below w.heap.size w W) => tof D1.down W (he.below hW)
  rw [down_down D1.nz, ← rat_ofI] at o3
  exact multiples_ok _ _ _ _ _ _ _ _ n m _ _ _ _ _ _ _ _ _ _ S v w (beq_eq_false_iff_ne.2 hk0) (jwrap (by omega)) (fun W hW => known16 W (he.below hW)) (fun W _ => jints h1 W) (fun W _ => jzero (smI x1 y1 z1) e1 W) (fun W hW => jmake h1 W (he.below hW)) (fun W hW => mquot k 2 (by omega) (by omega) (by omega) (by omega) (by omega) W (he.below hW)) u1 u2 u3 (fun W hW => tof D1 W (he.below hW)) (fun W hW => wof hk0 hk D1 W (he.below hW)) o3 (fun W hW => wsame hk0 hk D1 W (he.below hW)) t1 t2 (fun W hW => (pl W hW).1) (fun W hW => (pl W hW).2)

end Go.Proofs.YtajkeoapfkkjbaaGreatDoor
