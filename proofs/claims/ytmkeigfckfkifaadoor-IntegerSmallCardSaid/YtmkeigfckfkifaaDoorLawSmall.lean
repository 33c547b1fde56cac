/- IntegerSmall: the walk: for any described integer of at most 24 digits the call returns true and leaves the description as it was, where strconv.ErrRange's variable stands as it was laid. -/
import Derived.Test.YtmkeigfckfkifaaDoorLawBase
import Derived.Test.YtmkeigfckfkifaaDoorRefV
import Derived.Test.YtmkeigfckfkifaaDoorMake
import Derived.WalkSmall
namespace Go.Proofs.YtmkeigfckfkifaaDoor
open Go.RowKit

set_option maxRecDepth 100000 in
set_option maxHeartbeats 4000000 in
theorem small_walk (m1 : Bool) (A1 : Option Addr) (p1 : Nat) (d1 : List Int) (w : World) (h1 : Sl w .u8 A1 p1 d1) (r1 : ∀ x ∈ d1, 0 ≤ x ∧ x < 256) (ht : Pow10 w) (tp : TypeId) (pv : Value) (gr : Nat) (hgr : Tryd.prog.globalNamed "strconv.ErrRange" = some gr) (hgs : gr < w.heap.size) (hv : w.var? Tryd.prog "strconv.ErrRange" = some #[.iface tp pv]) :
    Calls Tryd.prog 5 #[.agg #[.bool m1, .slice A1 d1.length p1]] w fun e w' => e = .returned (.bool true) ∧ Below w.heap.size w w' := by
  have hk := fun W (hW : Below w.heap.size w W) => known_any W (ht.below hW)
  have k1 := fun W (hW : Below w.heap.size w W) => make_any m1 A1 p1 d1 24 W (h1.below hW) r1 (by omega) (by omega)
  have ks := fun (z : Int) (hz : (canon z).size ≤ 1000) W (hW : Below w.heap.size w W) => small_int z W tp pv (var?_below hW hgr hgs hv) hz
  have HK := Lib.hid hk
  have K1 := Lib.hid k1
  have KS := Lib.hid ks
  have b0 : Below w.heap.size w (w.alloc (.cells #[.bool m1, .slice A1 d1.length p1] 30)) := (Below.refl _ _).alloc (Nat.le_refl _) _
  have x1 := heap_alloc_new w (Obj.cells #[Value.bool m1, Value.slice A1 d1.length p1] 30)
  have z0 : (w.alloc (Obj.cells #[Value.bool m1, Value.slice A1 d1.length p1] 30)).heap.size = w.heap.size + 1 := World.size_alloc ..
  have B0 := Lib.hid b0
  have X1 := Lib.hid x1
  have Z0 := Lib.hid z0
  clear hk k1 ks ht b0 x1 h1 r1 hv hgr hgs z0
  go_enter Tryd.func5, Tryd.ntmps5
  go_upto_region 3 with (go_at_call 9; refine (HK.out _ B0.out).mono ?_; rintro e w1 ⟨rfl, b1⟩; have B1 := Lib.hid b1; clear b1)
  have y1 := (B1.out.block w.heap.size (by rw [Z0.out]; omega)).trans X1.out
  have bw1 := B0.out.trans (B1.out.mono B0.out.size)
  have c0 : w1.cell? ⟨w.heap.size, 0, none⟩ = some (.bool m1) := by rw [Lib.cell_of_heap y1]; rfl
  have c1 : w1.cell? ⟨w.heap.size, 1, none⟩ = some (.slice A1 d1.length p1) := by rw [Lib.cell_of_heap y1]; rfl
  have BW1 := Lib.hid bw1
  clear y1 bw1 B0 B1 X1 Z0
  go_upto_region 4 with (go_at_call 12; (with_reducible refine (K1.out _ BW1.out).mono ?_); rintro e w2 ⟨⟨z, hz, rfl⟩, b2⟩; have HZ := Lib.hid hz; have B2 := Lib.hid (BW1.out.trans (b2.mono BW1.out.size)); clear hz b2)
  have s1 := canon_size_lt z 24 HZ.out (by omega)
  have s2 : (mag z).size ≤ 1000 := Nat.le_trans (mag_le z 25 s1) (by omega)
  have l1 := KS.out z (by omega)
  have l2 := fun W => smallR_any z W s2
  obtain ⟨vz, hvz⟩ : ∃ v, smallV z = v := ⟨_, rfl⟩
  obtain ⟨bz, hbz⟩ : ∃ v, smallB z = v := ⟨_, rfl⟩
  rw [hvz, hbz] at l1 l2
  have L1 := Lib.hid l1
  have L2 := Lib.hid l2
  clear l1 l2 hvz hbz s1 s2 KS c0 c1
  go_wp2_with (first
    | (go_at_call 15; (with_reducible refine (L1.out _ B2.out).mono ?_); rintro e w3 ⟨rfl, b⟩; have B3 := Lib.hid (B2.out.trans (b.mono B2.out.size)); clear b)
    | (go_at_call 16; (with_reducible refine (L2.out _).mono ?_); rintro e w4 ⟨rfl, b⟩; have B4 := Lib.hid (B3.out.trans (b.mono B3.out.size)); clear b))
  go_ret
  exact ⟨by simp, B4.out⟩

end Go.Proofs.YtmkeigfckfkifaaDoor
