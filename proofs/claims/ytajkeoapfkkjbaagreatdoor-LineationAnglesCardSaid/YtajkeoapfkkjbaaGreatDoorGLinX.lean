/- The walks of lineation on texts: vectors, checks, signs, bearings. -/
import Derived.Test.YtajkeoapfkkjbaaGreatDoorShelf
import Derived.Test.YtajkeoapfkkjbaaGreatDoorBox
import Derived.Deep.RegionHeld3
import Derived.Laws.ResultCell
import Derived.Deep.Cut
import Derived.Deep.CutRange
import Derived.Deep.DeepCutAuto
import Derived.BigQuiet
import Derived.Deep.QuietTactic
import Derived.LoopTactic
/- The walks of the vectors of package lineation, over texts. -/
namespace Go.Proofs.YtajkeoapfkkjbaaGreatDoor
set_option linter.all false
open Go.RowKit

set_option maxRecDepth 100000 in
set_option maxHeartbeats 2000000 in
theorem lless_of (A C D F P Q R : ByteArray) (w : World)
    (m1 : ∀ W, Below w.heap.size w W → Calls Tryz.prog 34 #[.string A, .string C] W fun e w' => e = .returned (.string P) ∧ Below W.heap.size W w')
    (m2 : ∀ W, Below w.heap.size w W → Calls Tryz.prog 34 #[.string D, .string F] W fun e w' => e = .returned (.string Q) ∧ Below W.heap.size W w')
    (m3 : ∀ W, Below w.heap.size w W → Calls Tryz.prog 81 #[.string P, .string Q] W fun e w' => e = .returned (.string R) ∧ Below W.heap.size W w') :
    Calls Tryz.prog 58 #[.string A, .string C, .string D, .string F] w fun e w' => e = .returned (.string R) ∧ Below w.heap.size w w' := by
  have M1 := Lib.hid m1
  have M2 := Lib.hid m2
  have M3 := Lib.hid m3
  clear m1 m2 m3
  have B := Lib.hid (Below.refl w.heap.size w)
  go_enter Tryz.func58, Tryz.ntmps58
  go_wp2_with (first
    | (go_at_call 34; (with_reducible refine (M1.out _ (Near.base (by first | exact Near.same _ | exact Near.one _) B.out)).mono ?_); rintro e wx ⟨rfl, q⟩; replace B := Lib.hid (Near.go (by first | exact Near.same _ | exact Near.one _) B.out q B.out.size); clear q)
    | (go_at_call 34; (with_reducible refine (M2.out _ (Near.base (by first | exact Near.same _ | exact Near.one _) B.out)).mono ?_); rintro e wx ⟨rfl, q⟩; replace B := Lib.hid (Near.go (by first | exact Near.same _ | exact Near.one _) B.out q B.out.size); clear q)
    | (go_at_call 81; (with_reducible refine (M3.out _ (Near.base (by first | exact Near.same _ | exact Near.one _) B.out)).mono ?_); rintro e wx ⟨rfl, q⟩; replace B := Lib.hid (Near.go (by first | exact Near.same _ | exact Near.one _) B.out q B.out.size); clear q)
    | fail "arm")
  go_ret
  exact ⟨rfl, B.out⟩

set_option maxRecDepth 100000 in
set_option maxHeartbeats 2000000 in
theorem lscale_of (X Y Z K X1 Y1 Z1 : ByteArray) (w : World)
    (m1 : ∀ W, Below w.heap.size w W → Calls Tryz.prog 34 #[.string X, .string K] W fun e w' => e = .returned (.string X1) ∧ Below W.heap.size W w')
    (m2 : ∀ W, Below w.heap.size w W → Calls Tryz.prog 34 #[.string Y, .string K] W fun e w' => e = .returned (.string Y1) ∧ Below W.heap.size W w')
    (m3 : ∀ W, Below w.heap.size w W → Calls Tryz.prog 34 #[.string Z, .string K] W fun e w' => e = .returned (.string Z1) ∧ Below W.heap.size W w') :
    Calls Tryz.prog 71 #[.agg #[.string X, .string Y, .string Z], .string K] w fun e w' => e = .returned (.agg #[.string X1, .string Y1, .string Z1]) ∧ Below w.heap.size w w' := by
  have M1 := Lib.hid m1
  have M2 := Lib.hid m2
  have M3 := Lib.hid m3
  clear m1 m2 m3
  have k0 := Blk.fresh w #[.string X, .string Y, .string Z] 34
  replace k0 := k0.alloc (Obj.cells #[.string ⟨#[]⟩, .string ⟨#[]⟩, .string ⟨#[]⟩] 34)
  have k1 := Blk.fresh (w.alloc (Obj.cells #[.string X, .string Y, .string Z] 34)) #[.string ⟨#[]⟩, .string ⟨#[]⟩, .string ⟨#[]⟩] 34
  rw [show (w.alloc (Obj.cells #[.string X, .string Y, .string Z] 34)).heap.size = w.heap.size + 1 from World.size_alloc ..] at k1
  have b0 : Below w.heap.size w ((w.alloc (Obj.cells #[.string X, .string Y, .string Z] 34)).alloc (Obj.cells #[.string ⟨#[]⟩, .string ⟨#[]⟩, .string ⟨#[]⟩] 34)) := (((Below.refl _ _).alloc (Nat.le_refl _) _).alloc (by simp; try omega) _)
  have K0 := Lib.hid k0
  have K1 := Lib.hid k1
  have B := Lib.hid b0
  clear b0 k0 k1
  go_enter Tryz.func71, Tryz.ntmps71
  go_upto_region 1 with (fail)
  generalize ((w.alloc (Obj.cells #[.string X, .string Y, .string Z] 34)).alloc (Obj.cells #[.string ⟨#[]⟩, .string ⟨#[]⟩, .string ⟨#[]⟩] 34)) = W0 at *
  have c00 := K0.out.at_ 0 _ rfl
  have c01 := K0.out.at_ 1 _ rfl
  have c02 := K0.out.at_ 2 _ rfl
  have c10 := K1.out.at_ 0 _ rfl
  have c11 := K1.out.at_ 1 _ rfl
  have c12 := K1.out.at_ 2 _ rfl
  have z10 := K1.out.free 0
  have z11 := K1.out.free 1
  have z12 := K1.out.free 2
  go_region_held3 (fun w' => w'.cell? ⟨w.heap.size, 0, none⟩ = some (.string X) ∧ w'.cell? ⟨w.heap.size, 1, none⟩ = some (.string Y) ∧ w'.cell? ⟨w.heap.size, 2, none⟩ = some (.string Z))
    (first | exact ⟨c00, c01, c02⟩ | exact ⟨(K0.out.alloc _).at_ 0 _ rfl, (K0.out.alloc _).at_ 1 _ rfl, (K0.out.alloc _).at_ 2 _ rfl⟩ | exact ⟨(K0.out.else3 (by omega) _ _ _).at_ 0 _ rfl, (K0.out.else3 (by omega) _ _ _).at_ 1 _ rfl, (K0.out.else3 (by omega) _ _ _).at_ 2 _ rfl⟩)
    (first
      | (go_at_call_of 34 (Value.string X); (with_reducible refine (M1.out _ (Near.base (by first | exact Near.same _ | exact Near.one _) B.out)).mono ?_); rintro e wx ⟨rfl, q⟩; replace K0 := Lib.hid (K0.out.near (by first | exact Near.same _ | exact Near.one _) q); replace K1 := Lib.hid (K1.out.near (by first | exact Near.same _ | exact Near.one _) q); replace B := Lib.hid (Near.go (by first | exact Near.same _ | exact Near.one _) B.out q B.out.size); clear q; replace c00 := K0.out.at_ 0 _ rfl; replace c01 := K0.out.at_ 1 _ rfl; replace c02 := K0.out.at_ 2 _ rfl; replace c10 := K1.out.at_ 0 _ rfl; replace c11 := K1.out.at_ 1 _ rfl; replace c12 := K1.out.at_ 2 _ rfl; replace z10 := K1.out.free 0; replace z11 := K1.out.free 1; replace z12 := K1.out.free 2)
      | (go_at_call_of 34 (Value.string Y); (with_reducible refine (M2.out _ (Near.base (by first | exact Near.same _ | exact Near.one _) B.out)).mono ?_); rintro e wx ⟨rfl, q⟩; replace K0 := Lib.hid (K0.out.near (by first | exact Near.same _ | exact Near.one _) q); replace K1 := Lib.hid (K1.out.near (by first | exact Near.same _ | exact Near.one _) q); replace B := Lib.hid (Near.go (by first | exact Near.same _ | exact Near.one _) B.out q B.out.size); clear q; replace c00 := K0.out.at_ 0 _ rfl; replace c01 := K0.out.at_ 1 _ rfl; replace c02 := K0.out.at_ 2 _ rfl; replace c10 := K1.out.at_ 0 _ rfl; replace c11 := K1.out.at_ 1 _ rfl; replace c12 := K1.out.at_ 2 _ rfl; replace z10 := K1.out.free 0; replace z11 := K1.out.free 1; replace z12 := K1.out.free 2)
      | (go_at_call_of 34 (Value.string Z); (with_reducible refine (M3.out _ (Near.base (by first | exact Near.same _ | exact Near.one _) B.out)).mono ?_); rintro e wx ⟨rfl, q⟩; replace K0 := Lib.hid (K0.out.near (by first | exact Near.same _ | exact Near.one _) q); replace K1 := Lib.hid (K1.out.near (by first | exact Near.same _ | exact Near.one _) q); replace B := Lib.hid (Near.go (by first | exact Near.same _ | exact Near.one _) B.out q B.out.size); clear q; replace c00 := K0.out.at_ 0 _ rfl; replace c01 := K0.out.at_ 1 _ rfl; replace c02 := K0.out.at_ 2 _ rfl; replace c10 := K1.out.at_ 0 _ rfl; replace c11 := K1.out.at_ 1 _ rfl; replace c12 := K1.out.at_ 2 _ rfl; replace z10 := K1.out.free 0; replace z11 := K1.out.free 1; replace z12 := K1.out.free 2)
      | fail "arm")
  clear c00 c01 c02 c10 c11 c12 z10 z11 z12
  have R3 := K1.out.set3 (.string X1) (.string Y1) (.string Z1)
  have B3 := Lib.hid (B.out.trans (below_else3 wx w.heap.size (w.heap.size + 1) (by omega) (.string X1) (.string Y1) (.string Z1)))
  generalize (((wx.setCell ⟨w.heap.size + 1, 0, none⟩ (.string X1)).setCell ⟨w.heap.size + 1, 1, none⟩ (.string Y1)).setCell ⟨w.heap.size + 1, 2, none⟩ (.string Z1)) = W3 at *
  have e0 := R3.at_ 0 _ rfl
  have e1 := R3.at_ 1 _ rfl
  have e2 := R3.at_ 2 _ rfl
  clear R3
  clear K0 K1 B
  go_wp2
  exact bodyPost_ret (v := .agg #[.string X1, .string Y1, .string Z1]) (by simp [results, Tryz.results71, go_sem, e0, e1, e2]) rfl ⟨rfl, B3.out⟩

set_option maxRecDepth 100000 in
set_option maxHeartbeats 2000000 in
theorem ldot_of (A C D F G H P1 P2 P3 R : ByteArray) (w : World)
    (m1 : ∀ W, Below w.heap.size w W → Calls Tryz.prog 34 #[.string A, .string F] W fun e w' => e = .returned (.string P1) ∧ Below W.heap.size W w')
    (m2 : ∀ W, Below w.heap.size w W → Calls Tryz.prog 34 #[.string C, .string G] W fun e w' => e = .returned (.string P2) ∧ Below W.heap.size W w')
    (m3 : ∀ W, Below w.heap.size w W → Calls Tryz.prog 34 #[.string D, .string H] W fun e w' => e = .returned (.string P3) ∧ Below W.heap.size W w')
    (s1 : ∀ W, Below w.heap.size w W → Calls Tryz.prog 66 #[.slice (some ⟨W.heap.size, 0, none⟩) 3 3] (W.alloc (.cells #[.string P1, .string P2, .string P3] 32)) fun e w' => e = .returned (.string R) ∧ Below W.heap.size W w') :
    Calls Tryz.prog 44 #[.agg #[.string A, .string C, .string D], .agg #[.string F, .string G, .string H]] w fun e w' => e = .returned (.string R) ∧ Below w.heap.size w w' := by
  have M1 := Lib.hid m1
  have M2 := Lib.hid m2
  have M3 := Lib.hid m3
  have S1 := Lib.hid s1
  clear m1 m2 m3 s1
  have k0 := Blk.fresh w #[.string A, .string C, .string D] 34
  replace k0 := k0.alloc (Obj.cells #[.string F, .string G, .string H] 34)
  have k1 := Blk.fresh (w.alloc (Obj.cells #[.string A, .string C, .string D] 34)) #[.string F, .string G, .string H] 34
  rw [show (w.alloc (Obj.cells #[.string A, .string C, .string D] 34)).heap.size = w.heap.size + 1 from World.size_alloc ..] at k1
  have b0 : Below w.heap.size w ((w.alloc (Obj.cells #[.string A, .string C, .string D] 34)).alloc (Obj.cells #[.string F, .string G, .string H] 34)) := (((Below.refl _ _).alloc (Nat.le_refl _) _).alloc (by simp; try omega) _)
  have K0 := Lib.hid k0
  have K1 := Lib.hid k1
  have B := Lib.hid b0
  clear b0 k0 k1
  go_enter Tryz.func44, Tryz.ntmps44
  go_upto_region 1 with (fail)
  generalize ((w.alloc (Obj.cells #[.string A, .string C, .string D] 34)).alloc (Obj.cells #[.string F, .string G, .string H] 34)) = W0 at *
  have c00 := K0.out.at_ 0 _ rfl
  have c01 := K0.out.at_ 1 _ rfl
  have c02 := K0.out.at_ 2 _ rfl
  have c10 := K1.out.at_ 0 _ rfl
  have c11 := K1.out.at_ 1 _ rfl
  have c12 := K1.out.at_ 2 _ rfl
  go_region_held3 (fun w' => w'.cell? ⟨w.heap.size, 0, none⟩ = some (.string A) ∧ w'.cell? ⟨w.heap.size, 1, none⟩ = some (.string C) ∧ w'.cell? ⟨w.heap.size, 2, none⟩ = some (.string D) ∧ w'.cell? ⟨w.heap.size + 1, 0, none⟩ = some (.string F) ∧ w'.cell? ⟨w.heap.size + 1, 1, none⟩ = some (.string G) ∧ w'.cell? ⟨w.heap.size + 1, 2, none⟩ = some (.string H))
    (first | exact ⟨c00, c01, c02, c10, c11, c12⟩ | exact ⟨(K0.out.alloc _).at_ 0 _ rfl, (K0.out.alloc _).at_ 1 _ rfl, (K0.out.alloc _).at_ 2 _ rfl, (K1.out.alloc _).at_ 0 _ rfl, (K1.out.alloc _).at_ 1 _ rfl, (K1.out.alloc _).at_ 2 _ rfl⟩)
    (first
      | (go_at_call_of 34 (Value.string A); (with_reducible refine (M1.out _ (Near.base (by first | exact Near.same _ | exact Near.one _) B.out)).mono ?_); rintro e wx ⟨rfl, q⟩; replace K0 := Lib.hid (K0.out.near (by first | exact Near.same _ | exact Near.one _) q); replace K1 := Lib.hid (K1.out.near (by first | exact Near.same _ | exact Near.one _) q); replace B := Lib.hid (Near.go (by first | exact Near.same _ | exact Near.one _) B.out q B.out.size); clear q; replace c00 := K0.out.at_ 0 _ rfl; replace c01 := K0.out.at_ 1 _ rfl; replace c02 := K0.out.at_ 2 _ rfl; replace c10 := K1.out.at_ 0 _ rfl; replace c11 := K1.out.at_ 1 _ rfl; replace c12 := K1.out.at_ 2 _ rfl)
      | (go_at_call_of 34 (Value.string C); (with_reducible refine (M2.out _ (Near.base (by first | exact Near.same _ | exact Near.one _) B.out)).mono ?_); rintro e wx ⟨rfl, q⟩; replace K0 := Lib.hid (K0.out.near (by first | exact Near.same _ | exact Near.one _) q); replace K1 := Lib.hid (K1.out.near (by first | exact Near.same _ | exact Near.one _) q); replace B := Lib.hid (Near.go (by first | exact Near.same _ | exact Near.one _) B.out q B.out.size); clear q; replace c00 := K0.out.at_ 0 _ rfl; replace c01 := K0.out.at_ 1 _ rfl; replace c02 := K0.out.at_ 2 _ rfl; replace c10 := K1.out.at_ 0 _ rfl; replace c11 := K1.out.at_ 1 _ rfl; replace c12 := K1.out.at_ 2 _ rfl)
      | (go_at_call_of 34 (Value.string D); (with_reducible refine (M3.out _ (Near.base (by first | exact Near.same _ | exact Near.one _) B.out)).mono ?_); rintro e wx ⟨rfl, q⟩; replace K0 := Lib.hid (K0.out.near (by first | exact Near.same _ | exact Near.one _) q); replace K1 := Lib.hid (K1.out.near (by first | exact Near.same _ | exact Near.one _) q); replace B := Lib.hid (Near.go (by first | exact Near.same _ | exact Near.one _) B.out q B.out.size); clear q; replace c00 := K0.out.at_ 0 _ rfl; replace c01 := K0.out.at_ 1 _ rfl; replace c02 := K0.out.at_ 2 _ rfl; replace c10 := K1.out.at_ 0 _ rfl; replace c11 := K1.out.at_ 1 _ rfl; replace c12 := K1.out.at_ 2 _ rfl)
      | (go_at_call 66; (with_reducible refine (S1.out _ (Near.base (by first | exact Near.same _ | exact Near.one _) B.out)).mono ?_); rintro e wx ⟨rfl, q⟩; replace K0 := Lib.hid (K0.out.near (by first | exact Near.same _ | exact Near.one _) q); replace K1 := Lib.hid (K1.out.near (by first | exact Near.same _ | exact Near.one _) q); replace B := Lib.hid (Near.go (by first | exact Near.same _ | exact Near.one _) B.out q B.out.size); clear q; replace c00 := K0.out.at_ 0 _ rfl; replace c01 := K0.out.at_ 1 _ rfl; replace c02 := K0.out.at_ 2 _ rfl; replace c10 := K1.out.at_ 0 _ rfl; replace c11 := K1.out.at_ 1 _ rfl; replace c12 := K1.out.at_ 2 _ rfl)
      | fail "arm")
  go_wp2
  go_ret
  exact ⟨rfl, B.out⟩

set_option maxRecDepth 100000 in
set_option maxHeartbeats 2000000 in
theorem lcross_of (A C D F G H Q1 Q2 Q3 : ByteArray) (w : World)
    (m1 : ∀ W, Below w.heap.size w W → Calls Tryz.prog 58 #[.string C, .string H, .string D, .string G] W fun e w' => e = .returned (.string Q1) ∧ Below W.heap.size W w')
    (m2 : ∀ W, Below w.heap.size w W → Calls Tryz.prog 58 #[.string D, .string F, .string A, .string H] W fun e w' => e = .returned (.string Q2) ∧ Below W.heap.size W w')
    (m3 : ∀ W, Below w.heap.size w W → Calls Tryz.prog 58 #[.string A, .string G, .string C, .string F] W fun e w' => e = .returned (.string Q3) ∧ Below W.heap.size W w') :
    Calls Tryz.prog 49 #[.agg #[.string A, .string C, .string D], .agg #[.string F, .string G, .string H]] w fun e w' => e = .returned (.agg #[.string Q1, .string Q2, .string Q3]) ∧ Below w.heap.size w w' := by
  have M1 := Lib.hid m1
  have M2 := Lib.hid m2
  have M3 := Lib.hid m3
  clear m1 m2 m3
  have k0 := Blk.fresh w #[.string A, .string C, .string D] 34
  replace k0 := k0.alloc (Obj.cells #[.string F, .string G, .string H] 34)
  replace k0 := k0.alloc (Obj.cells #[.string ⟨#[]⟩, .string ⟨#[]⟩, .string ⟨#[]⟩] 34)
  have k1 := Blk.fresh (w.alloc (Obj.cells #[.string A, .string C, .string D] 34)) #[.string F, .string G, .string H] 34
  rw [show (w.alloc (Obj.cells #[.string A, .string C, .string D] 34)).heap.size = w.heap.size + 1 from World.size_alloc ..] at k1
  replace k1 := k1.alloc (Obj.cells #[.string ⟨#[]⟩, .string ⟨#[]⟩, .string ⟨#[]⟩] 34)
  have k2 := Blk.fresh ((w.alloc (Obj.cells #[.string A, .string C, .string D] 34)).alloc (Obj.cells #[.string F, .string G, .string H] 34)) #[.string ⟨#[]⟩, .string ⟨#[]⟩, .string ⟨#[]⟩] 34
  rw [show ((w.alloc (Obj.cells #[.string A, .string C, .string D] 34)).alloc (Obj.cells #[.string F, .string G, .string H] 34)).heap.size = w.heap.size + 2 from by simp] at k2
  have b0 : Below w.heap.size w (((w.alloc (Obj.cells #[.string A, .string C, .string D] 34)).alloc (Obj.cells #[.string F, .string G, .string H] 34)).alloc (Obj.cells #[.string ⟨#[]⟩, .string ⟨#[]⟩, .string ⟨#[]⟩] 34)) := ((((Below.refl _ _).alloc (Nat.le_refl _) _).alloc (by simp; try omega) _).alloc (by simp; try omega) _)
  have K0 := Lib.hid k0
  have K1 := Lib.hid k1
  have K2 := Lib.hid k2
  have B := Lib.hid b0
  clear b0 k0 k1 k2
  go_enter Tryz.func49, Tryz.ntmps49
  go_upto_region 1 with (fail)
  generalize (((w.alloc (Obj.cells #[.string A, .string C, .string D] 34)).alloc (Obj.cells #[.string F, .string G, .string H] 34)).alloc (Obj.cells #[.string ⟨#[]⟩, .string ⟨#[]⟩, .string ⟨#[]⟩] 34)) = W0 at *
  have c00 := K0.out.at_ 0 _ rfl
  have c01 := K0.out.at_ 1 _ rfl
  have c02 := K0.out.at_ 2 _ rfl
  have c10 := K1.out.at_ 0 _ rfl
  have c11 := K1.out.at_ 1 _ rfl
  have c12 := K1.out.at_ 2 _ rfl
  have c20 := K2.out.at_ 0 _ rfl
  have c21 := K2.out.at_ 1 _ rfl
  have c22 := K2.out.at_ 2 _ rfl
  have z20 := K2.out.free 0
  have z21 := K2.out.free 1
  have z22 := K2.out.free 2
  go_region_held3 (fun w' => w'.cell? ⟨w.heap.size, 0, none⟩ = some (.string A) ∧ w'.cell? ⟨w.heap.size, 1, none⟩ = some (.string C) ∧ w'.cell? ⟨w.heap.size, 2, none⟩ = some (.string D) ∧ w'.cell? ⟨w.heap.size + 1, 0, none⟩ = some (.string F) ∧ w'.cell? ⟨w.heap.size + 1, 1, none⟩ = some (.string G) ∧ w'.cell? ⟨w.heap.size + 1, 2, none⟩ = some (.string H))
    (first | exact ⟨c00, c01, c02, c10, c11, c12⟩ | exact ⟨(K0.out.alloc _).at_ 0 _ rfl, (K0.out.alloc _).at_ 1 _ rfl, (K0.out.alloc _).at_ 2 _ rfl, (K1.out.alloc _).at_ 0 _ rfl, (K1.out.alloc _).at_ 1 _ rfl, (K1.out.alloc _).at_ 2 _ rfl⟩ | exact ⟨(K0.out.else3 (by omega) _ _ _).at_ 0 _ rfl, (K0.out.else3 (by omega) _ _ _).at_ 1 _ rfl, (K0.out.else3 (by omega) _ _ _).at_ 2 _ rfl, (K1.out.else3 (by omega) _ _ _).at_ 0 _ rfl, (K1.out.else3 (by omega) _ _ _).at_ 1 _ rfl, (K1.out.else3 (by omega) _ _ _).at_ 2 _ rfl⟩)
    (first
      | (go_at_call_of 58 (Value.string C); (with_reducible refine (M1.out _ (Near.base (by first | exact Near.same _ | exact Near.one _) B.out)).mono ?_); rintro e wx ⟨rfl, q⟩; replace K0 := Lib.hid (K0.out.near (by first | exact Near.same _ | exact Near.one _) q); replace K1 := Lib.hid (K1.out.near (by first | exact Near.same _ | exact Near.one _) q); replace K2 := Lib.hid (K2.out.near (by first | exact Near.same _ | exact Near.one _) q); replace B := Lib.hid (Near.go (by first | exact Near.same _ | exact Near.one _) B.out q B.out.size); clear q; replace c00 := K0.out.at_ 0 _ rfl; replace c01 := K0.out.at_ 1 _ rfl; replace c02 := K0.out.at_ 2 _ rfl; replace c10 := K1.out.at_ 0 _ rfl; replace c11 := K1.out.at_ 1 _ rfl; replace c12 := K1.out.at_ 2 _ rfl; replace c20 := K2.out.at_ 0 _ rfl; replace c21 := K2.out.at_ 1 _ rfl; replace c22 := K2.out.at_ 2 _ rfl; replace z20 := K2.out.free 0; replace z21 := K2.out.free 1; replace z22 := K2.out.free 2)
      | (go_at_call_of 58 (Value.string D); (with_reducible refine (M2.out _ (Near.base (by first | exact Near.same _ | exact Near.one _) B.out)).mono ?_); rintro e wx ⟨rfl, q⟩; replace K0 := Lib.hid (K0.out.near (by first | exact Near.same _ | exact Near.one _) q); replace K1 := Lib.hid (K1.out.near (by first | exact Near.same _ | exact Near.one _) q); replace K2 := Lib.hid (K2.out.near (by first | exact Near.same _ | exact Near.one _) q); replace B := Lib.hid (Near.go (by first | exact Near.same _ | exact Near.one _) B.out q B.out.size); clear q; replace c00 := K0.out.at_ 0 _ rfl; replace c01 := K0.out.at_ 1 _ rfl; replace c02 := K0.out.at_ 2 _ rfl; replace c10 := K1.out.at_ 0 _ rfl; replace c11 := K1.out.at_ 1 _ rfl; replace c12 := K1.out.at_ 2 _ rfl; replace c20 := K2.out.at_ 0 _ rfl; replace c21 := K2.out.at_ 1 _ rfl; replace c22 := K2.out.at_ 2 _ rfl; replace z20 := K2.out.free 0; replace z21 := K2.out.free 1; replace z22 := K2.out.free 2)
      | (go_at_call_of 58 (Value.string A); (with_reducible refine (M3.out _ (Near.base (by first | exact Near.same _ | exact Near.one _) B.out)).mono ?_); rintro e wx ⟨rfl, q⟩; replace K0 := Lib.hid (K0.out.near (by first | exact Near.same _ | exact Near.one _) q); replace K1 := Lib.hid (K1.out.near (by first | exact Near.same _ | exact Near.one _) q); replace K2 := Lib.hid (K2.out.near (by first | exact Near.same _ | exact Near.one _) q); replace B := Lib.hid (Near.go (by first | exact Near.same _ | exact Near.one _) B.out q B.out.size); clear q; replace c00 := K0.out.at_ 0 _ rfl; replace c01 := K0.out.at_ 1 _ rfl; replace c02 := K0.out.at_ 2 _ rfl; replace c10 := K1.out.at_ 0 _ rfl; replace c11 := K1.out.at_ 1 _ rfl; replace c12 := K1.out.at_ 2 _ rfl; replace c20 := K2.out.at_ 0 _ rfl; replace c21 := K2.out.at_ 1 _ rfl; replace c22 := K2.out.at_ 2 _ rfl; replace z20 := K2.out.free 0; replace z21 := K2.out.free 1; replace z22 := K2.out.free 2)
      | fail "arm")
  clear c00 c01 c02 c10 c11 c12 c20 c21 c22 z20 z21 z22
  have R3 := K2.out.set3 (.string Q1) (.string Q2) (.string Q3)
  have B3 := Lib.hid (B.out.trans (below_else3 wx w.heap.size (w.heap.size + 2) (by omega) (.string Q1) (.string Q2) (.string Q3)))
  generalize (((wx.setCell ⟨w.heap.size + 2, 0, none⟩ (.string Q1)).setCell ⟨w.heap.size + 2, 1, none⟩ (.string Q2)).setCell ⟨w.heap.size + 2, 2, none⟩ (.string Q3)) = W3 at *
  have e0 := R3.at_ 0 _ rfl
  have e1 := R3.at_ 1 _ rfl
  have e2 := R3.at_ 2 _ rfl
  clear R3
  clear K0 K1 K2 B
  go_wp2
  exact bodyPost_ret (v := .agg #[.string Q1, .string Q2, .string Q3]) (by simp [results, Tryz.results49, go_sem, e0, e1, e2]) rfl ⟨rfl, B3.out⟩

set_option maxRecDepth 100000 in
set_option maxHeartbeats 2000000 in
theorem lflat_of (A C D P Q R : ByteArray) (w : World)
    (m1 : ∀ W, Below w.heap.size w W → Calls Tryz.prog 34 #[.string A, .string A] W fun e w' => e = .returned (.string P) ∧ Below W.heap.size W w')
    (m2 : ∀ W, Below w.heap.size w W → Calls Tryz.prog 34 #[.string C, .string C] W fun e w' => e = .returned (.string Q) ∧ Below W.heap.size W w')
    (m3 : ∀ W, Below w.heap.size w W → Calls Tryz.prog 85 #[.string P, .string Q] W fun e w' => e = .returned (.string R) ∧ Below W.heap.size W w') :
    Calls Tryz.prog 61 #[.agg #[.string A, .string C, .string D]] w fun e w' => e = .returned (.string R) ∧ Below w.heap.size w w' := by
  have M1 := Lib.hid m1
  have M2 := Lib.hid m2
  have M3 := Lib.hid m3
  clear m1 m2 m3
  have k0 := Blk.fresh w #[.string A, .string C, .string D] 34
  have b0 : Below w.heap.size w (w.alloc (Obj.cells #[.string A, .string C, .string D] 34)) := ((Below.refl _ _).alloc (Nat.le_refl _) _)
  have K0 := Lib.hid k0
  have B := Lib.hid b0
  clear b0 k0
  go_enter Tryz.func61, Tryz.ntmps61
  go_upto_region 1 with (fail)
  generalize (w.alloc (Obj.cells #[.string A, .string C, .string D] 34)) = W0 at *
  have c00 := K0.out.at_ 0 _ rfl
  have c01 := K0.out.at_ 1 _ rfl
  have c02 := K0.out.at_ 2 _ rfl
  go_region_held3 (fun w' => w'.cell? ⟨w.heap.size, 0, none⟩ = some (.string A) ∧ w'.cell? ⟨w.heap.size, 1, none⟩ = some (.string C))
    (first | exact ⟨c00, c01⟩ | exact ⟨(K0.out.alloc _).at_ 0 _ rfl, (K0.out.alloc _).at_ 1 _ rfl⟩)
    (first
      | (go_at_call_of 34 (Value.string A); (with_reducible refine (M1.out _ (Near.base (by first | exact Near.same _ | exact Near.one _) B.out)).mono ?_); rintro e wx ⟨rfl, q⟩; replace K0 := Lib.hid (K0.out.near (by first | exact Near.same _ | exact Near.one _) q); replace B := Lib.hid (Near.go (by first | exact Near.same _ | exact Near.one _) B.out q B.out.size); clear q; replace c00 := K0.out.at_ 0 _ rfl; replace c01 := K0.out.at_ 1 _ rfl; replace c02 := K0.out.at_ 2 _ rfl)
      | (go_at_call_of 34 (Value.string C); (with_reducible refine (M2.out _ (Near.base (by first | exact Near.same _ | exact Near.one _) B.out)).mono ?_); rintro e wx ⟨rfl, q⟩; replace K0 := Lib.hid (K0.out.near (by first | exact Near.same _ | exact Near.one _) q); replace B := Lib.hid (Near.go (by first | exact Near.same _ | exact Near.one _) B.out q B.out.size); clear q; replace c00 := K0.out.at_ 0 _ rfl; replace c01 := K0.out.at_ 1 _ rfl; replace c02 := K0.out.at_ 2 _ rfl)
      | (go_at_call 85; (with_reducible refine (M3.out _ (Near.base (by first | exact Near.same _ | exact Near.one _) B.out)).mono ?_); rintro e wx ⟨rfl, q⟩; replace K0 := Lib.hid (K0.out.near (by first | exact Near.same _ | exact Near.one _) q); replace B := Lib.hid (Near.go (by first | exact Near.same _ | exact Near.one _) B.out q B.out.size); clear q; replace c00 := K0.out.at_ 0 _ rfl; replace c01 := K0.out.at_ 1 _ rfl; replace c02 := K0.out.at_ 2 _ rfl)
      | fail "arm")
  go_wp2
  go_ret
  exact ⟨rfl, B.out⟩

set_option maxRecDepth 100000 in
set_option maxHeartbeats 2000000 in
theorem langle_of (A C D F G H D1 D2 S1 S2 S3 R : ByteArray) (w : World)
    (m1 : ∀ W, Below w.heap.size w W → Calls Tryz.prog 44 #[.agg #[.string A, .string C, .string D], .agg #[.string F, .string G, .string H]] W fun e w' => e = .returned (.string D1) ∧ Below W.heap.size W w')
    (m2 : ∀ W, Below w.heap.size w W → Calls Tryz.prog 34 #[.string D1, .string D1] W fun e w' => e = .returned (.string D2) ∧ Below W.heap.size W w')
    (m3 : ∀ W, Below w.heap.size w W → Calls Tryz.prog 44 #[.agg #[.string A, .string C, .string D], .agg #[.string A, .string C, .string D]] W fun e w' => e = .returned (.string S1) ∧ Below W.heap.size W w')
    (m4 : ∀ W, Below w.heap.size w W → Calls Tryz.prog 44 #[.agg #[.string F, .string G, .string H], .agg #[.string F, .string G, .string H]] W fun e w' => e = .returned (.string S2) ∧ Below W.heap.size W w')
    (m5 : ∀ W, Below w.heap.size w W → Calls Tryz.prog 34 #[.string S1, .string S2] W fun e w' => e = .returned (.string S3) ∧ Below W.heap.size W w')
    (m6 : ∀ W, Below w.heap.size w W → Calls Tryz.prog 62 #[.string D2, .string S3] W fun e w' => e = .returned (.tuple #[.string R, .int .i64 0]) ∧ Below W.heap.size W w') :
    Calls Tryz.prog 42 #[.agg #[.string A, .string C, .string D], .agg #[.string F, .string G, .string H]] w fun e w' => e = .returned (.string R) ∧ Below w.heap.size w w' := by
  have M1 := Lib.hid m1
  have M2 := Lib.hid m2
  have M3 := Lib.hid m3
  have M4 := Lib.hid m4
  have M5 := Lib.hid m5
  have M6 := Lib.hid m6
  clear m1 m2 m3 m4 m5 m6
  have k0 := Blk.fresh w #[.string A, .string C, .string D] 34
  replace k0 := k0.alloc (Obj.cells #[.string F, .string G, .string H] 34)
  have k1 := Blk.fresh (w.alloc (Obj.cells #[.string A, .string C, .string D] 34)) #[.string F, .string G, .string H] 34
  rw [show (w.alloc (Obj.cells #[.string A, .string C, .string D] 34)).heap.size = w.heap.size + 1 from World.size_alloc ..] at k1
  have b0 : Below w.heap.size w ((w.alloc (Obj.cells #[.string A, .string C, .string D] 34)).alloc (Obj.cells #[.string F, .string G, .string H] 34)) := (((Below.refl _ _).alloc (Nat.le_refl _) _).alloc (by simp; try omega) _)
  have K0 := Lib.hid k0
  have K1 := Lib.hid k1
  have B := Lib.hid b0
  clear b0 k0 k1
  go_enter Tryz.func42, Tryz.ntmps42
  go_upto_region 1 with (fail)
  generalize ((w.alloc (Obj.cells #[.string A, .string C, .string D] 34)).alloc (Obj.cells #[.string F, .string G, .string H] 34)) = W0 at *
  have c00 := K0.out.at_ 0 _ rfl
  have c01 := K0.out.at_ 1 _ rfl
  have c02 := K0.out.at_ 2 _ rfl
  have c10 := K1.out.at_ 0 _ rfl
  have c11 := K1.out.at_ 1 _ rfl
  have c12 := K1.out.at_ 2 _ rfl
  go_upto_region 2 with (first
    | (go_at_call 44; (with_reducible refine (M1.out _ (Near.base (by first | exact Near.same _ | exact Near.one _) B.out)).mono ?_); rintro e wx ⟨rfl, q⟩; replace K0 := Lib.hid (K0.out.near (by first | exact Near.same _ | exact Near.one _) q); replace K1 := Lib.hid (K1.out.near (by first | exact Near.same _ | exact Near.one _) q); replace B := Lib.hid (Near.go (by first | exact Near.same _ | exact Near.one _) B.out q B.out.size); clear q; replace c00 := K0.out.at_ 0 _ rfl; replace c01 := K0.out.at_ 1 _ rfl; replace c02 := K0.out.at_ 2 _ rfl; replace c10 := K1.out.at_ 0 _ rfl; replace c11 := K1.out.at_ 1 _ rfl; replace c12 := K1.out.at_ 2 _ rfl)
    | fail "arm")
  go_region_held3 (fun w' => w'.cell? ⟨w.heap.size, 0, none⟩ = some (.string A) ∧ w'.cell? ⟨w.heap.size, 1, none⟩ = some (.string C) ∧ w'.cell? ⟨w.heap.size, 2, none⟩ = some (.string D) ∧ w'.cell? ⟨w.heap.size + 1, 0, none⟩ = some (.string F) ∧ w'.cell? ⟨w.heap.size + 1, 1, none⟩ = some (.string G) ∧ w'.cell? ⟨w.heap.size + 1, 2, none⟩ = some (.string H))
    (first | exact ⟨c00, c01, c02, c10, c11, c12⟩ | exact ⟨(K0.out.alloc _).at_ 0 _ rfl, (K0.out.alloc _).at_ 1 _ rfl, (K0.out.alloc _).at_ 2 _ rfl, (K1.out.alloc _).at_ 0 _ rfl, (K1.out.alloc _).at_ 1 _ rfl, (K1.out.alloc _).at_ 2 _ rfl⟩)
    (first
      | (go_at_call 34; (with_reducible refine (M2.out _ (Near.base (by first | exact Near.same _ | exact Near.one _) B.out)).mono ?_); rintro e wx ⟨rfl, q⟩; replace K0 := Lib.hid (K0.out.near (by first | exact Near.same _ | exact Near.one _) q); replace K1 := Lib.hid (K1.out.near (by first | exact Near.same _ | exact Near.one _) q); replace B := Lib.hid (Near.go (by first | exact Near.same _ | exact Near.one _) B.out q B.out.size); clear q; replace c00 := K0.out.at_ 0 _ rfl; replace c01 := K0.out.at_ 1 _ rfl; replace c02 := K0.out.at_ 2 _ rfl; replace c10 := K1.out.at_ 0 _ rfl; replace c11 := K1.out.at_ 1 _ rfl; replace c12 := K1.out.at_ 2 _ rfl)
      | (go_at_call 44; (with_reducible refine (M3.out _ (Near.base (by first | exact Near.same _ | exact Near.one _) B.out)).mono ?_); rintro e wx ⟨rfl, q⟩; replace K0 := Lib.hid (K0.out.near (by first | exact Near.same _ | exact Near.one _) q); replace K1 := Lib.hid (K1.out.near (by first | exact Near.same _ | exact Near.one _) q); replace B := Lib.hid (Near.go (by first | exact Near.same _ | exact Near.one _) B.out q B.out.size); clear q; replace c00 := K0.out.at_ 0 _ rfl; replace c01 := K0.out.at_ 1 _ rfl; replace c02 := K0.out.at_ 2 _ rfl; replace c10 := K1.out.at_ 0 _ rfl; replace c11 := K1.out.at_ 1 _ rfl; replace c12 := K1.out.at_ 2 _ rfl)
      | (go_at_call 44; (with_reducible refine (M4.out _ (Near.base (by first | exact Near.same _ | exact Near.one _) B.out)).mono ?_); rintro e wx ⟨rfl, q⟩; replace K0 := Lib.hid (K0.out.near (by first | exact Near.same _ | exact Near.one _) q); replace K1 := Lib.hid (K1.out.near (by first | exact Near.same _ | exact Near.one _) q); replace B := Lib.hid (Near.go (by first | exact Near.same _ | exact Near.one _) B.out q B.out.size); clear q; replace c00 := K0.out.at_ 0 _ rfl; replace c01 := K0.out.at_ 1 _ rfl; replace c02 := K0.out.at_ 2 _ rfl; replace c10 := K1.out.at_ 0 _ rfl; replace c11 := K1.out.at_ 1 _ rfl; replace c12 := K1.out.at_ 2 _ rfl)
      | (go_at_call 34; (with_reducible refine (M5.out _ (Near.base (by first | exact Near.same _ | exact Near.one _) B.out)).mono ?_); rintro e wx ⟨rfl, q⟩; replace K0 := Lib.hid (K0.out.near (by first | exact Near.same _ | exact Near.one _) q); replace K1 := Lib.hid (K1.out.near (by first | exact Near.same _ | exact Near.one _) q); replace B := Lib.hid (Near.go (by first | exact Near.same _ | exact Near.one _) B.out q B.out.size); clear q; replace c00 := K0.out.at_ 0 _ rfl; replace c01 := K0.out.at_ 1 _ rfl; replace c02 := K0.out.at_ 2 _ rfl; replace c10 := K1.out.at_ 0 _ rfl; replace c11 := K1.out.at_ 1 _ rfl; replace c12 := K1.out.at_ 2 _ rfl)
      | (go_at_call 62; (with_reducible refine (M6.out _ (Near.base (by first | exact Near.same _ | exact Near.one _) B.out)).mono ?_); rintro e wx ⟨rfl, q⟩; replace K0 := Lib.hid (K0.out.near (by first | exact Near.same _ | exact Near.one _) q); replace K1 := Lib.hid (K1.out.near (by first | exact Near.same _ | exact Near.one _) q); replace B := Lib.hid (Near.go (by first | exact Near.same _ | exact Near.one _) B.out q B.out.size); clear q; replace c00 := K0.out.at_ 0 _ rfl; replace c01 := K0.out.at_ 1 _ rfl; replace c02 := K0.out.at_ 2 _ rfl; replace c10 := K1.out.at_ 0 _ rfl; replace c11 := K1.out.at_ 1 _ rfl; replace c12 := K1.out.at_ 2 _ rfl)
      | fail "arm")
  go_wp2
  go_ret
  exact ⟨rfl, B.out⟩

end Go.Proofs.YtajkeoapfkkjbaaGreatDoor

/- The walks of lineation's checks, signs and bearings, over texts. -/
namespace Go.Proofs.YtajkeoapfkkjbaaGreatDoor
open Go.RowKit

/-- The first error of two. -/
def err2 (a b : Int) : Int := if a = 0 then b else a

set_option maxRecDepth 100000 in
set_option maxHeartbeats 4000000 in
theorem vnumbers_of (X Y Z : ByteArray) (kx ky kz : Int) (w : World)
    (m1 : ∀ W, Below w.heap.size w W → Calls Tryz.prog 63 #[.string X] W fun e w' => e = .returned (.int .i64 kx) ∧ Below W.heap.size W w')
    (m2 : ∀ W, Below w.heap.size w W → Calls Tryz.prog 63 #[.string Y] W fun e w' => e = .returned (.int .i64 ky) ∧ Below W.heap.size W w')
    (m3 : ∀ W, Below w.heap.size w W → Calls Tryz.prog 63 #[.string Z] W fun e w' => e = .returned (.int .i64 kz) ∧ Below W.heap.size W w') :
    Calls Tryz.prog 87 #[.slice (some ⟨w.heap.size, 0, none⟩) 3 3] (w.alloc (.cells #[.string X, .string Y, .string Z] 32)) fun e w' => e = .returned (.int .i64 (err2 kx (err2 ky kz))) ∧ Below w.heap.size w w' := by
  have k0 := Blk.fresh w #[.string X, .string Y, .string Z] 32
  have b0 := below_new w (Obj.cells #[.string X, .string Y, .string Z] 32)
  generalize w.alloc (Obj.cells #[.string X, .string Y, .string Z] 32) = W0 at *
  have M1 := Lib.hid m1
  have M2 := Lib.hid m2
  have M3 := Lib.hid m3
  have K0 := Lib.hid k0
  have B0 := Lib.hid b0
  generalize hbk : w.heap.size = bk at *
  clear m1 m2 m3 k0 b0
  clear hbk
  go_enter Tryz.func87, Tryz.ntmps87
  go_wp2
  go_loopw [4, 5, 8] (fun _ _ i wr => (i = .int .i64 0 ∨ (i = .int .i64 1 ∧ kx = 0) ∨ (i = .int .i64 2 ∧ kx = 0 ∧ ky = 0) ∨ (i = .int .i64 3 ∧ kx = 0 ∧ ky = 0 ∧ kz = 0)) ∧ Below bk w wr ∧ Blk wr bk #[.string X, .string Y, .string Z] 32) (fun _ _ i _ => 3 - (intOf i).toNat)
  case atStart => exact ⟨.inl rfl, B0.out, K0.out⟩
  case round =>
    obtain ⟨hcase, hb1, hk1⟩ := hrel
    have B := Lib.hid hb1
    have K := Lib.hid hk1
    have hlt : bk < wr.heap.size := hk1.lt
    have c0 := hk1.at_ 0 _ rfl
    have c1 := hk1.at_ 1 _ rfl
    have c2 := hk1.at_ 2 _ rfl
    clear hb1 hk1
    rcases hcase with rfl | ⟨rfl, h1⟩ | ⟨rfl, h1, h2⟩ | ⟨rfl, h1, h2, h3⟩
    · by_cases hz : kx = 0
      · have t : (kx != 0) = false := by rw [hz]; rfl
        have HZ := Lib.hid hz
        clear hz
        go_wp2_with (first
          | (go_at_call 63; (with_reducible refine (M1.out _ B.out).mono ?_); rintro e wx ⟨rfl, q⟩; have B3 := Lib.hid q; clear q)
          | fail "arm")
        go_roundw
        case rel => exact ⟨.inr (.inl ⟨rfl, HZ.out⟩), B.out.trans (B3.out.mono (Nat.le_of_lt hlt)), K.out.below B3.out⟩
        case measure => simp [intOf]
      · have t : (kx != 0) = true := by rw [bne_iff_ne]; exact hz
        have HE := Lib.hid (show err2 kx (err2 ky kz) = kx by unfold err2; rw [if_neg hz])
        clear hz
        go_wp2_with (first
          | (go_at_call 63; (with_reducible refine (M1.out _ B.out).mono ?_); rintro e wx ⟨rfl, q⟩; have B3 := Lib.hid q; clear q)
          | fail "arm")
        go_ret
        rw [HE.out]
        exact ⟨rfl, B.out.trans (B3.out.mono (Nat.le_of_lt hlt))⟩
    · have H1 := Lib.hid h1
      clear h1
      by_cases hz : ky = 0
      · have t : (ky != 0) = false := by rw [hz]; rfl
        have HZ := Lib.hid hz
        clear hz
        go_wp2_with (first
          | (go_at_call 63; (with_reducible refine (M2.out _ B.out).mono ?_); rintro e wx ⟨rfl, q⟩; have B3 := Lib.hid q; clear q)
          | fail "arm")
        go_roundw
        case rel => exact ⟨.inr (.inr (.inl ⟨rfl, H1.out, HZ.out⟩)), B.out.trans (B3.out.mono (Nat.le_of_lt hlt)), K.out.below B3.out⟩
        case measure => simp [intOf]
      · have t : (ky != 0) = true := by rw [bne_iff_ne]; exact hz
        have HE := Lib.hid (show err2 kx (err2 ky kz) = ky by unfold err2; rw [if_pos H1.out, if_neg hz])
        clear hz
        go_wp2_with (first
          | (go_at_call 63; (with_reducible refine (M2.out _ B.out).mono ?_); rintro e wx ⟨rfl, q⟩; have B3 := Lib.hid q; clear q)
          | fail "arm")
        go_ret
        rw [HE.out]
        exact ⟨rfl, B.out.trans (B3.out.mono (Nat.le_of_lt hlt))⟩
    · have H1 := Lib.hid h1
      have H2 := Lib.hid h2
      clear h1 h2
      by_cases hz : kz = 0
      · have t : (kz != 0) = false := by rw [hz]; rfl
        have HZ := Lib.hid hz
        clear hz
        go_wp2_with (first
          | (go_at_call 63; (with_reducible refine (M3.out _ B.out).mono ?_); rintro e wx ⟨rfl, q⟩; have B3 := Lib.hid q; clear q)
          | fail "arm")
        go_roundw
        case rel => exact ⟨.inr (.inr (.inr ⟨rfl, H1.out, H2.out, HZ.out⟩)), B.out.trans (B3.out.mono (Nat.le_of_lt hlt)), K.out.below B3.out⟩
        case measure => simp [intOf]
      · have t : (kz != 0) = true := by rw [bne_iff_ne]; exact hz
        have HE := Lib.hid (show err2 kx (err2 ky kz) = kz by unfold err2; rw [if_pos H1.out, if_pos H2.out])
        clear hz
        go_wp2_with (first
          | (go_at_call 63; (with_reducible refine (M3.out _ B.out).mono ?_); rintro e wx ⟨rfl, q⟩; have B3 := Lib.hid q; clear q)
          | fail "arm")
        go_ret
        rw [HE.out]
        exact ⟨rfl, B.out.trans (B3.out.mono (Nat.le_of_lt hlt))⟩
    · have HE := Lib.hid (show err2 kx (err2 ky kz) = 0 by unfold err2; rw [if_pos h1, if_pos h2]; exact h3)
      clear h1 h2 h3
      go_wp2
      go_ret
      rw [HE.out]
      exact ⟨rfl, B.out⟩

set_option maxRecDepth 100000 in
set_option maxHeartbeats 2000000 in
theorem vcheck_of (X Y Z : ByteArray) (k : Int) (w : World)
    (s1 : ∀ W, Below w.heap.size w W → Calls Tryz.prog 87 #[.slice (some ⟨W.heap.size, 0, none⟩) 3 3] (W.alloc (.cells #[.string X, .string Y, .string Z] 32)) fun e w' => e = .returned (.int .i64 k) ∧ Below W.heap.size W w') :
    Calls Tryz.prog 64 #[.agg #[.string X, .string Y, .string Z]] w fun e w' => e = .returned (.int .i64 k) ∧ Below w.heap.size w w' := by
  have S1 := Lib.hid s1
  clear s1
  have k0 := Blk.fresh w #[.string X, .string Y, .string Z] 34
  have b0 : Below w.heap.size w (w.alloc (Obj.cells #[.string X, .string Y, .string Z] 34)) := ((Below.refl _ _).alloc (Nat.le_refl _) _)
  have K0 := Lib.hid k0
  have B := Lib.hid b0
  clear b0 k0
  go_enter Tryz.func64, Tryz.ntmps64
  go_upto_region 1 with (fail)
  generalize (w.alloc (Obj.cells #[.string X, .string Y, .string Z] 34)) = W0 at *
  have c00 := K0.out.at_ 0 _ rfl
  have c01 := K0.out.at_ 1 _ rfl
  have c02 := K0.out.at_ 2 _ rfl
  go_wp2_with (first
    | (go_at_call 87; (with_reducible refine (S1.out _ (Near.base (by first | exact Near.same _ | exact Near.one _) B.out)).mono ?_); rintro e wx ⟨rfl, q⟩; replace K0 := Lib.hid (K0.out.near (by first | exact Near.same _ | exact Near.one _) q); replace B := Lib.hid (Near.go (by first | exact Near.same _ | exact Near.one _) B.out q B.out.size); clear q; replace c00 := K0.out.at_ 0 _ rfl; replace c01 := K0.out.at_ 1 _ rfl; replace c02 := K0.out.at_ 2 _ rfl)
    | fail "arm")
  go_ret
  exact ⟨rfl, B.out⟩

theorem zero_eq (S : ByteArray) (b : Bool) (h : (S.toList == [48]) = b) : (S.toList == [48]) = b ∧ (S.toList != [48]) = !b := ⟨h, by rw [bne, h]⟩

set_option maxRecDepth 100000 in
set_option maxHeartbeats 4000000 in
theorem lzero_of (X Y Z : ByteArray) (ex ey ez : Bool) (w : World) (hx : (X.toList == [48]) = ex) (hy : (Y.toList == [48]) = ey) (hz : (Z.toList == [48]) = ez) :
    Calls Tryz.prog 48 #[.agg #[.string X, .string Y, .string Z]] w fun e w' => e = .returned (.bool (ex && (ey && ez))) ∧ Below w.heap.size w w' := by
  obtain ⟨x1, x2⟩ := zero_eq X ex hx
  obtain ⟨y1, y2⟩ := zero_eq Y ey hy
  obtain ⟨z1, z2⟩ := zero_eq Z ez hz
  clear hx hy hz
  have k0 := Blk.fresh w #[.string X, .string Y, .string Z] 34
  have b0 : Below w.heap.size w (w.alloc (Obj.cells #[.string X, .string Y, .string Z] 34)) := ((Below.refl _ _).alloc (Nat.le_refl _) _)
  have K0 := Lib.hid k0
  have B := Lib.hid b0
  clear b0 k0
  cases ex <;> cases ey <;> cases ez
  all_goals
    go_enter Tryz.func48, Tryz.ntmps48
    go_upto_region 1 with (fail)
    generalize (w.alloc (Obj.cells #[.string X, .string Y, .string Z] 34)) = W0 at *
    have c00 := K0.out.at_ 0 _ rfl
    have c01 := K0.out.at_ 1 _ rfl
    have c02 := K0.out.at_ 2 _ rfl
    go_wp2
    go_ret
    exact ⟨rfl, B.out⟩

set_option maxRecDepth 100000 in
set_option maxHeartbeats 2000000 in
theorem lcheck_bad (X Y Z : ByteArray) (k : Int) (w : World)
    (hk : (k != 0) = true)
    (s1 : ∀ W, Below w.heap.size w W → Calls Tryz.prog 64 #[.agg #[.string X, .string Y, .string Z]] W fun e w' => e = .returned (.int .i64 k) ∧ Below W.heap.size W w') :
    Calls Tryz.prog 39 #[.agg #[.string X, .string Y, .string Z]] w fun e w' => e = .returned (.int .i64 k) ∧ Below w.heap.size w w' := by
  have S1 := Lib.hid s1
  clear s1
  have k0 := Blk.fresh w #[.string X, .string Y, .string Z] 34
  have b0 : Below w.heap.size w (w.alloc (Obj.cells #[.string X, .string Y, .string Z] 34)) := ((Below.refl _ _).alloc (Nat.le_refl _) _)
  have K0 := Lib.hid k0
  have B := Lib.hid b0
  clear b0 k0
  go_enter Tryz.func39, Tryz.ntmps39
  go_upto_region 1 with (fail)
  generalize (w.alloc (Obj.cells #[.string X, .string Y, .string Z] 34)) = W0 at *
  have c00 := K0.out.at_ 0 _ rfl
  have c01 := K0.out.at_ 1 _ rfl
  have c02 := K0.out.at_ 2 _ rfl
  go_wp2_with (first
    | (go_at_call 64; (with_reducible refine (S1.out _ (Near.base (by first | exact Near.same _ | exact Near.one _) B.out)).mono ?_); rintro e wx ⟨rfl, q⟩; replace K0 := Lib.hid (K0.out.near (by first | exact Near.same _ | exact Near.one _) q); replace B := Lib.hid (Near.go (by first | exact Near.same _ | exact Near.one _) B.out q B.out.size); clear q; replace c00 := K0.out.at_ 0 _ rfl; replace c01 := K0.out.at_ 1 _ rfl; replace c02 := K0.out.at_ 2 _ rfl)
    | fail "arm")
  go_ret
  exact ⟨rfl, B.out⟩

set_option maxRecDepth 100000 in
set_option maxHeartbeats 2000000 in
theorem lcheck_zero (X Y Z : ByteArray) (w : World)
    (s1 : ∀ W, Below w.heap.size w W → Calls Tryz.prog 64 #[.agg #[.string X, .string Y, .string Z]] W fun e w' => e = .returned (.int .i64 0) ∧ Below W.heap.size W w')
    (s2 : ∀ W, Below w.heap.size w W → Calls Tryz.prog 48 #[.agg #[.string X, .string Y, .string Z]] W fun e w' => e = .returned (.bool true) ∧ Below W.heap.size W w') :
    Calls Tryz.prog 39 #[.agg #[.string X, .string Y, .string Z]] w fun e w' => e = .returned (.int .i64 17) ∧ Below w.heap.size w w' := by
  have S1 := Lib.hid s1
  have S2 := Lib.hid s2
  clear s1 s2
  have k0 := Blk.fresh w #[.string X, .string Y, .string Z] 34
  have b0 : Below w.heap.size w (w.alloc (Obj.cells #[.string X, .string Y, .string Z] 34)) := ((Below.refl _ _).alloc (Nat.le_refl _) _)
  have K0 := Lib.hid k0
  have B := Lib.hid b0
  clear b0 k0
  go_enter Tryz.func39, Tryz.ntmps39
  go_upto_region 1 with (fail)
  generalize (w.alloc (Obj.cells #[.string X, .string Y, .string Z] 34)) = W0 at *
  have c00 := K0.out.at_ 0 _ rfl
  have c01 := K0.out.at_ 1 _ rfl
  have c02 := K0.out.at_ 2 _ rfl
  go_wp2_with (first
    | (go_at_call 64; (with_reducible refine (S1.out _ (Near.base (by first | exact Near.same _ | exact Near.one _) B.out)).mono ?_); rintro e wx ⟨rfl, q⟩; replace K0 := Lib.hid (K0.out.near (by first | exact Near.same _ | exact Near.one _) q); replace B := Lib.hid (Near.go (by first | exact Near.same _ | exact Near.one _) B.out q B.out.size); clear q; replace c00 := K0.out.at_ 0 _ rfl; replace c01 := K0.out.at_ 1 _ rfl; replace c02 := K0.out.at_ 2 _ rfl)
    | (go_at_call 48; (with_reducible refine (S2.out _ (Near.base (by first | exact Near.same _ | exact Near.one _) B.out)).mono ?_); rintro e wx ⟨rfl, q⟩; replace K0 := Lib.hid (K0.out.near (by first | exact Near.same _ | exact Near.one _) q); replace B := Lib.hid (Near.go (by first | exact Near.same _ | exact Near.one _) B.out q B.out.size); clear q; replace c00 := K0.out.at_ 0 _ rfl; replace c01 := K0.out.at_ 1 _ rfl; replace c02 := K0.out.at_ 2 _ rfl)
    | fail "arm")
  go_ret
  exact ⟨rfl, B.out⟩

set_option maxRecDepth 100000 in
set_option maxHeartbeats 2000000 in
theorem lcheck_ok (X Y Z : ByteArray) (w : World)
    (s1 : ∀ W, Below w.heap.size w W → Calls Tryz.prog 64 #[.agg #[.string X, .string Y, .string Z]] W fun e w' => e = .returned (.int .i64 0) ∧ Below W.heap.size W w')
    (s2 : ∀ W, Below w.heap.size w W → Calls Tryz.prog 48 #[.agg #[.string X, .string Y, .string Z]] W fun e w' => e = .returned (.bool false) ∧ Below W.heap.size W w') :
    Calls Tryz.prog 39 #[.agg #[.string X, .string Y, .string Z]] w fun e w' => e = .returned (.int .i64 0) ∧ Below w.heap.size w w' := by
  have S1 := Lib.hid s1
  have S2 := Lib.hid s2
  clear s1 s2
  have k0 := Blk.fresh w #[.string X, .string Y, .string Z] 34
  have b0 : Below w.heap.size w (w.alloc (Obj.cells #[.string X, .string Y, .string Z] 34)) := ((Below.refl _ _).alloc (Nat.le_refl _) _)
  have K0 := Lib.hid k0
  have B := Lib.hid b0
  clear b0 k0
  go_enter Tryz.func39, Tryz.ntmps39
  go_upto_region 1 with (fail)
  generalize (w.alloc (Obj.cells #[.string X, .string Y, .string Z] 34)) = W0 at *
  have c00 := K0.out.at_ 0 _ rfl
  have c01 := K0.out.at_ 1 _ rfl
  have c02 := K0.out.at_ 2 _ rfl
  go_wp2_with (first
    | (go_at_call 64; (with_reducible refine (S1.out _ (Near.base (by first | exact Near.same _ | exact Near.one _) B.out)).mono ?_); rintro e wx ⟨rfl, q⟩; replace K0 := Lib.hid (K0.out.near (by first | exact Near.same _ | exact Near.one _) q); replace B := Lib.hid (Near.go (by first | exact Near.same _ | exact Near.one _) B.out q B.out.size); clear q; replace c00 := K0.out.at_ 0 _ rfl; replace c01 := K0.out.at_ 1 _ rfl; replace c02 := K0.out.at_ 2 _ rfl)
    | (go_at_call 48; (with_reducible refine (S2.out _ (Near.base (by first | exact Near.same _ | exact Near.one _) B.out)).mono ?_); rintro e wx ⟨rfl, q⟩; replace K0 := Lib.hid (K0.out.near (by first | exact Near.same _ | exact Near.one _) q); replace B := Lib.hid (Near.go (by first | exact Near.same _ | exact Near.one _) B.out q B.out.size); clear q; replace c00 := K0.out.at_ 0 _ rfl; replace c01 := K0.out.at_ 1 _ rfl; replace c02 := K0.out.at_ 2 _ rfl)
    | fail "arm")
  go_ret
  exact ⟨rfl, B.out⟩

set_option maxRecDepth 100000 in
set_option maxHeartbeats 2000000 in
theorem lboth_bad (A C D F G H : ByteArray) (k : Int) (w : World)
    (hk : (k != 0) = true)
    (s1 : ∀ W, Below w.heap.size w W → Calls Tryz.prog 39 #[.agg #[.string A, .string C, .string D]] W fun e w' => e = .returned (.int .i64 k) ∧ Below W.heap.size W w') :
    Calls Tryz.prog 41 #[.agg #[.string A, .string C, .string D], .agg #[.string F, .string G, .string H]] w fun e w' => e = .returned (.int .i64 k) ∧ Below w.heap.size w w' := by
  have S1 := Lib.hid s1
  clear s1
  have k0 := Blk.fresh w #[.string A, .string C, .string D] 34
  replace k0 := k0.alloc (Obj.cells #[.string F, .string G, .string H] 34)
  have k1 := Blk.fresh (w.alloc (Obj.cells #[.string A, .string C, .string D] 34)) #[.string F, .string G, .string H] 34
  rw [show (w.alloc (Obj.cells #[.string A, .string C, .string D] 34)).heap.size = w.heap.size + 1 from World.size_alloc ..] at k1
  have b0 : Below w.heap.size w ((w.alloc (Obj.cells #[.string A, .string C, .string D] 34)).alloc (Obj.cells #[.string F, .string G, .string H] 34)) := (((Below.refl _ _).alloc (Nat.le_refl _) _).alloc (by simp; try omega) _)
  have K0 := Lib.hid k0
  have K1 := Lib.hid k1
  have B := Lib.hid b0
  clear b0 k0 k1
  go_enter Tryz.func41, Tryz.ntmps41
  go_upto_region 1 with (fail)
  generalize ((w.alloc (Obj.cells #[.string A, .string C, .string D] 34)).alloc (Obj.cells #[.string F, .string G, .string H] 34)) = W0 at *
  have c00 := K0.out.at_ 0 _ rfl
  have c01 := K0.out.at_ 1 _ rfl
  have c02 := K0.out.at_ 2 _ rfl
  have c10 := K1.out.at_ 0 _ rfl
  have c11 := K1.out.at_ 1 _ rfl
  have c12 := K1.out.at_ 2 _ rfl
  go_wp2_with (first
    | (go_at_call 39; (with_reducible refine (S1.out _ (Near.base (by first | exact Near.same _ | exact Near.one _) B.out)).mono ?_); rintro e wx ⟨rfl, q⟩; replace K0 := Lib.hid (K0.out.near (by first | exact Near.same _ | exact Near.one _) q); replace K1 := Lib.hid (K1.out.near (by first | exact Near.same _ | exact Near.one _) q); replace B := Lib.hid (Near.go (by first | exact Near.same _ | exact Near.one _) B.out q B.out.size); clear q; replace c00 := K0.out.at_ 0 _ rfl; replace c01 := K0.out.at_ 1 _ rfl; replace c02 := K0.out.at_ 2 _ rfl; replace c10 := K1.out.at_ 0 _ rfl; replace c11 := K1.out.at_ 1 _ rfl; replace c12 := K1.out.at_ 2 _ rfl)
    | fail "arm")
  go_ret
  exact ⟨rfl, B.out⟩

set_option maxRecDepth 100000 in
set_option maxHeartbeats 2000000 in
theorem lboth_next (A C D F G H : ByteArray) (k : Int) (w : World)
    (s1 : ∀ W, Below w.heap.size w W → Calls Tryz.prog 39 #[.agg #[.string A, .string C, .string D]] W fun e w' => e = .returned (.int .i64 0) ∧ Below W.heap.size W w')
    (s2 : ∀ W, Below w.heap.size w W → Calls Tryz.prog 39 #[.agg #[.string F, .string G, .string H]] W fun e w' => e = .returned (.int .i64 k) ∧ Below W.heap.size W w') :
    Calls Tryz.prog 41 #[.agg #[.string A, .string C, .string D], .agg #[.string F, .string G, .string H]] w fun e w' => e = .returned (.int .i64 k) ∧ Below w.heap.size w w' := by
  have S1 := Lib.hid s1
  have S2 := Lib.hid s2
  clear s1 s2
  have k0 := Blk.fresh w #[.string A, .string C, .string D] 34
  replace k0 := k0.alloc (Obj.cells #[.string F, .string G, .string H] 34)
  have k1 := Blk.fresh (w.alloc (Obj.cells #[.string A, .string C, .string D] 34)) #[.string F, .string G, .string H] 34
  rw [show (w.alloc (Obj.cells #[.string A, .string C, .string D] 34)).heap.size = w.heap.size + 1 from World.size_alloc ..] at k1
  have b0 : Below w.heap.size w ((w.alloc (Obj.cells #[.string A, .string C, .string D] 34)).alloc (Obj.cells #[.string F, .string G, .string H] 34)) := (((Below.refl _ _).alloc (Nat.le_refl _) _).alloc (by simp; try omega) _)
  have K0 := Lib.hid k0
  have K1 := Lib.hid k1
  have B := Lib.hid b0
  clear b0 k0 k1
  go_enter Tryz.func41, Tryz.ntmps41
  go_upto_region 1 with (fail)
  generalize ((w.alloc (Obj.cells #[.string A, .string C, .string D] 34)).alloc (Obj.cells #[.string F, .string G, .string H] 34)) = W0 at *
  have c00 := K0.out.at_ 0 _ rfl
  have c01 := K0.out.at_ 1 _ rfl
  have c02 := K0.out.at_ 2 _ rfl
  have c10 := K1.out.at_ 0 _ rfl
  have c11 := K1.out.at_ 1 _ rfl
  have c12 := K1.out.at_ 2 _ rfl
  go_wp2_with (first
    | (go_at_call_of 39 (Value.agg #[Value.string A, Value.string C, Value.string D]); (with_reducible refine (S1.out _ (Near.base (by first | exact Near.same _ | exact Near.one _) B.out)).mono ?_); rintro e wx ⟨rfl, q⟩; replace K0 := Lib.hid (K0.out.near (by first | exact Near.same _ | exact Near.one _) q); replace K1 := Lib.hid (K1.out.near (by first | exact Near.same _ | exact Near.one _) q); replace B := Lib.hid (Near.go (by first | exact Near.same _ | exact Near.one _) B.out q B.out.size); clear q; replace c00 := K0.out.at_ 0 _ rfl; replace c01 := K0.out.at_ 1 _ rfl; replace c02 := K0.out.at_ 2 _ rfl; replace c10 := K1.out.at_ 0 _ rfl; replace c11 := K1.out.at_ 1 _ rfl; replace c12 := K1.out.at_ 2 _ rfl)
    | (go_at_call 39; (with_reducible refine (S2.out _ (Near.base (by first | exact Near.same _ | exact Near.one _) B.out)).mono ?_); rintro e wx ⟨rfl, q⟩; replace K0 := Lib.hid (K0.out.near (by first | exact Near.same _ | exact Near.one _) q); replace K1 := Lib.hid (K1.out.near (by first | exact Near.same _ | exact Near.one _) q); replace B := Lib.hid (Near.go (by first | exact Near.same _ | exact Near.one _) B.out q B.out.size); clear q; replace c00 := K0.out.at_ 0 _ rfl; replace c01 := K0.out.at_ 1 _ rfl; replace c02 := K0.out.at_ 2 _ rfl; replace c10 := K1.out.at_ 0 _ rfl; replace c11 := K1.out.at_ 1 _ rfl; replace c12 := K1.out.at_ 2 _ rfl)
    | fail "arm")
  go_ret
  exact ⟨rfl, B.out⟩

set_option maxRecDepth 100000 in
set_option maxHeartbeats 2000000 in
theorem lup_z (X Y Z : ByteArray) (s : Int) (w : World)
    (hz : (Z.toList == [48]) = false)
    (s1 : ∀ W, Calls Tryz.prog 43 #[.string Z] W fun e w' => e = .returned (.int .i64 s) ∧ W = w') :
    Calls Tryz.prog 72 #[.agg #[.string X, .string Y, .string Z]] w fun e w' => e = .returned (.bool (decide (s > 0))) ∧ Below w.heap.size w w' := by
  obtain ⟨z1, z2⟩ := zero_eq Z _ hz
  clear hz
  have S1 := Lib.hid s1
  clear s1
  have k0 := Blk.fresh w #[.string X, .string Y, .string Z] 34
  have b0 : Below w.heap.size w (w.alloc (Obj.cells #[.string X, .string Y, .string Z] 34)) := ((Below.refl _ _).alloc (Nat.le_refl _) _)
  have K0 := Lib.hid k0
  have B := Lib.hid b0
  clear b0 k0
  go_enter Tryz.func72, Tryz.ntmps72
  go_upto_region 1 with (fail)
  generalize (w.alloc (Obj.cells #[.string X, .string Y, .string Z] 34)) = W0 at *
  have c00 := K0.out.at_ 0 _ rfl
  have c01 := K0.out.at_ 1 _ rfl
  have c02 := K0.out.at_ 2 _ rfl
  go_wp2_with (first
    | (go_at_call 43; (with_reducible refine (S1.out _).mono ?_); rintro e wx ⟨rfl, rfl⟩)
    | fail "arm")
  go_ret
  exact ⟨rfl, B.out⟩

set_option maxRecDepth 100000 in
set_option maxHeartbeats 2000000 in
theorem lup_y (X Y Z : ByteArray) (s : Int) (w : World)
    (hz : (Z.toList == [48]) = true)
    (hy : (Y.toList == [48]) = false)
    (s1 : ∀ W, Calls Tryz.prog 43 #[.string Y] W fun e w' => e = .returned (.int .i64 s) ∧ W = w') :
    Calls Tryz.prog 72 #[.agg #[.string X, .string Y, .string Z]] w fun e w' => e = .returned (.bool (decide (s < 0))) ∧ Below w.heap.size w w' := by
  obtain ⟨z1, z2⟩ := zero_eq Z _ hz
  clear hz
  obtain ⟨y1, y2⟩ := zero_eq Y _ hy
  clear hy
  have S1 := Lib.hid s1
  clear s1
  have k0 := Blk.fresh w #[.string X, .string Y, .string Z] 34
  have b0 : Below w.heap.size w (w.alloc (Obj.cells #[.string X, .string Y, .string Z] 34)) := ((Below.refl _ _).alloc (Nat.le_refl _) _)
  have K0 := Lib.hid k0
  have B := Lib.hid b0
  clear b0 k0
  go_enter Tryz.func72, Tryz.ntmps72
  go_upto_region 1 with (fail)
  generalize (w.alloc (Obj.cells #[.string X, .string Y, .string Z] 34)) = W0 at *
  have c00 := K0.out.at_ 0 _ rfl
  have c01 := K0.out.at_ 1 _ rfl
  have c02 := K0.out.at_ 2 _ rfl
  go_wp2_with (first
    | (go_at_call 43; (with_reducible refine (S1.out _).mono ?_); rintro e wx ⟨rfl, rfl⟩)
    | fail "arm")
  go_ret
  exact ⟨rfl, B.out⟩

set_option maxRecDepth 100000 in
set_option maxHeartbeats 2000000 in
theorem lup_x (X Y Z : ByteArray) (s : Int) (w : World)
    (hz : (Z.toList == [48]) = true)
    (hy : (Y.toList == [48]) = true)
    (s1 : ∀ W, Calls Tryz.prog 43 #[.string X] W fun e w' => e = .returned (.int .i64 s) ∧ W = w') :
    Calls Tryz.prog 72 #[.agg #[.string X, .string Y, .string Z]] w fun e w' => e = .returned (.bool (decide (s < 0))) ∧ Below w.heap.size w w' := by
  obtain ⟨z1, z2⟩ := zero_eq Z _ hz
  clear hz
  obtain ⟨y1, y2⟩ := zero_eq Y _ hy
  clear hy
  have S1 := Lib.hid s1
  clear s1
  have k0 := Blk.fresh w #[.string X, .string Y, .string Z] 34
  have b0 : Below w.heap.size w (w.alloc (Obj.cells #[.string X, .string Y, .string Z] 34)) := ((Below.refl _ _).alloc (Nat.le_refl _) _)
  have K0 := Lib.hid k0
  have B := Lib.hid b0
  clear b0 k0
  go_enter Tryz.func72, Tryz.ntmps72
  go_upto_region 1 with (fail)
  generalize (w.alloc (Obj.cells #[.string X, .string Y, .string Z] 34)) = W0 at *
  have c00 := K0.out.at_ 0 _ rfl
  have c01 := K0.out.at_ 1 _ rfl
  have c02 := K0.out.at_ 2 _ rfl
  go_wp2_with (first
    | (go_at_call 43; (with_reducible refine (S1.out _).mono ?_); rintro e wx ⟨rfl, rfl⟩)
    | fail "arm")
  go_ret
  exact ⟨rfl, B.out⟩

set_option maxRecDepth 100000 in
set_option maxHeartbeats 2000000 in
theorem lnumber_ok (X : ByteArray) (w : World)
    (s1 : ∀ W, Below w.heap.size w W → Calls Tryz.prog 63 #[.string X] W fun e w' => e = .returned (.int .i64 0) ∧ Below W.heap.size W w') :
    Calls Tryz.prog 51 #[.string X] w fun e w' => e = .returned (.tuple #[.string X, .int .i64 0]) ∧ Below w.heap.size w w' := by
  have S1 := Lib.hid s1
  clear s1
  have B := Lib.hid (Below.refl w.heap.size w)
  go_enter Tryz.func51, Tryz.ntmps51
  go_wp2_with (first
    | (go_at_call 63; (with_reducible refine (S1.out _ (Near.base (by first | exact Near.same _ | exact Near.one _) B.out)).mono ?_); rintro e wx ⟨rfl, q⟩; replace B := Lib.hid (Near.go (by first | exact Near.same _ | exact Near.one _) B.out q B.out.size); clear q)
    | fail "arm")
  go_ret2
  exact ⟨rfl, B.out⟩

set_option maxRecDepth 100000 in
set_option maxHeartbeats 2000000 in
theorem lresult_ok (X Y Z : ByteArray) (w : World)
    (s1 : ∀ W, Below w.heap.size w W → Calls Tryz.prog 64 #[.agg #[.string X, .string Y, .string Z]] W fun e w' => e = .returned (.int .i64 0) ∧ Below W.heap.size W w') :
    Calls Tryz.prog 46 #[.agg #[.string X, .string Y, .string Z]] w fun e w' => e = .returned (.tuple #[.agg #[.string X, .string Y, .string Z], .int .i64 0]) ∧ Below w.heap.size w w' := by
  have S1 := Lib.hid s1
  clear s1
  have k0 := Blk.fresh w #[.string X, .string Y, .string Z] 34
  replace k0 := k0.alloc (Obj.cells #[.string ⟨#[]⟩, .string ⟨#[]⟩, .string ⟨#[]⟩] 34)
  have k1 := Blk.fresh (w.alloc (Obj.cells #[.string X, .string Y, .string Z] 34)) #[.string ⟨#[]⟩, .string ⟨#[]⟩, .string ⟨#[]⟩] 34
  rw [show (w.alloc (Obj.cells #[.string X, .string Y, .string Z] 34)).heap.size = w.heap.size + 1 from World.size_alloc ..] at k1
  have b0 : Below w.heap.size w ((w.alloc (Obj.cells #[.string X, .string Y, .string Z] 34)).alloc (Obj.cells #[.string ⟨#[]⟩, .string ⟨#[]⟩, .string ⟨#[]⟩] 34)) := (((Below.refl _ _).alloc (Nat.le_refl _) _).alloc (by simp; try omega) _)
  have K0 := Lib.hid k0
  have K1 := Lib.hid k1
  have B := Lib.hid b0
  clear b0 k0 k1
  go_enter Tryz.func46, Tryz.ntmps46
  go_upto_region 1 with (fail)
  generalize ((w.alloc (Obj.cells #[.string X, .string Y, .string Z] 34)).alloc (Obj.cells #[.string ⟨#[]⟩, .string ⟨#[]⟩, .string ⟨#[]⟩] 34)) = W0 at *
  have c00 := K0.out.at_ 0 _ rfl
  have c01 := K0.out.at_ 1 _ rfl
  have c02 := K0.out.at_ 2 _ rfl
  have c10 := K1.out.at_ 0 _ rfl
  have c11 := K1.out.at_ 1 _ rfl
  have c12 := K1.out.at_ 2 _ rfl
  have z10 := K1.out.free 0
  have z11 := K1.out.free 1
  have z12 := K1.out.free 2
  go_wp2_with (first
    | (go_at_call 64; (with_reducible refine (S1.out _ (Near.base (by first | exact Near.same _ | exact Near.one _) B.out)).mono ?_); rintro e wx ⟨rfl, q⟩; replace K0 := Lib.hid (K0.out.near (by first | exact Near.same _ | exact Near.one _) q); replace K1 := Lib.hid (K1.out.near (by first | exact Near.same _ | exact Near.one _) q); replace B := Lib.hid (Near.go (by first | exact Near.same _ | exact Near.one _) B.out q B.out.size); clear q; replace c00 := K0.out.at_ 0 _ rfl; replace c01 := K0.out.at_ 1 _ rfl; replace c02 := K0.out.at_ 2 _ rfl; replace c10 := K1.out.at_ 0 _ rfl; replace c11 := K1.out.at_ 1 _ rfl; replace c12 := K1.out.at_ 2 _ rfl; replace z10 := K1.out.free 0; replace z11 := K1.out.free 1; replace z12 := K1.out.free 2)
    | fail "arm")
  have R3 := K1.out.set3 (.string X) (.string Y) (.string Z)
  have B3 := Lib.hid (B.out.trans (below_else3 wx w.heap.size (w.heap.size + 1) (by omega) (.string X) (.string Y) (.string Z)))
  generalize (((wx.setCell ⟨w.heap.size + 1, 0, none⟩ (.string X)).setCell ⟨w.heap.size + 1, 1, none⟩ (.string Y)).setCell ⟨w.heap.size + 1, 2, none⟩ (.string Z)) = W3 at *
  have e0 := R3.at_ 0 _ rfl
  have e1 := R3.at_ 1 _ rfl
  have e2 := R3.at_ 2 _ rfl
  clear R3
  exact bodyPost_ret (v := .tuple #[.agg #[.string X, .string Y, .string Z], .int .i64 0]) (by rw [results_cell_tmp Tryz.results46]; simp [go_sem, e0, e1, e2]) rfl ⟨rfl, B3.out⟩

set_option maxRecDepth 100000 in
set_option maxHeartbeats 2000000 in
theorem lbear_down0 (X Y Z : ByteArray) (w : World)
    (hx : (X.toList == [48]) = true)
    (hy : (Y.toList == [48]) = true)
    (s1 : ∀ W, Below w.heap.size w W → Calls Tryz.prog 72 #[.agg #[.string X, .string Y, .string Z]] W fun e w' => e = .returned (.bool false) ∧ Below W.heap.size W w') :
    Calls Tryz.prog 56 #[.agg #[.string X, .string Y, .string Z]] w fun e w' => e = .returned (.tuple #[.string X, .string Y, .bool false]) ∧ Below w.heap.size w w' := by
  obtain ⟨x1, x2⟩ := zero_eq X _ hx
  obtain ⟨y1, y2⟩ := zero_eq Y _ hy
  clear hx hy
  have S1 := Lib.hid s1
  clear s1
  have k0 := Blk.fresh w #[.string X, .string Y, .string Z] 34
  have b0 : Below w.heap.size w (w.alloc (Obj.cells #[.string X, .string Y, .string Z] 34)) := ((Below.refl _ _).alloc (Nat.le_refl _) _)
  have K0 := Lib.hid k0
  have B := Lib.hid b0
  clear b0 k0
  go_enter Tryz.func56, Tryz.ntmps56
  go_upto_region 1 with (fail)
  generalize (w.alloc (Obj.cells #[.string X, .string Y, .string Z] 34)) = W0 at *
  have c00 := K0.out.at_ 0 _ rfl
  have c01 := K0.out.at_ 1 _ rfl
  have c02 := K0.out.at_ 2 _ rfl
  have z00 := K0.out.free 0
  have z01 := K0.out.free 1
  have z02 := K0.out.free 2
  go_upto_region 3 with (first
    | (go_at_call 72; (with_reducible refine (S1.out _ (Near.base (by first | exact Near.same _ | exact Near.one _) B.out)).mono ?_); rintro e wx ⟨rfl, q⟩; replace K0 := Lib.hid (K0.out.near (by first | exact Near.same _ | exact Near.one _) q); replace B := Lib.hid (Near.go (by first | exact Near.same _ | exact Near.one _) B.out q B.out.size); clear q; replace c00 := K0.out.at_ 0 _ rfl; replace c01 := K0.out.at_ 1 _ rfl; replace c02 := K0.out.at_ 2 _ rfl; replace z00 := K0.out.free 0; replace z01 := K0.out.free 1; replace z02 := K0.out.free 2)
    | fail "arm")
  go_quiet (fail)
  go_wp2
  go_ret3
  exact ⟨rfl, B.out.trans ((Drew.of _ _).below _)⟩

set_option maxRecDepth 100000 in
set_option maxHeartbeats 2000000 in
theorem lbear_down1 (X Y Z : ByteArray) (w : World)
    (hx : (X.toList == [48]) = true)
    (hy : (Y.toList == [48]) = false)
    (s1 : ∀ W, Below w.heap.size w W → Calls Tryz.prog 72 #[.agg #[.string X, .string Y, .string Z]] W fun e w' => e = .returned (.bool false) ∧ Below W.heap.size W w') :
    Calls Tryz.prog 56 #[.agg #[.string X, .string Y, .string Z]] w fun e w' => e = .returned (.tuple #[.string X, .string Y, .bool true]) ∧ Below w.heap.size w w' := by
  obtain ⟨x1, x2⟩ := zero_eq X _ hx
  obtain ⟨y1, y2⟩ := zero_eq Y _ hy
  clear hx hy
  have S1 := Lib.hid s1
  clear s1
  have k0 := Blk.fresh w #[.string X, .string Y, .string Z] 34
  have b0 : Below w.heap.size w (w.alloc (Obj.cells #[.string X, .string Y, .string Z] 34)) := ((Below.refl _ _).alloc (Nat.le_refl _) _)
  have K0 := Lib.hid k0
  have B := Lib.hid b0
  clear b0 k0
  go_enter Tryz.func56, Tryz.ntmps56
  go_upto_region 1 with (fail)
  generalize (w.alloc (Obj.cells #[.string X, .string Y, .string Z] 34)) = W0 at *
  have c00 := K0.out.at_ 0 _ rfl
  have c01 := K0.out.at_ 1 _ rfl
  have c02 := K0.out.at_ 2 _ rfl
  have z00 := K0.out.free 0
  have z01 := K0.out.free 1
  have z02 := K0.out.free 2
  go_upto_region 3 with (first
    | (go_at_call 72; (with_reducible refine (S1.out _ (Near.base (by first | exact Near.same _ | exact Near.one _) B.out)).mono ?_); rintro e wx ⟨rfl, q⟩; replace K0 := Lib.hid (K0.out.near (by first | exact Near.same _ | exact Near.one _) q); replace B := Lib.hid (Near.go (by first | exact Near.same _ | exact Near.one _) B.out q B.out.size); clear q; replace c00 := K0.out.at_ 0 _ rfl; replace c01 := K0.out.at_ 1 _ rfl; replace c02 := K0.out.at_ 2 _ rfl; replace z00 := K0.out.free 0; replace z01 := K0.out.free 1; replace z02 := K0.out.free 2)
    | fail "arm")
  go_quiet (fail)
  go_wp2
  go_ret3
  exact ⟨rfl, B.out.trans ((Drew.of _ _).below _)⟩

set_option maxRecDepth 100000 in
set_option maxHeartbeats 2000000 in
theorem lbear_down2 (X Y Z : ByteArray) (w : World)
    (hx : (X.toList == [48]) = false)
    (hy : (Y.toList == [48]) = true)
    (s1 : ∀ W, Below w.heap.size w W → Calls Tryz.prog 72 #[.agg #[.string X, .string Y, .string Z]] W fun e w' => e = .returned (.bool false) ∧ Below W.heap.size W w') :
    Calls Tryz.prog 56 #[.agg #[.string X, .string Y, .string Z]] w fun e w' => e = .returned (.tuple #[.string X, .string Y, .bool true]) ∧ Below w.heap.size w w' := by
  obtain ⟨x1, x2⟩ := zero_eq X _ hx
  obtain ⟨y1, y2⟩ := zero_eq Y _ hy
  clear hx hy
  have S1 := Lib.hid s1
  clear s1
  have k0 := Blk.fresh w #[.string X, .string Y, .string Z] 34
  have b0 : Below w.heap.size w (w.alloc (Obj.cells #[.string X, .string Y, .string Z] 34)) := ((Below.refl _ _).alloc (Nat.le_refl _) _)
  have K0 := Lib.hid k0
  have B := Lib.hid b0
  clear b0 k0
  go_enter Tryz.func56, Tryz.ntmps56
  go_upto_region 1 with (fail)
  generalize (w.alloc (Obj.cells #[.string X, .string Y, .string Z] 34)) = W0 at *
  have c00 := K0.out.at_ 0 _ rfl
  have c01 := K0.out.at_ 1 _ rfl
  have c02 := K0.out.at_ 2 _ rfl
  have z00 := K0.out.free 0
  have z01 := K0.out.free 1
  have z02 := K0.out.free 2
  go_upto_region 3 with (first
    | (go_at_call 72; (with_reducible refine (S1.out _ (Near.base (by first | exact Near.same _ | exact Near.one _) B.out)).mono ?_); rintro e wx ⟨rfl, q⟩; replace K0 := Lib.hid (K0.out.near (by first | exact Near.same _ | exact Near.one _) q); replace B := Lib.hid (Near.go (by first | exact Near.same _ | exact Near.one _) B.out q B.out.size); clear q; replace c00 := K0.out.at_ 0 _ rfl; replace c01 := K0.out.at_ 1 _ rfl; replace c02 := K0.out.at_ 2 _ rfl; replace z00 := K0.out.free 0; replace z01 := K0.out.free 1; replace z02 := K0.out.free 2)
    | fail "arm")
  go_quiet (fail)
  go_wp2
  go_ret3
  exact ⟨rfl, B.out.trans ((Drew.of _ _).below _)⟩

set_option maxRecDepth 100000 in
set_option maxHeartbeats 2000000 in
theorem lbear_down3 (X Y Z : ByteArray) (w : World)
    (hx : (X.toList == [48]) = false)
    (hy : (Y.toList == [48]) = false)
    (s1 : ∀ W, Below w.heap.size w W → Calls Tryz.prog 72 #[.agg #[.string X, .string Y, .string Z]] W fun e w' => e = .returned (.bool false) ∧ Below W.heap.size W w') :
    Calls Tryz.prog 56 #[.agg #[.string X, .string Y, .string Z]] w fun e w' => e = .returned (.tuple #[.string X, .string Y, .bool true]) ∧ Below w.heap.size w w' := by
  obtain ⟨x1, x2⟩ := zero_eq X _ hx
  obtain ⟨y1, y2⟩ := zero_eq Y _ hy
  clear hx hy
  have S1 := Lib.hid s1
  clear s1
  have k0 := Blk.fresh w #[.string X, .string Y, .string Z] 34
  have b0 : Below w.heap.size w (w.alloc (Obj.cells #[.string X, .string Y, .string Z] 34)) := ((Below.refl _ _).alloc (Nat.le_refl _) _)
  have K0 := Lib.hid k0
  have B := Lib.hid b0
  clear b0 k0
  go_enter Tryz.func56, Tryz.ntmps56
  go_upto_region 1 with (fail)
  generalize (w.alloc (Obj.cells #[.string X, .string Y, .string Z] 34)) = W0 at *
  have c00 := K0.out.at_ 0 _ rfl
  have c01 := K0.out.at_ 1 _ rfl
  have c02 := K0.out.at_ 2 _ rfl
  have z00 := K0.out.free 0
  have z01 := K0.out.free 1
  have z02 := K0.out.free 2
  go_upto_region 3 with (first
    | (go_at_call 72; (with_reducible refine (S1.out _ (Near.base (by first | exact Near.same _ | exact Near.one _) B.out)).mono ?_); rintro e wx ⟨rfl, q⟩; replace K0 := Lib.hid (K0.out.near (by first | exact Near.same _ | exact Near.one _) q); replace B := Lib.hid (Near.go (by first | exact Near.same _ | exact Near.one _) B.out q B.out.size); clear q; replace c00 := K0.out.at_ 0 _ rfl; replace c01 := K0.out.at_ 1 _ rfl; replace c02 := K0.out.at_ 2 _ rfl; replace z00 := K0.out.free 0; replace z01 := K0.out.free 1; replace z02 := K0.out.free 2)
    | fail "arm")
  go_quiet (fail)
  go_wp2
  go_ret3
  exact ⟨rfl, B.out.trans ((Drew.of _ _).below _)⟩

set_option maxRecDepth 100000 in
set_option maxHeartbeats 2000000 in
theorem lbear_up0 (X Y Z X1 Y1 Z1 : ByteArray) (w : World)
    (hx : (X1.toList == [48]) = true)
    (hy : (Y1.toList == [48]) = true)
    (s1 : ∀ W, Below w.heap.size w W → Calls Tryz.prog 72 #[.agg #[.string X, .string Y, .string Z]] W fun e w' => e = .returned (.bool true) ∧ Below W.heap.size W w')
    (s2 : ∀ W, Below w.heap.size w W → Calls Tryz.prog 71 #[.agg #[.string X, .string Y, .string Z], .string ⟨#[45, 49]⟩] W fun e w' => e = .returned (.agg #[.string X1, .string Y1, .string Z1]) ∧ Below W.heap.size W w') :
    Calls Tryz.prog 56 #[.agg #[.string X, .string Y, .string Z]] w fun e w' => e = .returned (.tuple #[.string X1, .string Y1, .bool false]) ∧ Below w.heap.size w w' := by
  obtain ⟨x1, x2⟩ := zero_eq X1 _ hx
  obtain ⟨y1, y2⟩ := zero_eq Y1 _ hy
  clear hx hy
  have S1 := Lib.hid s1
  have S2 := Lib.hid s2
  clear s1 s2
  have k0 := Blk.fresh w #[.string X, .string Y, .string Z] 34
  have b0 : Below w.heap.size w (w.alloc (Obj.cells #[.string X, .string Y, .string Z] 34)) := ((Below.refl _ _).alloc (Nat.le_refl _) _)
  have K0 := Lib.hid k0
  have B := Lib.hid b0
  clear b0 k0
  go_enter Tryz.func56, Tryz.ntmps56
  go_upto_region 1 with (fail)
  generalize (w.alloc (Obj.cells #[.string X, .string Y, .string Z] 34)) = W0 at *
  have c00 := K0.out.at_ 0 _ rfl
  have c01 := K0.out.at_ 1 _ rfl
  have c02 := K0.out.at_ 2 _ rfl
  have z00 := K0.out.free 0
  have z01 := K0.out.free 1
  have z02 := K0.out.free 2
  go_upto_region 3 with (first
    | (go_at_call 72; (with_reducible refine (S1.out _ (Near.base (by first | exact Near.same _ | exact Near.one _) B.out)).mono ?_); rintro e wx ⟨rfl, q⟩; replace K0 := Lib.hid (K0.out.near (by first | exact Near.same _ | exact Near.one _) q); replace B := Lib.hid (Near.go (by first | exact Near.same _ | exact Near.one _) B.out q B.out.size); clear q; replace c00 := K0.out.at_ 0 _ rfl; replace c01 := K0.out.at_ 1 _ rfl; replace c02 := K0.out.at_ 2 _ rfl; replace z00 := K0.out.free 0; replace z01 := K0.out.free 1; replace z02 := K0.out.free 2)
    | (go_at_call 71; (with_reducible refine (S2.out _ (Near.base (by first | exact Near.same _ | exact Near.one _) B.out)).mono ?_); rintro e wx ⟨rfl, q⟩; replace K0 := Lib.hid (K0.out.near (by first | exact Near.same _ | exact Near.one _) q); replace B := Lib.hid (Near.go (by first | exact Near.same _ | exact Near.one _) B.out q B.out.size); clear q; replace c00 := K0.out.at_ 0 _ rfl; replace c01 := K0.out.at_ 1 _ rfl; replace c02 := K0.out.at_ 2 _ rfl; replace z00 := K0.out.free 0; replace z01 := K0.out.free 1; replace z02 := K0.out.free 2)
    | fail "arm")
  clear c00 c01 c02 z00 z01 z02
  have R3 := K0.out.set3 (.string X1) (.string Y1) (.string Z1)
  have B3 := Lib.hid (B.out.trans (below_else3 wx w.heap.size (w.heap.size) (by omega) (.string X1) (.string Y1) (.string Z1)))
  generalize (((wx.setCell ⟨w.heap.size, 0, none⟩ (.string X1)).setCell ⟨w.heap.size, 1, none⟩ (.string Y1)).setCell ⟨w.heap.size, 2, none⟩ (.string Z1)) = W3 at *
  have e0 := R3.at_ 0 _ rfl
  have e1 := R3.at_ 1 _ rfl
  have e2 := R3.at_ 2 _ rfl
  clear R3
  go_quiet (fail)
  go_wp2
  go_ret3
  exact ⟨rfl, B3.out.trans ((Drew.of _ _).below _)⟩

set_option maxRecDepth 100000 in
set_option maxHeartbeats 2000000 in
theorem lbear_up1 (X Y Z X1 Y1 Z1 : ByteArray) (w : World)
    (hx : (X1.toList == [48]) = true)
    (hy : (Y1.toList == [48]) = false)
    (s1 : ∀ W, Below w.heap.size w W → Calls Tryz.prog 72 #[.agg #[.string X, .string Y, .string Z]] W fun e w' => e = .returned (.bool true) ∧ Below W.heap.size W w')
    (s2 : ∀ W, Below w.heap.size w W → Calls Tryz.prog 71 #[.agg #[.string X, .string Y, .string Z], .string ⟨#[45, 49]⟩] W fun e w' => e = .returned (.agg #[.string X1, .string Y1, .string Z1]) ∧ Below W.heap.size W w') :
    Calls Tryz.prog 56 #[.agg #[.string X, .string Y, .string Z]] w fun e w' => e = .returned (.tuple #[.string X1, .string Y1, .bool true]) ∧ Below w.heap.size w w' := by
  obtain ⟨x1, x2⟩ := zero_eq X1 _ hx
  obtain ⟨y1, y2⟩ := zero_eq Y1 _ hy
  clear hx hy
  have S1 := Lib.hid s1
  have S2 := Lib.hid s2
  clear s1 s2
  have k0 := Blk.fresh w #[.string X, .string Y, .string Z] 34
  have b0 : Below w.heap.size w (w.alloc (Obj.cells #[.string X, .string Y, .string Z] 34)) := ((Below.refl _ _).alloc (Nat.le_refl _) _)
  have K0 := Lib.hid k0
  have B := Lib.hid b0
  clear b0 k0
  go_enter Tryz.func56, Tryz.ntmps56
  go_upto_region 1 with (fail)
  generalize (w.alloc (Obj.cells #[.string X, .string Y, .string Z] 34)) = W0 at *
  have c00 := K0.out.at_ 0 _ rfl
  have c01 := K0.out.at_ 1 _ rfl
  have c02 := K0.out.at_ 2 _ rfl
  have z00 := K0.out.free 0
  have z01 := K0.out.free 1
  have z02 := K0.out.free 2
  go_upto_region 3 with (first
    | (go_at_call 72; (with_reducible refine (S1.out _ (Near.base (by first | exact Near.same _ | exact Near.one _) B.out)).mono ?_); rintro e wx ⟨rfl, q⟩; replace K0 := Lib.hid (K0.out.near (by first | exact Near.same _ | exact Near.one _) q); replace B := Lib.hid (Near.go (by first | exact Near.same _ | exact Near.one _) B.out q B.out.size); clear q; replace c00 := K0.out.at_ 0 _ rfl; replace c01 := K0.out.at_ 1 _ rfl; replace c02 := K0.out.at_ 2 _ rfl; replace z00 := K0.out.free 0; replace z01 := K0.out.free 1; replace z02 := K0.out.free 2)
    | (go_at_call 71; (with_reducible refine (S2.out _ (Near.base (by first | exact Near.same _ | exact Near.one _) B.out)).mono ?_); rintro e wx ⟨rfl, q⟩; replace K0 := Lib.hid (K0.out.near (by first | exact Near.same _ | exact Near.one _) q); replace B := Lib.hid (Near.go (by first | exact Near.same _ | exact Near.one _) B.out q B.out.size); clear q; replace c00 := K0.out.at_ 0 _ rfl; replace c01 := K0.out.at_ 1 _ rfl; replace c02 := K0.out.at_ 2 _ rfl; replace z00 := K0.out.free 0; replace z01 := K0.out.free 1; replace z02 := K0.out.free 2)
    | fail "arm")
  clear c00 c01 c02 z00 z01 z02
  have R3 := K0.out.set3 (.string X1) (.string Y1) (.string Z1)
  have B3 := Lib.hid (B.out.trans (below_else3 wx w.heap.size (w.heap.size) (by omega) (.string X1) (.string Y1) (.string Z1)))
  generalize (((wx.setCell ⟨w.heap.size, 0, none⟩ (.string X1)).setCell ⟨w.heap.size, 1, none⟩ (.string Y1)).setCell ⟨w.heap.size, 2, none⟩ (.string Z1)) = W3 at *
  have e0 := R3.at_ 0 _ rfl
  have e1 := R3.at_ 1 _ rfl
  have e2 := R3.at_ 2 _ rfl
  clear R3
  go_quiet (fail)
  go_wp2
  go_ret3
  exact ⟨rfl, B3.out.trans ((Drew.of _ _).below _)⟩

set_option maxRecDepth 100000 in
set_option maxHeartbeats 2000000 in
theorem lbear_up2 (X Y Z X1 Y1 Z1 : ByteArray) (w : World)
    (hx : (X1.toList == [48]) = false)
    (hy : (Y1.toList == [48]) = true)
    (s1 : ∀ W, Below w.heap.size w W → Calls Tryz.prog 72 #[.agg #[.string X, .string Y, .string Z]] W fun e w' => e = .returned (.bool true) ∧ Below W.heap.size W w')
    (s2 : ∀ W, Below w.heap.size w W → Calls Tryz.prog 71 #[.agg #[.string X, .string Y, .string Z], .string ⟨#[45, 49]⟩] W fun e w' => e = .returned (.agg #[.string X1, .string Y1, .string Z1]) ∧ Below W.heap.size W w') :
    Calls Tryz.prog 56 #[.agg #[.string X, .string Y, .string Z]] w fun e w' => e = .returned (.tuple #[.string X1, .string Y1, .bool true]) ∧ Below w.heap.size w w' := by
  obtain ⟨x1, x2⟩ := zero_eq X1 _ hx
  obtain ⟨y1, y2⟩ := zero_eq Y1 _ hy
  clear hx hy
  have S1 := Lib.hid s1
  have S2 := Lib.hid s2
  clear s1 s2
  have k0 := Blk.fresh w #[.string X, .string Y, .string Z] 34
  have b0 : Below w.heap.size w (w.alloc (Obj.cells #[.string X, .string Y, .string Z] 34)) := ((Below.refl _ _).alloc (Nat.le_refl _) _)
  have K0 := Lib.hid k0
  have B := Lib.hid b0
  clear b0 k0
  go_enter Tryz.func56, Tryz.ntmps56
  go_upto_region 1 with (fail)
  generalize (w.alloc (Obj.cells #[.string X, .string Y, .string Z] 34)) = W0 at *
  have c00 := K0.out.at_ 0 _ rfl
  have c01 := K0.out.at_ 1 _ rfl
  have c02 := K0.out.at_ 2 _ rfl
  have z00 := K0.out.free 0
  have z01 := K0.out.free 1
  have z02 := K0.out.free 2
  go_upto_region 3 with (first
    | (go_at_call 72; (with_reducible refine (S1.out _ (Near.base (by first | exact Near.same _ | exact Near.one _) B.out)).mono ?_); rintro e wx ⟨rfl, q⟩; replace K0 := Lib.hid (K0.out.near (by first | exact Near.same _ | exact Near.one _) q); replace B := Lib.hid (Near.go (by first | exact Near.same _ | exact Near.one _) B.out q B.out.size); clear q; replace c00 := K0.out.at_ 0 _ rfl; replace c01 := K0.out.at_ 1 _ rfl; replace c02 := K0.out.at_ 2 _ rfl; replace z00 := K0.out.free 0; replace z01 := K0.out.free 1; replace z02 := K0.out.free 2)
    | (go_at_call 71; (with_reducible refine (S2.out _ (Near.base (by first | exact Near.same _ | exact Near.one _) B.out)).mono ?_); rintro e wx ⟨rfl, q⟩; replace K0 := Lib.hid (K0.out.near (by first | exact Near.same _ | exact Near.one _) q); replace B := Lib.hid (Near.go (by first | exact Near.same _ | exact Near.one _) B.out q B.out.size); clear q; replace c00 := K0.out.at_ 0 _ rfl; replace c01 := K0.out.at_ 1 _ rfl; replace c02 := K0.out.at_ 2 _ rfl; replace z00 := K0.out.free 0; replace z01 := K0.out.free 1; replace z02 := K0.out.free 2)
    | fail "arm")
  clear c00 c01 c02 z00 z01 z02
  have R3 := K0.out.set3 (.string X1) (.string Y1) (.string Z1)
  have B3 := Lib.hid (B.out.trans (below_else3 wx w.heap.size (w.heap.size) (by omega) (.string X1) (.string Y1) (.string Z1)))
  generalize (((wx.setCell ⟨w.heap.size, 0, none⟩ (.string X1)).setCell ⟨w.heap.size, 1, none⟩ (.string Y1)).setCell ⟨w.heap.size, 2, none⟩ (.string Z1)) = W3 at *
  have e0 := R3.at_ 0 _ rfl
  have e1 := R3.at_ 1 _ rfl
  have e2 := R3.at_ 2 _ rfl
  clear R3
  go_quiet (fail)
  go_wp2
  go_ret3
  exact ⟨rfl, B3.out.trans ((Drew.of _ _).below _)⟩

set_option maxRecDepth 100000 in
set_option maxHeartbeats 2000000 in
theorem lbear_up3 (X Y Z X1 Y1 Z1 : ByteArray) (w : World)
    (hx : (X1.toList == [48]) = false)
    (hy : (Y1.toList == [48]) = false)
    (s1 : ∀ W, Below w.heap.size w W → Calls Tryz.prog 72 #[.agg #[.string X, .string Y, .string Z]] W fun e w' => e = .returned (.bool true) ∧ Below W.heap.size W w')
    (s2 : ∀ W, Below w.heap.size w W → Calls Tryz.prog 71 #[.agg #[.string X, .string Y, .string Z], .string ⟨#[45, 49]⟩] W fun e w' => e = .returned (.agg #[.string X1, .string Y1, .string Z1]) ∧ Below W.heap.size W w') :
    Calls Tryz.prog 56 #[.agg #[.string X, .string Y, .string Z]] w fun e w' => e = .returned (.tuple #[.string X1, .string Y1, .bool true]) ∧ Below w.heap.size w w' := by
  obtain ⟨x1, x2⟩ := zero_eq X1 _ hx
  obtain ⟨y1, y2⟩ := zero_eq Y1 _ hy
  clear hx hy
  have S1 := Lib.hid s1
  have S2 := Lib.hid s2
  clear s1 s2
  have k0 := Blk.fresh w #[.string X, .string Y, .string Z] 34
  have b0 : Below w.heap.size w (w.alloc (Obj.cells #[.string X, .string Y, .string Z] 34)) := ((Below.refl _ _).alloc (Nat.le_refl _) _)
  have K0 := Lib.hid k0
  have B := Lib.hid b0
  clear b0 k0
  go_enter Tryz.func56, Tryz.ntmps56
  go_upto_region 1 with (fail)
  generalize (w.alloc (Obj.cells #[.string X, .string Y, .string Z] 34)) = W0 at *
  have c00 := K0.out.at_ 0 _ rfl
  have c01 := K0.out.at_ 1 _ rfl
  have c02 := K0.out.at_ 2 _ rfl
  have z00 := K0.out.free 0
  have z01 := K0.out.free 1
  have z02 := K0.out.free 2
  go_upto_region 3 with (first
    | (go_at_call 72; (with_reducible refine (S1.out _ (Near.base (by first | exact Near.same _ | exact Near.one _) B.out)).mono ?_); rintro e wx ⟨rfl, q⟩; replace K0 := Lib.hid (K0.out.near (by first | exact Near.same _ | exact Near.one _) q); replace B := Lib.hid (Near.go (by first | exact Near.same _ | exact Near.one _) B.out q B.out.size); clear q; replace c00 := K0.out.at_ 0 _ rfl; replace c01 := K0.out.at_ 1 _ rfl; replace c02 := K0.out.at_ 2 _ rfl; replace z00 := K0.out.free 0; replace z01 := K0.out.free 1; replace z02 := K0.out.free 2)
    | (go_at_call 71; (with_reducible refine (S2.out _ (Near.base (by first | exact Near.same _ | exact Near.one _) B.out)).mono ?_); rintro e wx ⟨rfl, q⟩; replace K0 := Lib.hid (K0.out.near (by first | exact Near.same _ | exact Near.one _) q); replace B := Lib.hid (Near.go (by first | exact Near.same _ | exact Near.one _) B.out q B.out.size); clear q; replace c00 := K0.out.at_ 0 _ rfl; replace c01 := K0.out.at_ 1 _ rfl; replace c02 := K0.out.at_ 2 _ rfl; replace z00 := K0.out.free 0; replace z01 := K0.out.free 1; replace z02 := K0.out.free 2)
    | fail "arm")
  clear c00 c01 c02 z00 z01 z02
  have R3 := K0.out.set3 (.string X1) (.string Y1) (.string Z1)
  have B3 := Lib.hid (B.out.trans (below_else3 wx w.heap.size (w.heap.size) (by omega) (.string X1) (.string Y1) (.string Z1)))
  generalize (((wx.setCell ⟨w.heap.size, 0, none⟩ (.string X1)).setCell ⟨w.heap.size, 1, none⟩ (.string Y1)).setCell ⟨w.heap.size, 2, none⟩ (.string Z1)) = W3 at *
  have e0 := R3.at_ 0 _ rfl
  have e1 := R3.at_ 1 _ rfl
  have e2 := R3.at_ 2 _ rfl
  clear R3
  go_quiet (fail)
  go_wp2
  go_ret3
  exact ⟨rfl, B3.out.trans ((Drew.of _ _).below _)⟩

end Go.Proofs.YtajkeoapfkkjbaaGreatDoor
