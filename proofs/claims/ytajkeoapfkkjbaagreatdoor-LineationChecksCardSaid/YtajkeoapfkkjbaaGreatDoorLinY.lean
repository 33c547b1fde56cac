/- The walks of lineation's functions of one and of two vectors, over texts. -/
import Derived.Test.YtajkeoapfkkjbaaGreatDoorGLinX
namespace Go.Proofs.YtajkeoapfkkjbaaGreatDoor
set_option linter.all false
open Go.RowKit

set_option maxRecDepth 100000 in
set_option maxHeartbeats 2000000 in
theorem lsame_bad (A C D F G H : ByteArray) (k : Int) (w : World)
    (hk : (k != 0) = true)
    (s1 : ∀ W, Below w.heap.size w W → Calls Tryz.prog 41 #[.agg #[.string A, .string C, .string D], .agg #[.string F, .string G, .string H]] W fun e w' => e = .returned (.int .i64 k) ∧ Below W.heap.size W w') :
    Calls Tryz.prog 19 #[.agg #[.string A, .string C, .string D], .agg #[.string F, .string G, .string H]] w fun e w' => e = .returned (.tuple #[.bool false, .int .i64 k]) ∧ Below w.heap.size w w' := by
  have S1 := Lib.hid s1
  clear s1
  have k0 := Blk.fresh w #[.string A, .string C, .string D] 34
  replace k0 := k0.alloc (Obj.cells #[.string F, .string G, .string H] 34)
  have k1 := Blk.fresh (w.alloc (Obj.cells #[.string A, .string C, .string D] 34)) #[.string F, .string G, .string H] 34
  rw [show (w.alloc (Obj.cells #[.string A, .string C, .string D] 34)).heap.size = w.heap.size + 1 from World.size_alloc ..] at k1
  have b0 : Below w.heap.size w ((w.alloc (Obj.cells #[.string A, .string C, .string D] 34)).alloc (Obj.cells #[.string F, .string G, .string H] 34)) := (((Below.refl _ _).alloc (Nat.le_refl _) _).alloc (by simp; try omega) _)
  have K0 := Lib.hid k0
  have K1 := Lib.hid k1
  have B := Lib.hid b0
  clear b0 k0 k1
  go_enter Tryz.func19, Tryz.ntmps19
  go_upto_region 1 with (fail)
  generalize ((w.alloc (Obj.cells #[.string A, .string C, .string D] 34)).alloc (Obj.cells #[.string F, .string G, .string H] 34)) = W0 at *
  have c00 := K0.out.at_ 0 _ rfl
  have c01 := K0.out.at_ 1 _ rfl
  have c02 := K0.out.at_ 2 _ rfl
  have c10 := K1.out.at_ 0 _ rfl
  have c11 := K1.out.at_ 1 _ rfl
  have c12 := K1.out.at_ 2 _ rfl
  go_wp2_with (first
    | (go_at_call 41; (with_reducible refine (S1.out _ (Near.base (by first | exact Near.same _ | exact Near.one _) B.out)).mono ?_); rintro e wx ⟨rfl, q⟩; replace K0 := Lib.hid (K0.out.near (by first | exact Near.same _ | exact Near.one _) q); replace K1 := Lib.hid (K1.out.near (by first | exact Near.same _ | exact Near.one _) q); replace B := Lib.hid (Near.go (by first | exact Near.same _ | exact Near.one _) B.out q B.out.size); clear q; replace c00 := K0.out.at_ 0 _ rfl; replace c01 := K0.out.at_ 1 _ rfl; replace c02 := K0.out.at_ 2 _ rfl; replace c10 := K1.out.at_ 0 _ rfl; replace c11 := K1.out.at_ 1 _ rfl; replace c12 := K1.out.at_ 2 _ rfl)
    | fail "arm")
  go_ret2
  exact ⟨rfl, B.out⟩

set_option maxRecDepth 100000 in
set_option maxHeartbeats 2000000 in
theorem lctrend_bad (A C D F G H : ByteArray) (k : Int) (w : World)
    (hk : (k != 0) = true)
    (s1 : ∀ W, Below w.heap.size w W → Calls Tryz.prog 41 #[.agg #[.string A, .string C, .string D], .agg #[.string F, .string G, .string H]] W fun e w' => e = .returned (.int .i64 k) ∧ Below W.heap.size W w') :
    Calls Tryz.prog 32 #[.agg #[.string A, .string C, .string D], .agg #[.string F, .string G, .string H]] w fun e w' => e = .returned (.tuple #[.int .i64 0, .int .i64 k]) ∧ Below w.heap.size w w' := by
  have S1 := Lib.hid s1
  clear s1
  have k0 := Blk.fresh w #[.string A, .string C, .string D] 34
  replace k0 := k0.alloc (Obj.cells #[.string F, .string G, .string H] 34)
  have k1 := Blk.fresh (w.alloc (Obj.cells #[.string A, .string C, .string D] 34)) #[.string F, .string G, .string H] 34
  rw [show (w.alloc (Obj.cells #[.string A, .string C, .string D] 34)).heap.size = w.heap.size + 1 from World.size_alloc ..] at k1
  have b0 : Below w.heap.size w ((w.alloc (Obj.cells #[.string A, .string C, .string D] 34)).alloc (Obj.cells #[.string F, .string G, .string H] 34)) := (((Below.refl _ _).alloc (Nat.le_refl _) _).alloc (by simp; try omega) _)
  have K0 := Lib.hid k0
  have K1 := Lib.hid k1
  have B := Lib.hid b0
  clear b0 k0 k1
  go_enter Tryz.func32, Tryz.ntmps32
  go_upto_region 1 with (fail)
  generalize ((w.alloc (Obj.cells #[.string A, .string C, .string D] 34)).alloc (Obj.cells #[.string F, .string G, .string H] 34)) = W0 at *
  have c00 := K0.out.at_ 0 _ rfl
  have c01 := K0.out.at_ 1 _ rfl
  have c02 := K0.out.at_ 2 _ rfl
  have c10 := K1.out.at_ 0 _ rfl
  have c11 := K1.out.at_ 1 _ rfl
  have c12 := K1.out.at_ 2 _ rfl
  go_wp2_with (first
    | (go_at_call 41; (with_reducible refine (S1.out _ (Near.base (by first | exact Near.same _ | exact Near.one _) B.out)).mono ?_); rintro e wx ⟨rfl, q⟩; replace K0 := Lib.hid (K0.out.near (by first | exact Near.same _ | exact Near.one _) q); replace K1 := Lib.hid (K1.out.near (by first | exact Near.same _ | exact Near.one _) q); replace B := Lib.hid (Near.go (by first | exact Near.same _ | exact Near.one _) B.out q B.out.size); clear q; replace c00 := K0.out.at_ 0 _ rfl; replace c01 := K0.out.at_ 1 _ rfl; replace c02 := K0.out.at_ 2 _ rfl; replace c10 := K1.out.at_ 0 _ rfl; replace c11 := K1.out.at_ 1 _ rfl; replace c12 := K1.out.at_ 2 _ rfl)
    | fail "arm")
  go_ret2
  exact ⟨rfl, B.out⟩

set_option maxRecDepth 100000 in
set_option maxHeartbeats 2000000 in
theorem lcplunge_bad (A C D F G H : ByteArray) (k : Int) (w : World)
    (hk : (k != 0) = true)
    (s1 : ∀ W, Below w.heap.size w W → Calls Tryz.prog 41 #[.agg #[.string A, .string C, .string D], .agg #[.string F, .string G, .string H]] W fun e w' => e = .returned (.int .i64 k) ∧ Below W.heap.size W w') :
    Calls Tryz.prog 36 #[.agg #[.string A, .string C, .string D], .agg #[.string F, .string G, .string H]] w fun e w' => e = .returned (.tuple #[.int .i64 0, .int .i64 k]) ∧ Below w.heap.size w w' := by
  have S1 := Lib.hid s1
  clear s1
  have k0 := Blk.fresh w #[.string A, .string C, .string D] 34
  replace k0 := k0.alloc (Obj.cells #[.string F, .string G, .string H] 34)
  have k1 := Blk.fresh (w.alloc (Obj.cells #[.string A, .string C, .string D] 34)) #[.string F, .string G, .string H] 34
  rw [show (w.alloc (Obj.cells #[.string A, .string C, .string D] 34)).heap.size = w.heap.size + 1 from World.size_alloc ..] at k1
  have b0 : Below w.heap.size w ((w.alloc (Obj.cells #[.string A, .string C, .string D] 34)).alloc (Obj.cells #[.string F, .string G, .string H] 34)) := (((Below.refl _ _).alloc (Nat.le_refl _) _).alloc (by simp; try omega) _)
  have K0 := Lib.hid k0
  have K1 := Lib.hid k1
  have B := Lib.hid b0
  clear b0 k0 k1
  go_enter Tryz.func36, Tryz.ntmps36
  go_upto_region 1 with (fail)
  generalize ((w.alloc (Obj.cells #[.string A, .string C, .string D] 34)).alloc (Obj.cells #[.string F, .string G, .string H] 34)) = W0 at *
  have c00 := K0.out.at_ 0 _ rfl
  have c01 := K0.out.at_ 1 _ rfl
  have c02 := K0.out.at_ 2 _ rfl
  have c10 := K1.out.at_ 0 _ rfl
  have c11 := K1.out.at_ 1 _ rfl
  have c12 := K1.out.at_ 2 _ rfl
  go_wp2_with (first
    | (go_at_call 41; (with_reducible refine (S1.out _ (Near.base (by first | exact Near.same _ | exact Near.one _) B.out)).mono ?_); rintro e wx ⟨rfl, q⟩; replace K0 := Lib.hid (K0.out.near (by first | exact Near.same _ | exact Near.one _) q); replace K1 := Lib.hid (K1.out.near (by first | exact Near.same _ | exact Near.one _) q); replace B := Lib.hid (Near.go (by first | exact Near.same _ | exact Near.one _) B.out q B.out.size); clear q; replace c00 := K0.out.at_ 0 _ rfl; replace c01 := K0.out.at_ 1 _ rfl; replace c02 := K0.out.at_ 2 _ rfl; replace c10 := K1.out.at_ 0 _ rfl; replace c11 := K1.out.at_ 1 _ rfl; replace c12 := K1.out.at_ 2 _ rfl)
    | fail "arm")
  go_ret2
  exact ⟨rfl, B.out⟩

set_option maxRecDepth 100000 in
set_option maxHeartbeats 2000000 in
theorem langle_bad (A C D F G H : ByteArray) (k : Int) (w : World)
    (hk : (k != 0) = true)
    (s1 : ∀ W, Below w.heap.size w W → Calls Tryz.prog 41 #[.agg #[.string A, .string C, .string D], .agg #[.string F, .string G, .string H]] W fun e w' => e = .returned (.int .i64 k) ∧ Below W.heap.size W w') :
    Calls Tryz.prog 27 #[.agg #[.string A, .string C, .string D], .agg #[.string F, .string G, .string H]] w fun e w' => e = .returned (.tuple #[.string ⟨#[]⟩, .int .i64 k]) ∧ Below w.heap.size w w' := by
  have S1 := Lib.hid s1
  clear s1
  have k0 := Blk.fresh w #[.string A, .string C, .string D] 34
  replace k0 := k0.alloc (Obj.cells #[.string F, .string G, .string H] 34)
  have k1 := Blk.fresh (w.alloc (Obj.cells #[.string A, .string C, .string D] 34)) #[.string F, .string G, .string H] 34
  rw [show (w.alloc (Obj.cells #[.string A, .string C, .string D] 34)).heap.size = w.heap.size + 1 from World.size_alloc ..] at k1
  have b0 : Below w.heap.size w ((w.alloc (Obj.cells #[.string A, .string C, .string D] 34)).alloc (Obj.cells #[.string F, .string G, .string H] 34)) := (((Below.refl _ _).alloc (Nat.le_refl _) _).alloc (by simp; try omega) _)
  have K0 := Lib.hid k0
  have K1 := Lib.hid k1
  have B := Lib.hid b0
  clear b0 k0 k1
  go_enter Tryz.func27, Tryz.ntmps27
  go_upto_region 1 with (fail)
  generalize ((w.alloc (Obj.cells #[.string A, .string C, .string D] 34)).alloc (Obj.cells #[.string F, .string G, .string H] 34)) = W0 at *
  have c00 := K0.out.at_ 0 _ rfl
  have c01 := K0.out.at_ 1 _ rfl
  have c02 := K0.out.at_ 2 _ rfl
  have c10 := K1.out.at_ 0 _ rfl
  have c11 := K1.out.at_ 1 _ rfl
  have c12 := K1.out.at_ 2 _ rfl
  go_wp2_with (first
    | (go_at_call 41; (with_reducible refine (S1.out _ (Near.base (by first | exact Near.same _ | exact Near.one _) B.out)).mono ?_); rintro e wx ⟨rfl, q⟩; replace K0 := Lib.hid (K0.out.near (by first | exact Near.same _ | exact Near.one _) q); replace K1 := Lib.hid (K1.out.near (by first | exact Near.same _ | exact Near.one _) q); replace B := Lib.hid (Near.go (by first | exact Near.same _ | exact Near.one _) B.out q B.out.size); clear q; replace c00 := K0.out.at_ 0 _ rfl; replace c01 := K0.out.at_ 1 _ rfl; replace c02 := K0.out.at_ 2 _ rfl; replace c10 := K1.out.at_ 0 _ rfl; replace c11 := K1.out.at_ 1 _ rfl; replace c12 := K1.out.at_ 2 _ rfl)
    | fail "arm")
  go_ret2
  exact ⟨rfl, B.out⟩

set_option maxRecDepth 100000 in
set_option maxHeartbeats 2000000 in
theorem llies_bad (A C D F G H : ByteArray) (k : Int) (w : World)
    (hk : (k != 0) = true)
    (s1 : ∀ W, Below w.heap.size w W → Calls Tryz.prog 41 #[.agg #[.string A, .string C, .string D], .agg #[.string F, .string G, .string H]] W fun e w' => e = .returned (.int .i64 k) ∧ Below W.heap.size W w') :
    Calls Tryz.prog 22 #[.agg #[.string A, .string C, .string D], .agg #[.string F, .string G, .string H]] w fun e w' => e = .returned (.tuple #[.bool false, .int .i64 k]) ∧ Below w.heap.size w w' := by
  have S1 := Lib.hid s1
  clear s1
  have k0 := Blk.fresh w #[.string A, .string C, .string D] 34
  replace k0 := k0.alloc (Obj.cells #[.string F, .string G, .string H] 34)
  have k1 := Blk.fresh (w.alloc (Obj.cells #[.string A, .string C, .string D] 34)) #[.string F, .string G, .string H] 34
  rw [show (w.alloc (Obj.cells #[.string A, .string C, .string D] 34)).heap.size = w.heap.size + 1 from World.size_alloc ..] at k1
  have b0 : Below w.heap.size w ((w.alloc (Obj.cells #[.string A, .string C, .string D] 34)).alloc (Obj.cells #[.string F, .string G, .string H] 34)) := (((Below.refl _ _).alloc (Nat.le_refl _) _).alloc (by simp; try omega) _)
  have K0 := Lib.hid k0
  have K1 := Lib.hid k1
  have B := Lib.hid b0
  clear b0 k0 k1
  go_enter Tryz.func22, Tryz.ntmps22
  go_upto_region 1 with (fail)
  generalize ((w.alloc (Obj.cells #[.string A, .string C, .string D] 34)).alloc (Obj.cells #[.string F, .string G, .string H] 34)) = W0 at *
  have c00 := K0.out.at_ 0 _ rfl
  have c01 := K0.out.at_ 1 _ rfl
  have c02 := K0.out.at_ 2 _ rfl
  have c10 := K1.out.at_ 0 _ rfl
  have c11 := K1.out.at_ 1 _ rfl
  have c12 := K1.out.at_ 2 _ rfl
  go_wp2_with (first
    | (go_at_call 41; (with_reducible refine (S1.out _ (Near.base (by first | exact Near.same _ | exact Near.one _) B.out)).mono ?_); rintro e wx ⟨rfl, q⟩; replace K0 := Lib.hid (K0.out.near (by first | exact Near.same _ | exact Near.one _) q); replace K1 := Lib.hid (K1.out.near (by first | exact Near.same _ | exact Near.one _) q); replace B := Lib.hid (Near.go (by first | exact Near.same _ | exact Near.one _) B.out q B.out.size); clear q; replace c00 := K0.out.at_ 0 _ rfl; replace c01 := K0.out.at_ 1 _ rfl; replace c02 := K0.out.at_ 2 _ rfl; replace c10 := K1.out.at_ 0 _ rfl; replace c11 := K1.out.at_ 1 _ rfl; replace c12 := K1.out.at_ 2 _ rfl)
    | fail "arm")
  go_ret2
  exact ⟨rfl, B.out⟩

set_option maxRecDepth 100000 in
set_option maxHeartbeats 2000000 in
theorem lpitch_bad (A C D F G H : ByteArray) (k : Int) (w : World)
    (hk : (k != 0) = true)
    (s1 : ∀ W, Below w.heap.size w W → Calls Tryz.prog 41 #[.agg #[.string A, .string C, .string D], .agg #[.string F, .string G, .string H]] W fun e w' => e = .returned (.int .i64 k) ∧ Below W.heap.size W w') :
    Calls Tryz.prog 24 #[.agg #[.string A, .string C, .string D], .agg #[.string F, .string G, .string H]] w fun e w' => e = .returned (.tuple #[.string ⟨#[]⟩, .int .i64 k]) ∧ Below w.heap.size w w' := by
  have S1 := Lib.hid s1
  clear s1
  have k0 := Blk.fresh w #[.string A, .string C, .string D] 34
  replace k0 := k0.alloc (Obj.cells #[.string F, .string G, .string H] 34)
  have k1 := Blk.fresh (w.alloc (Obj.cells #[.string A, .string C, .string D] 34)) #[.string F, .string G, .string H] 34
  rw [show (w.alloc (Obj.cells #[.string A, .string C, .string D] 34)).heap.size = w.heap.size + 1 from World.size_alloc ..] at k1
  have b0 : Below w.heap.size w ((w.alloc (Obj.cells #[.string A, .string C, .string D] 34)).alloc (Obj.cells #[.string F, .string G, .string H] 34)) := (((Below.refl _ _).alloc (Nat.le_refl _) _).alloc (by simp; try omega) _)
  have K0 := Lib.hid k0
  have K1 := Lib.hid k1
  have B := Lib.hid b0
  clear b0 k0 k1
  go_enter Tryz.func24, Tryz.ntmps24
  go_upto_region 1 with (fail)
  generalize ((w.alloc (Obj.cells #[.string A, .string C, .string D] 34)).alloc (Obj.cells #[.string F, .string G, .string H] 34)) = W0 at *
  have c00 := K0.out.at_ 0 _ rfl
  have c01 := K0.out.at_ 1 _ rfl
  have c02 := K0.out.at_ 2 _ rfl
  have c10 := K1.out.at_ 0 _ rfl
  have c11 := K1.out.at_ 1 _ rfl
  have c12 := K1.out.at_ 2 _ rfl
  go_wp2_with (first
    | (go_at_call 41; (with_reducible refine (S1.out _ (Near.base (by first | exact Near.same _ | exact Near.one _) B.out)).mono ?_); rintro e wx ⟨rfl, q⟩; replace K0 := Lib.hid (K0.out.near (by first | exact Near.same _ | exact Near.one _) q); replace K1 := Lib.hid (K1.out.near (by first | exact Near.same _ | exact Near.one _) q); replace B := Lib.hid (Near.go (by first | exact Near.same _ | exact Near.one _) B.out q B.out.size); clear q; replace c00 := K0.out.at_ 0 _ rfl; replace c01 := K0.out.at_ 1 _ rfl; replace c02 := K0.out.at_ 2 _ rfl; replace c10 := K1.out.at_ 0 _ rfl; replace c11 := K1.out.at_ 1 _ rfl; replace c12 := K1.out.at_ 2 _ rfl)
    | fail "arm")
  go_ret2
  exact ⟨rfl, B.out⟩

set_option maxRecDepth 100000 in
set_option maxHeartbeats 2000000 in
theorem linter_bad (A C D F G H : ByteArray) (k : Int) (w : World)
    (hk : (k != 0) = true)
    (s1 : ∀ W, Below w.heap.size w W → Calls Tryz.prog 41 #[.agg #[.string A, .string C, .string D], .agg #[.string F, .string G, .string H]] W fun e w' => e = .returned (.int .i64 k) ∧ Below W.heap.size W w') :
    Calls Tryz.prog 15 #[.agg #[.string A, .string C, .string D], .agg #[.string F, .string G, .string H]] w fun e w' => e = .returned (.tuple #[.int .i64 0, .int .i64 k]) ∧ Below w.heap.size w w' := by
  have S1 := Lib.hid s1
  clear s1
  have k0 := Blk.fresh w #[.string A, .string C, .string D] 34
  replace k0 := k0.alloc (Obj.cells #[.string F, .string G, .string H] 34)
  have k1 := Blk.fresh (w.alloc (Obj.cells #[.string A, .string C, .string D] 34)) #[.string F, .string G, .string H] 34
  rw [show (w.alloc (Obj.cells #[.string A, .string C, .string D] 34)).heap.size = w.heap.size + 1 from World.size_alloc ..] at k1
  have b0 : Below w.heap.size w ((w.alloc (Obj.cells #[.string A, .string C, .string D] 34)).alloc (Obj.cells #[.string F, .string G, .string H] 34)) := (((Below.refl _ _).alloc (Nat.le_refl _) _).alloc (by simp; try omega) _)
  have K0 := Lib.hid k0
  have K1 := Lib.hid k1
  have B := Lib.hid b0
  clear b0 k0 k1
  go_enter Tryz.func15, Tryz.ntmps15
  go_upto_region 1 with (fail)
  generalize ((w.alloc (Obj.cells #[.string A, .string C, .string D] 34)).alloc (Obj.cells #[.string F, .string G, .string H] 34)) = W0 at *
  have c00 := K0.out.at_ 0 _ rfl
  have c01 := K0.out.at_ 1 _ rfl
  have c02 := K0.out.at_ 2 _ rfl
  have c10 := K1.out.at_ 0 _ rfl
  have c11 := K1.out.at_ 1 _ rfl
  have c12 := K1.out.at_ 2 _ rfl
  go_wp2_with (first
    | (go_at_call 41; (with_reducible refine (S1.out _ (Near.base (by first | exact Near.same _ | exact Near.one _) B.out)).mono ?_); rintro e wx ⟨rfl, q⟩; replace K0 := Lib.hid (K0.out.near (by first | exact Near.same _ | exact Near.one _) q); replace K1 := Lib.hid (K1.out.near (by first | exact Near.same _ | exact Near.one _) q); replace B := Lib.hid (Near.go (by first | exact Near.same _ | exact Near.one _) B.out q B.out.size); clear q; replace c00 := K0.out.at_ 0 _ rfl; replace c01 := K0.out.at_ 1 _ rfl; replace c02 := K0.out.at_ 2 _ rfl; replace c10 := K1.out.at_ 0 _ rfl; replace c11 := K1.out.at_ 1 _ rfl; replace c12 := K1.out.at_ 2 _ rfl)
    | fail "arm")
  go_ret2
  exact ⟨rfl, B.out⟩

set_option maxRecDepth 100000 in
set_option maxHeartbeats 2000000 in
theorem lisect_bad (A C D F G H : ByteArray) (k : Int) (w : World)
    (hk : (k != 0) = true)
    (s1 : ∀ W, Below w.heap.size w W → Calls Tryz.prog 41 #[.agg #[.string A, .string C, .string D], .agg #[.string F, .string G, .string H]] W fun e w' => e = .returned (.int .i64 k) ∧ Below W.heap.size W w') :
    Calls Tryz.prog 23 #[.agg #[.string A, .string C, .string D], .agg #[.string F, .string G, .string H]] w fun e w' => e = .returned (.tuple #[.agg #[.string ⟨#[]⟩, .string ⟨#[]⟩, .string ⟨#[]⟩], .int .i64 k]) ∧ Below w.heap.size w w' := by
  have S1 := Lib.hid s1
  clear s1
  have k0 := Blk.fresh w #[.string A, .string C, .string D] 34
  replace k0 := k0.alloc (Obj.cells #[.string F, .string G, .string H] 34)
  replace k0 := k0.alloc (Obj.cells #[.string ⟨#[]⟩, .string ⟨#[]⟩, .string ⟨#[]⟩] 34)
  have k1 := Blk.fresh (w.alloc (Obj.cells #[.string A, .string C, .string D] 34)) #[.string F, .string G, .string H] 34
  rw [show (w.alloc (Obj.cells #[.string A, .string C, .string D] 34)).heap.size = w.heap.size + 1 from World.size_alloc ..] at k1
  replace k1 := k1.alloc (Obj.cells #[.string ⟨#[]⟩, .string ⟨#[]⟩, .string ⟨#[]⟩] 34)
  have k2 := Blk.fresh ((w.alloc (Obj.cells #[.string A, .string C, .string D] 34)).alloc (Obj.cells #[.string F, .string G, .string H] 34)) #[.string ⟨#[]⟩, .string ⟨#[]⟩, .string ⟨#[]⟩] 34
  rw [show ((w.alloc (Obj.cells #[.string A, .string C, .string D] 34)).alloc (Obj.cells #[.string F, .string G, .string H] 34)).heap.size = w.heap.size + 2 from by simp] at k2
  have b0 : Below w.heap.size w (((w.alloc (Obj.cells #[.string A, .string C, .string D] 34)).alloc (Obj.cells #[.string F, .string G, .string H] 34)).alloc (Obj.cells #[.string ⟨#[]⟩, .string ⟨#[]⟩, .string ⟨#[]⟩] 34)) := ((((Below.refl _ _).alloc (Nat.le_refl _) _).alloc (by simp; try omega) _).alloc (by simp; try omega) _)
  have K0 := Lib.hid k0
  have K1 := Lib.hid k1
  have K2 := Lib.hid k2
  have B := Lib.hid b0
  clear b0 k0 k1 k2
  go_enter Tryz.func23, Tryz.ntmps23
  go_upto_region 1 with (fail)
  generalize (((w.alloc (Obj.cells #[.string A, .string C, .string D] 34)).alloc (Obj.cells #[.string F, .string G, .string H] 34)).alloc (Obj.cells #[.string ⟨#[]⟩, .string ⟨#[]⟩, .string ⟨#[]⟩] 34)) = W0 at *
  have c00 := K0.out.at_ 0 _ rfl
  have c01 := K0.out.at_ 1 _ rfl
  have c02 := K0.out.at_ 2 _ rfl
  have c10 := K1.out.at_ 0 _ rfl
  have c11 := K1.out.at_ 1 _ rfl
  have c12 := K1.out.at_ 2 _ rfl
  have c20 := K2.out.at_ 0 _ rfl
  have c21 := K2.out.at_ 1 _ rfl
  have c22 := K2.out.at_ 2 _ rfl
  have z20 := K2.out.free 0
  have z21 := K2.out.free 1
  have z22 := K2.out.free 2
  go_wp2_with (first
    | (go_at_call 41; (with_reducible refine (S1.out _ (Near.base (by first | exact Near.same _ | exact Near.one _) B.out)).mono ?_); rintro e wx ⟨rfl, q⟩; replace K0 := Lib.hid (K0.out.near (by first | exact Near.same _ | exact Near.one _) q); replace K1 := Lib.hid (K1.out.near (by first | exact Near.same _ | exact Near.one _) q); replace K2 := Lib.hid (K2.out.near (by first | exact Near.same _ | exact Near.one _) q); replace B := Lib.hid (Near.go (by first | exact Near.same _ | exact Near.one _) B.out q B.out.size); clear q; replace c00 := K0.out.at_ 0 _ rfl; replace c01 := K0.out.at_ 1 _ rfl; replace c02 := K0.out.at_ 2 _ rfl; replace c10 := K1.out.at_ 0 _ rfl; replace c11 := K1.out.at_ 1 _ rfl; replace c12 := K1.out.at_ 2 _ rfl; replace c20 := K2.out.at_ 0 _ rfl; replace c21 := K2.out.at_ 1 _ rfl; replace c22 := K2.out.at_ 2 _ rfl; replace z20 := K2.out.free 0; replace z21 := K2.out.free 1; replace z22 := K2.out.free 2)
    | fail "arm")
  have R3 := K2.out.set3 (.string ⟨#[]⟩) (.string ⟨#[]⟩) (.string ⟨#[]⟩)
  have B3 := Lib.hid (B.out.trans (below_else3 wx w.heap.size (w.heap.size + 2) (by omega) (.string ⟨#[]⟩) (.string ⟨#[]⟩) (.string ⟨#[]⟩)))
  generalize (((wx.setCell ⟨w.heap.size + 2, 0, none⟩ (.string ⟨#[]⟩)).setCell ⟨w.heap.size + 2, 1, none⟩ (.string ⟨#[]⟩)).setCell ⟨w.heap.size + 2, 2, none⟩ (.string ⟨#[]⟩)) = W3 at *
  have e0 := R3.at_ 0 _ rfl
  have e1 := R3.at_ 1 _ rfl
  have e2 := R3.at_ 2 _ rfl
  clear R3
  exact bodyPost_ret (v := .tuple #[.agg #[.string ⟨#[]⟩, .string ⟨#[]⟩, .string ⟨#[]⟩], .int .i64 k]) (by rw [results_cell_tmp Tryz.results23]; simp [go_sem, e0, e1, e2]) rfl ⟨rfl, B3.out⟩

set_option maxRecDepth 100000 in
set_option maxHeartbeats 2000000 in
theorem ltrend_bad (X Y Z : ByteArray) (k : Int) (w : World)
    (hk : (k != 0) = true)
    (s1 : ∀ W, Below w.heap.size w W → Calls Tryz.prog 39 #[.agg #[.string X, .string Y, .string Z]] W fun e w' => e = .returned (.int .i64 k) ∧ Below W.heap.size W w') :
    Calls Tryz.prog 31 #[.agg #[.string X, .string Y, .string Z]] w fun e w' => e = .returned (.tuple #[.int .i64 0, .int .i64 k]) ∧ Below w.heap.size w w' := by
  have S1 := Lib.hid s1
  clear s1
  have k0 := Blk.fresh w #[.string X, .string Y, .string Z] 34
  have b0 : Below w.heap.size w (w.alloc (Obj.cells #[.string X, .string Y, .string Z] 34)) := ((Below.refl _ _).alloc (Nat.le_refl _) _)
  have K0 := Lib.hid k0
  have B := Lib.hid b0
  clear b0 k0
  go_enter Tryz.func31, Tryz.ntmps31
  go_upto_region 1 with (fail)
  generalize (w.alloc (Obj.cells #[.string X, .string Y, .string Z] 34)) = W0 at *
  have c00 := K0.out.at_ 0 _ rfl
  have c01 := K0.out.at_ 1 _ rfl
  have c02 := K0.out.at_ 2 _ rfl
  go_wp2_with (first
    | (go_at_call 39; (with_reducible refine (S1.out _ (Near.base (by first | exact Near.same _ | exact Near.one _) B.out)).mono ?_); rintro e wx ⟨rfl, q⟩; replace K0 := Lib.hid (K0.out.near (by first | exact Near.same _ | exact Near.one _) q); replace B := Lib.hid (Near.go (by first | exact Near.same _ | exact Near.one _) B.out q B.out.size); clear q; replace c00 := K0.out.at_ 0 _ rfl; replace c01 := K0.out.at_ 1 _ rfl; replace c02 := K0.out.at_ 2 _ rfl)
    | fail "arm")
  go_ret2
  exact ⟨rfl, B.out⟩

set_option maxRecDepth 100000 in
set_option maxHeartbeats 2000000 in
theorem lplunge_bad (X Y Z : ByteArray) (k : Int) (w : World)
    (hk : (k != 0) = true)
    (s1 : ∀ W, Below w.heap.size w W → Calls Tryz.prog 39 #[.agg #[.string X, .string Y, .string Z]] W fun e w' => e = .returned (.int .i64 k) ∧ Below W.heap.size W w') :
    Calls Tryz.prog 35 #[.agg #[.string X, .string Y, .string Z]] w fun e w' => e = .returned (.tuple #[.string ⟨#[]⟩, .bool false, .int .i64 k]) ∧ Below w.heap.size w w' := by
  have S1 := Lib.hid s1
  clear s1
  have k0 := Blk.fresh w #[.string X, .string Y, .string Z] 34
  have b0 : Below w.heap.size w (w.alloc (Obj.cells #[.string X, .string Y, .string Z] 34)) := ((Below.refl _ _).alloc (Nat.le_refl _) _)
  have K0 := Lib.hid k0
  have B := Lib.hid b0
  clear b0 k0
  go_enter Tryz.func35, Tryz.ntmps35
  go_upto_region 1 with (fail)
  generalize (w.alloc (Obj.cells #[.string X, .string Y, .string Z] 34)) = W0 at *
  have c00 := K0.out.at_ 0 _ rfl
  have c01 := K0.out.at_ 1 _ rfl
  have c02 := K0.out.at_ 2 _ rfl
  go_wp2_with (first
    | (go_at_call 39; (with_reducible refine (S1.out _ (Near.base (by first | exact Near.same _ | exact Near.one _) B.out)).mono ?_); rintro e wx ⟨rfl, q⟩; replace K0 := Lib.hid (K0.out.near (by first | exact Near.same _ | exact Near.one _) q); replace B := Lib.hid (Near.go (by first | exact Near.same _ | exact Near.one _) B.out q B.out.size); clear q; replace c00 := K0.out.at_ 0 _ rfl; replace c01 := K0.out.at_ 1 _ rfl; replace c02 := K0.out.at_ 2 _ rfl)
    | fail "arm")
  go_ret3
  exact ⟨rfl, B.out⟩

set_option maxRecDepth 100000 in
set_option maxHeartbeats 2000000 in
theorem lof_bad (X Y Z : ByteArray) (k : Int) (w : World)
    (hk : (k != 0) = true)
    (s1 : ∀ W, Below w.heap.size w W → Calls Tryz.prog 39 #[.agg #[.string X, .string Y, .string Z]] W fun e w' => e = .returned (.int .i64 k) ∧ Below W.heap.size W w') :
    Calls Tryz.prog 18 #[.agg #[.string X, .string Y, .string Z]] w fun e w' => e = .returned (.tuple #[.agg #[.string ⟨#[]⟩, .string ⟨#[]⟩, .string ⟨#[]⟩], .int .i64 k]) ∧ Below w.heap.size w w' := by
  have S1 := Lib.hid s1
  clear s1
  have k0 := Blk.fresh w #[.string X, .string Y, .string Z] 34
  replace k0 := k0.alloc (Obj.cells #[.string ⟨#[]⟩, .string ⟨#[]⟩, .string ⟨#[]⟩] 34)
  have k1 := Blk.fresh (w.alloc (Obj.cells #[.string X, .string Y, .string Z] 34)) #[.string ⟨#[]⟩, .string ⟨#[]⟩, .string ⟨#[]⟩] 34
  rw [show (w.alloc (Obj.cells #[.string X, .string Y, .string Z] 34)).heap.size = w.heap.size + 1 from World.size_alloc ..] at k1
  have b0 : Below w.heap.size w ((w.alloc (Obj.cells #[.string X, .string Y, .string Z] 34)).alloc (Obj.cells #[.string ⟨#[]⟩, .string ⟨#[]⟩, .string ⟨#[]⟩] 34)) := (((Below.refl _ _).alloc (Nat.le_refl _) _).alloc (by simp; try omega) _)
  have K0 := Lib.hid k0
  have K1 := Lib.hid k1
  have B := Lib.hid b0
  clear b0 k0 k1
  go_enter Tryz.func18, Tryz.ntmps18
  go_upto_region 1 with (fail)
  generalize ((w.alloc (Obj.cells #[.string X, .string Y, .string Z] 34)).alloc (Obj.cells #[.string ⟨#[]⟩, .string ⟨#[]⟩, .string ⟨#[]⟩] 34)) = W0 at *
  have c00 := K0.out.at_ 0 _ rfl
  have c01 := K0.out.at_ 1 _ rfl
  have c02 := K0.out.at_ 2 _ rfl
  have c10 := K1.out.at_ 0 _ rfl
  have c11 := K1.out.at_ 1 _ rfl
  have c12 := K1.out.at_ 2 _ rfl
  have z10 := K1.out.free 0
  have z11 := K1.out.free 1
  have z12 := K1.out.free 2
  go_wp2_with (first
    | (go_at_call 39; (with_reducible refine (S1.out _ (Near.base (by first | exact Near.same _ | exact Near.one _) B.out)).mono ?_); rintro e wx ⟨rfl, q⟩; replace K0 := Lib.hid (K0.out.near (by first | exact Near.same _ | exact Near.one _) q); replace K1 := Lib.hid (K1.out.near (by first | exact Near.same _ | exact Near.one _) q); replace B := Lib.hid (Near.go (by first | exact Near.same _ | exact Near.one _) B.out q B.out.size); clear q; replace c00 := K0.out.at_ 0 _ rfl; replace c01 := K0.out.at_ 1 _ rfl; replace c02 := K0.out.at_ 2 _ rfl; replace c10 := K1.out.at_ 0 _ rfl; replace c11 := K1.out.at_ 1 _ rfl; replace c12 := K1.out.at_ 2 _ rfl; replace z10 := K1.out.free 0; replace z11 := K1.out.free 1; replace z12 := K1.out.free 2)
    | fail "arm")
  have R3 := K1.out.set3 (.string ⟨#[]⟩) (.string ⟨#[]⟩) (.string ⟨#[]⟩)
  have B3 := Lib.hid (B.out.trans (below_else3 wx w.heap.size (w.heap.size + 1) (by omega) (.string ⟨#[]⟩) (.string ⟨#[]⟩) (.string ⟨#[]⟩)))
  generalize (((wx.setCell ⟨w.heap.size + 1, 0, none⟩ (.string ⟨#[]⟩)).setCell ⟨w.heap.size + 1, 1, none⟩ (.string ⟨#[]⟩)).setCell ⟨w.heap.size + 1, 2, none⟩ (.string ⟨#[]⟩)) = W3 at *
  have e0 := R3.at_ 0 _ rfl
  have e1 := R3.at_ 1 _ rfl
  have e2 := R3.at_ 2 _ rfl
  clear R3
  exact bodyPost_ret (v := .tuple #[.agg #[.string ⟨#[]⟩, .string ⟨#[]⟩, .string ⟨#[]⟩], .int .i64 k]) (by rw [results_cell_tmp Tryz.results18]; simp [go_sem, e0, e1, e2]) rfl ⟨rfl, B3.out⟩

set_option maxRecDepth 100000 in
set_option maxHeartbeats 2000000 in
theorem lof_ok (X Y Z X1 Y1 Z1 : ByteArray) (w : World)
    (s1 : ∀ W, Below w.heap.size w W → Calls Tryz.prog 39 #[.agg #[.string X, .string Y, .string Z]] W fun e w' => e = .returned (.int .i64 0) ∧ Below W.heap.size W w')
    (s2 : ∀ W, Below w.heap.size w W → Calls Tryz.prog 47 #[.agg #[.string X, .string Y, .string Z]] W fun e w' => e = .returned (.agg #[.string X1, .string Y1, .string Z1]) ∧ Below W.heap.size W w')
    (s3 : ∀ W, Below w.heap.size w W → Calls Tryz.prog 46 #[.agg #[.string X1, .string Y1, .string Z1]] W fun e w' => e = .returned (.tuple #[.agg #[.string X1, .string Y1, .string Z1], .int .i64 0]) ∧ Below W.heap.size W w') :
    Calls Tryz.prog 18 #[.agg #[.string X, .string Y, .string Z]] w fun e w' => e = .returned (.tuple #[.agg #[.string X1, .string Y1, .string Z1], .int .i64 0]) ∧ Below w.heap.size w w' := by
  have S1 := Lib.hid s1
  have S2 := Lib.hid s2
  have S3 := Lib.hid s3
  clear s1 s2 s3
  have k0 := Blk.fresh w #[.string X, .string Y, .string Z] 34
  replace k0 := k0.alloc (Obj.cells #[.string ⟨#[]⟩, .string ⟨#[]⟩, .string ⟨#[]⟩] 34)
  have k1 := Blk.fresh (w.alloc (Obj.cells #[.string X, .string Y, .string Z] 34)) #[.string ⟨#[]⟩, .string ⟨#[]⟩, .string ⟨#[]⟩] 34
  rw [show (w.alloc (Obj.cells #[.string X, .string Y, .string Z] 34)).heap.size = w.heap.size + 1 from World.size_alloc ..] at k1
  have b0 : Below w.heap.size w ((w.alloc (Obj.cells #[.string X, .string Y, .string Z] 34)).alloc (Obj.cells #[.string ⟨#[]⟩, .string ⟨#[]⟩, .string ⟨#[]⟩] 34)) := (((Below.refl _ _).alloc (Nat.le_refl _) _).alloc (by simp; try omega) _)
  have K0 := Lib.hid k0
  have K1 := Lib.hid k1
  have B := Lib.hid b0
  clear b0 k0 k1
  go_enter Tryz.func18, Tryz.ntmps18
  go_upto_region 1 with (fail)
  generalize ((w.alloc (Obj.cells #[.string X, .string Y, .string Z] 34)).alloc (Obj.cells #[.string ⟨#[]⟩, .string ⟨#[]⟩, .string ⟨#[]⟩] 34)) = W0 at *
  have c00 := K0.out.at_ 0 _ rfl
  have c01 := K0.out.at_ 1 _ rfl
  have c02 := K0.out.at_ 2 _ rfl
  have c10 := K1.out.at_ 0 _ rfl
  have c11 := K1.out.at_ 1 _ rfl
  have c12 := K1.out.at_ 2 _ rfl
  have z10 := K1.out.free 0
  have z11 := K1.out.free 1
  have z12 := K1.out.free 2
  go_wp2_with (first
    | (go_at_call 39; (with_reducible refine (S1.out _ (Near.base (by first | exact Near.same _ | exact Near.one _) B.out)).mono ?_); rintro e wx ⟨rfl, q⟩; replace K0 := Lib.hid (K0.out.near (by first | exact Near.same _ | exact Near.one _) q); replace K1 := Lib.hid (K1.out.near (by first | exact Near.same _ | exact Near.one _) q); replace B := Lib.hid (Near.go (by first | exact Near.same _ | exact Near.one _) B.out q B.out.size); clear q; replace c00 := K0.out.at_ 0 _ rfl; replace c01 := K0.out.at_ 1 _ rfl; replace c02 := K0.out.at_ 2 _ rfl; replace c10 := K1.out.at_ 0 _ rfl; replace c11 := K1.out.at_ 1 _ rfl; replace c12 := K1.out.at_ 2 _ rfl; replace z10 := K1.out.free 0; replace z11 := K1.out.free 1; replace z12 := K1.out.free 2)
    | (go_at_call 47; (with_reducible refine (S2.out _ (Near.base (by first | exact Near.same _ | exact Near.one _) B.out)).mono ?_); rintro e wx ⟨rfl, q⟩; replace K0 := Lib.hid (K0.out.near (by first | exact Near.same _ | exact Near.one _) q); replace K1 := Lib.hid (K1.out.near (by first | exact Near.same _ | exact Near.one _) q); replace B := Lib.hid (Near.go (by first | exact Near.same _ | exact Near.one _) B.out q B.out.size); clear q; replace c00 := K0.out.at_ 0 _ rfl; replace c01 := K0.out.at_ 1 _ rfl; replace c02 := K0.out.at_ 2 _ rfl; replace c10 := K1.out.at_ 0 _ rfl; replace c11 := K1.out.at_ 1 _ rfl; replace c12 := K1.out.at_ 2 _ rfl; replace z10 := K1.out.free 0; replace z11 := K1.out.free 1; replace z12 := K1.out.free 2)
    | (go_at_call 46; (with_reducible refine (S3.out _ (Near.base (by first | exact Near.same _ | exact Near.one _) B.out)).mono ?_); rintro e wx ⟨rfl, q⟩; replace K0 := Lib.hid (K0.out.near (by first | exact Near.same _ | exact Near.one _) q); replace K1 := Lib.hid (K1.out.near (by first | exact Near.same _ | exact Near.one _) q); replace B := Lib.hid (Near.go (by first | exact Near.same _ | exact Near.one _) B.out q B.out.size); clear q; replace c00 := K0.out.at_ 0 _ rfl; replace c01 := K0.out.at_ 1 _ rfl; replace c02 := K0.out.at_ 2 _ rfl; replace c10 := K1.out.at_ 0 _ rfl; replace c11 := K1.out.at_ 1 _ rfl; replace c12 := K1.out.at_ 2 _ rfl; replace z10 := K1.out.free 0; replace z11 := K1.out.free 1; replace z12 := K1.out.free 2)
    | fail "arm")
  have R3 := K1.out.set3 (.string X1) (.string Y1) (.string Z1)
  have B3 := Lib.hid (B.out.trans (below_else3 wx w.heap.size (w.heap.size + 1) (by omega) (.string X1) (.string Y1) (.string Z1)))
  generalize (((wx.setCell ⟨w.heap.size + 1, 0, none⟩ (.string X1)).setCell ⟨w.heap.size + 1, 1, none⟩ (.string Y1)).setCell ⟨w.heap.size + 1, 2, none⟩ (.string Z1)) = W3 at *
  have e0 := R3.at_ 0 _ rfl
  have e1 := R3.at_ 1 _ rfl
  have e2 := R3.at_ 2 _ rfl
  clear R3
  exact bodyPost_ret (v := .tuple #[.agg #[.string X1, .string Y1, .string Z1], .int .i64 0]) (by rw [results_cell_tmp Tryz.results18]; simp [go_sem, e0, e1, e2]) rfl ⟨rfl, B3.out⟩

set_option maxRecDepth 100000 in
set_option maxHeartbeats 2000000 in
theorem lsame_ok (A C D F G H Q1 Q2 Q3 : ByteArray) (b : Bool) (w : World)
    (s1 : ∀ W, Below w.heap.size w W → Calls Tryz.prog 41 #[.agg #[.string A, .string C, .string D], .agg #[.string F, .string G, .string H]] W fun e w' => e = .returned (.int .i64 0) ∧ Below W.heap.size W w')
    (s2 : ∀ W, Below w.heap.size w W → Calls Tryz.prog 49 #[.agg #[.string A, .string C, .string D], .agg #[.string F, .string G, .string H]] W fun e w' => e = .returned (.agg #[.string Q1, .string Q2, .string Q3]) ∧ Below W.heap.size W w')
    (s3 : ∀ W, Below w.heap.size w W → Calls Tryz.prog 48 #[.agg #[.string Q1, .string Q2, .string Q3]] W fun e w' => e = .returned (.bool b) ∧ Below W.heap.size W w') :
    Calls Tryz.prog 19 #[.agg #[.string A, .string C, .string D], .agg #[.string F, .string G, .string H]] w fun e w' => e = .returned (.tuple #[.bool b, .int .i64 0]) ∧ Below w.heap.size w w' := by
  have S1 := Lib.hid s1
  have S2 := Lib.hid s2
  have S3 := Lib.hid s3
  clear s1 s2 s3
  have k0 := Blk.fresh w #[.string A, .string C, .string D] 34
  replace k0 := k0.alloc (Obj.cells #[.string F, .string G, .string H] 34)
  have k1 := Blk.fresh (w.alloc (Obj.cells #[.string A, .string C, .string D] 34)) #[.string F, .string G, .string H] 34
  rw [show (w.alloc (Obj.cells #[.string A, .string C, .string D] 34)).heap.size = w.heap.size + 1 from World.size_alloc ..] at k1
  have b0 : Below w.heap.size w ((w.alloc (Obj.cells #[.string A, .string C, .string D] 34)).alloc (Obj.cells #[.string F, .string G, .string H] 34)) := (((Below.refl _ _).alloc (Nat.le_refl _) _).alloc (by simp; try omega) _)
  have K0 := Lib.hid k0
  have K1 := Lib.hid k1
  have B := Lib.hid b0
  clear b0 k0 k1
  go_enter Tryz.func19, Tryz.ntmps19
  go_upto_region 1 with (fail)
  generalize ((w.alloc (Obj.cells #[.string A, .string C, .string D] 34)).alloc (Obj.cells #[.string F, .string G, .string H] 34)) = W0 at *
  have c00 := K0.out.at_ 0 _ rfl
  have c01 := K0.out.at_ 1 _ rfl
  have c02 := K0.out.at_ 2 _ rfl
  have c10 := K1.out.at_ 0 _ rfl
  have c11 := K1.out.at_ 1 _ rfl
  have c12 := K1.out.at_ 2 _ rfl
  go_wp2_with (first
    | (go_at_call 41; (with_reducible refine (S1.out _ (Near.base (by first | exact Near.same _ | exact Near.one _) B.out)).mono ?_); rintro e wx ⟨rfl, q⟩; replace K0 := Lib.hid (K0.out.near (by first | exact Near.same _ | exact Near.one _) q); replace K1 := Lib.hid (K1.out.near (by first | exact Near.same _ | exact Near.one _) q); replace B := Lib.hid (Near.go (by first | exact Near.same _ | exact Near.one _) B.out q B.out.size); clear q; replace c00 := K0.out.at_ 0 _ rfl; replace c01 := K0.out.at_ 1 _ rfl; replace c02 := K0.out.at_ 2 _ rfl; replace c10 := K1.out.at_ 0 _ rfl; replace c11 := K1.out.at_ 1 _ rfl; replace c12 := K1.out.at_ 2 _ rfl)
    | (go_at_call 49; (with_reducible refine (S2.out _ (Near.base (by first | exact Near.same _ | exact Near.one _) B.out)).mono ?_); rintro e wx ⟨rfl, q⟩; replace K0 := Lib.hid (K0.out.near (by first | exact Near.same _ | exact Near.one _) q); replace K1 := Lib.hid (K1.out.near (by first | exact Near.same _ | exact Near.one _) q); replace B := Lib.hid (Near.go (by first | exact Near.same _ | exact Near.one _) B.out q B.out.size); clear q; replace c00 := K0.out.at_ 0 _ rfl; replace c01 := K0.out.at_ 1 _ rfl; replace c02 := K0.out.at_ 2 _ rfl; replace c10 := K1.out.at_ 0 _ rfl; replace c11 := K1.out.at_ 1 _ rfl; replace c12 := K1.out.at_ 2 _ rfl)
    | (go_at_call 48; (with_reducible refine (S3.out _ (Near.base (by first | exact Near.same _ | exact Near.one _) B.out)).mono ?_); rintro e wx ⟨rfl, q⟩; replace K0 := Lib.hid (K0.out.near (by first | exact Near.same _ | exact Near.one _) q); replace K1 := Lib.hid (K1.out.near (by first | exact Near.same _ | exact Near.one _) q); replace B := Lib.hid (Near.go (by first | exact Near.same _ | exact Near.one _) B.out q B.out.size); clear q; replace c00 := K0.out.at_ 0 _ rfl; replace c01 := K0.out.at_ 1 _ rfl; replace c02 := K0.out.at_ 2 _ rfl; replace c10 := K1.out.at_ 0 _ rfl; replace c11 := K1.out.at_ 1 _ rfl; replace c12 := K1.out.at_ 2 _ rfl)
    | fail "arm")
  go_ret2
  exact ⟨rfl, B.out⟩

set_option maxRecDepth 100000 in
set_option maxHeartbeats 2000000 in
theorem langle_ok (A C D F G H R : ByteArray) (w : World)
    (s1 : ∀ W, Below w.heap.size w W → Calls Tryz.prog 41 #[.agg #[.string A, .string C, .string D], .agg #[.string F, .string G, .string H]] W fun e w' => e = .returned (.int .i64 0) ∧ Below W.heap.size W w')
    (s2 : ∀ W, Below w.heap.size w W → Calls Tryz.prog 42 #[.agg #[.string A, .string C, .string D], .agg #[.string F, .string G, .string H]] W fun e w' => e = .returned (.string R) ∧ Below W.heap.size W w')
    (s3 : ∀ W, Below w.heap.size w W → Calls Tryz.prog 51 #[.string R] W fun e w' => e = .returned (.tuple #[.string R, .int .i64 0]) ∧ Below W.heap.size W w') :
    Calls Tryz.prog 27 #[.agg #[.string A, .string C, .string D], .agg #[.string F, .string G, .string H]] w fun e w' => e = .returned (.tuple #[.string R, .int .i64 0]) ∧ Below w.heap.size w w' := by
  have S1 := Lib.hid s1
  have S2 := Lib.hid s2
  have S3 := Lib.hid s3
  clear s1 s2 s3
  have k0 := Blk.fresh w #[.string A, .string C, .string D] 34
  replace k0 := k0.alloc (Obj.cells #[.string F, .string G, .string H] 34)
  have k1 := Blk.fresh (w.alloc (Obj.cells #[.string A, .string C, .string D] 34)) #[.string F, .string G, .string H] 34
  rw [show (w.alloc (Obj.cells #[.string A, .string C, .string D] 34)).heap.size = w.heap.size + 1 from World.size_alloc ..] at k1
  have b0 : Below w.heap.size w ((w.alloc (Obj.cells #[.string A, .string C, .string D] 34)).alloc (Obj.cells #[.string F, .string G, .string H] 34)) := (((Below.refl _ _).alloc (Nat.le_refl _) _).alloc (by simp; try omega) _)
  have K0 := Lib.hid k0
  have K1 := Lib.hid k1
  have B := Lib.hid b0
  clear b0 k0 k1
  go_enter Tryz.func27, Tryz.ntmps27
  go_upto_region 1 with (fail)
  generalize ((w.alloc (Obj.cells #[.string A, .string C, .string D] 34)).alloc (Obj.cells #[.string F, .string G, .string H] 34)) = W0 at *
  have c00 := K0.out.at_ 0 _ rfl
  have c01 := K0.out.at_ 1 _ rfl
  have c02 := K0.out.at_ 2 _ rfl
  have c10 := K1.out.at_ 0 _ rfl
  have c11 := K1.out.at_ 1 _ rfl
  have c12 := K1.out.at_ 2 _ rfl
  go_wp2_with (first
    | (go_at_call 41; (with_reducible refine (S1.out _ (Near.base (by first | exact Near.same _ | exact Near.one _) B.out)).mono ?_); rintro e wx ⟨rfl, q⟩; replace K0 := Lib.hid (K0.out.near (by first | exact Near.same _ | exact Near.one _) q); replace K1 := Lib.hid (K1.out.near (by first | exact Near.same _ | exact Near.one _) q); replace B := Lib.hid (Near.go (by first | exact Near.same _ | exact Near.one _) B.out q B.out.size); clear q; replace c00 := K0.out.at_ 0 _ rfl; replace c01 := K0.out.at_ 1 _ rfl; replace c02 := K0.out.at_ 2 _ rfl; replace c10 := K1.out.at_ 0 _ rfl; replace c11 := K1.out.at_ 1 _ rfl; replace c12 := K1.out.at_ 2 _ rfl)
    | (go_at_call 42; (with_reducible refine (S2.out _ (Near.base (by first | exact Near.same _ | exact Near.one _) B.out)).mono ?_); rintro e wx ⟨rfl, q⟩; replace K0 := Lib.hid (K0.out.near (by first | exact Near.same _ | exact Near.one _) q); replace K1 := Lib.hid (K1.out.near (by first | exact Near.same _ | exact Near.one _) q); replace B := Lib.hid (Near.go (by first | exact Near.same _ | exact Near.one _) B.out q B.out.size); clear q; replace c00 := K0.out.at_ 0 _ rfl; replace c01 := K0.out.at_ 1 _ rfl; replace c02 := K0.out.at_ 2 _ rfl; replace c10 := K1.out.at_ 0 _ rfl; replace c11 := K1.out.at_ 1 _ rfl; replace c12 := K1.out.at_ 2 _ rfl)
    | (go_at_call 51; (with_reducible refine (S3.out _ (Near.base (by first | exact Near.same _ | exact Near.one _) B.out)).mono ?_); rintro e wx ⟨rfl, q⟩; replace K0 := Lib.hid (K0.out.near (by first | exact Near.same _ | exact Near.one _) q); replace K1 := Lib.hid (K1.out.near (by first | exact Near.same _ | exact Near.one _) q); replace B := Lib.hid (Near.go (by first | exact Near.same _ | exact Near.one _) B.out q B.out.size); clear q; replace c00 := K0.out.at_ 0 _ rfl; replace c01 := K0.out.at_ 1 _ rfl; replace c02 := K0.out.at_ 2 _ rfl; replace c10 := K1.out.at_ 0 _ rfl; replace c11 := K1.out.at_ 1 _ rfl; replace c12 := K1.out.at_ 2 _ rfl)
    | fail "arm")
  go_ret2
  exact ⟨rfl, B.out⟩

set_option maxRecDepth 100000 in
set_option maxHeartbeats 2000000 in
theorem llies_ok (A C D F G H R : ByteArray) (b : Bool) (w : World)
    (s1 : ∀ W, Below w.heap.size w W → Calls Tryz.prog 41 #[.agg #[.string A, .string C, .string D], .agg #[.string F, .string G, .string H]] W fun e w' => e = .returned (.int .i64 0) ∧ Below W.heap.size W w')
    (s2 : ∀ W, Below w.heap.size w W → Calls Tryz.prog 44 #[.agg #[.string A, .string C, .string D], .agg #[.string F, .string G, .string H]] W fun e w' => e = .returned (.string R) ∧ Below W.heap.size W w')
    (hb : (R.toList == [48]) = b) :
    Calls Tryz.prog 22 #[.agg #[.string A, .string C, .string D], .agg #[.string F, .string G, .string H]] w fun e w' => e = .returned (.tuple #[.bool b, .int .i64 0]) ∧ Below w.heap.size w w' := by
  obtain ⟨b1, b2⟩ := zero_eq R _ hb
  clear hb
  have S1 := Lib.hid s1
  have S2 := Lib.hid s2
  clear s1 s2
  have k0 := Blk.fresh w #[.string A, .string C, .string D] 34
  replace k0 := k0.alloc (Obj.cells #[.string F, .string G, .string H] 34)
  have k1 := Blk.fresh (w.alloc (Obj.cells #[.string A, .string C, .string D] 34)) #[.string F, .string G, .string H] 34
  rw [show (w.alloc (Obj.cells #[.string A, .string C, .string D] 34)).heap.size = w.heap.size + 1 from World.size_alloc ..] at k1
  have b0 : Below w.heap.size w ((w.alloc (Obj.cells #[.string A, .string C, .string D] 34)).alloc (Obj.cells #[.string F, .string G, .string H] 34)) := (((Below.refl _ _).alloc (Nat.le_refl _) _).alloc (by simp; try omega) _)
  have K0 := Lib.hid k0
  have K1 := Lib.hid k1
  have B := Lib.hid b0
  clear b0 k0 k1
  go_enter Tryz.func22, Tryz.ntmps22
  go_upto_region 1 with (fail)
  generalize ((w.alloc (Obj.cells #[.string A, .string C, .string D] 34)).alloc (Obj.cells #[.string F, .string G, .string H] 34)) = W0 at *
  have c00 := K0.out.at_ 0 _ rfl
  have c01 := K0.out.at_ 1 _ rfl
  have c02 := K0.out.at_ 2 _ rfl
  have c10 := K1.out.at_ 0 _ rfl
  have c11 := K1.out.at_ 1 _ rfl
  have c12 := K1.out.at_ 2 _ rfl
  go_wp2_with (first
    | (go_at_call 41; (with_reducible refine (S1.out _ (Near.base (by first | exact Near.same _ | exact Near.one _) B.out)).mono ?_); rintro e wx ⟨rfl, q⟩; replace K0 := Lib.hid (K0.out.near (by first | exact Near.same _ | exact Near.one _) q); replace K1 := Lib.hid (K1.out.near (by first | exact Near.same _ | exact Near.one _) q); replace B := Lib.hid (Near.go (by first | exact Near.same _ | exact Near.one _) B.out q B.out.size); clear q; replace c00 := K0.out.at_ 0 _ rfl; replace c01 := K0.out.at_ 1 _ rfl; replace c02 := K0.out.at_ 2 _ rfl; replace c10 := K1.out.at_ 0 _ rfl; replace c11 := K1.out.at_ 1 _ rfl; replace c12 := K1.out.at_ 2 _ rfl)
    | (go_at_call 44; (with_reducible refine (S2.out _ (Near.base (by first | exact Near.same _ | exact Near.one _) B.out)).mono ?_); rintro e wx ⟨rfl, q⟩; replace K0 := Lib.hid (K0.out.near (by first | exact Near.same _ | exact Near.one _) q); replace K1 := Lib.hid (K1.out.near (by first | exact Near.same _ | exact Near.one _) q); replace B := Lib.hid (Near.go (by first | exact Near.same _ | exact Near.one _) B.out q B.out.size); clear q; replace c00 := K0.out.at_ 0 _ rfl; replace c01 := K0.out.at_ 1 _ rfl; replace c02 := K0.out.at_ 2 _ rfl; replace c10 := K1.out.at_ 0 _ rfl; replace c11 := K1.out.at_ 1 _ rfl; replace c12 := K1.out.at_ 2 _ rfl)
    | fail "arm")
  go_ret2
  exact ⟨rfl, B.out⟩

set_option maxRecDepth 100000 in
set_option maxHeartbeats 2000000 in
theorem ltrend_none (X Y Z P Q : ByteArray) (w : World)
    (s1 : ∀ W, Below w.heap.size w W → Calls Tryz.prog 39 #[.agg #[.string X, .string Y, .string Z]] W fun e w' => e = .returned (.int .i64 0) ∧ Below W.heap.size W w')
    (s2 : ∀ W, Below w.heap.size w W → Calls Tryz.prog 56 #[.agg #[.string X, .string Y, .string Z]] W fun e w' => e = .returned (.tuple #[.string P, .string Q, .bool false]) ∧ Below W.heap.size W w') :
    Calls Tryz.prog 31 #[.agg #[.string X, .string Y, .string Z]] w fun e w' => e = .returned (.tuple #[.int .i64 0, .int .i64 19]) ∧ Below w.heap.size w w' := by
  have S1 := Lib.hid s1
  have S2 := Lib.hid s2
  clear s1 s2
  have k0 := Blk.fresh w #[.string X, .string Y, .string Z] 34
  have b0 : Below w.heap.size w (w.alloc (Obj.cells #[.string X, .string Y, .string Z] 34)) := ((Below.refl _ _).alloc (Nat.le_refl _) _)
  have K0 := Lib.hid k0
  have B := Lib.hid b0
  clear b0 k0
  go_enter Tryz.func31, Tryz.ntmps31
  go_upto_region 1 with (fail)
  generalize (w.alloc (Obj.cells #[.string X, .string Y, .string Z] 34)) = W0 at *
  have c00 := K0.out.at_ 0 _ rfl
  have c01 := K0.out.at_ 1 _ rfl
  have c02 := K0.out.at_ 2 _ rfl
  go_wp2_with (first
    | (go_at_call 39; (with_reducible refine (S1.out _ (Near.base (by first | exact Near.same _ | exact Near.one _) B.out)).mono ?_); rintro e wx ⟨rfl, q⟩; replace K0 := Lib.hid (K0.out.near (by first | exact Near.same _ | exact Near.one _) q); replace B := Lib.hid (Near.go (by first | exact Near.same _ | exact Near.one _) B.out q B.out.size); clear q; replace c00 := K0.out.at_ 0 _ rfl; replace c01 := K0.out.at_ 1 _ rfl; replace c02 := K0.out.at_ 2 _ rfl)
    | (go_at_call 56; (with_reducible refine (S2.out _ (Near.base (by first | exact Near.same _ | exact Near.one _) B.out)).mono ?_); rintro e wx ⟨rfl, q⟩; replace K0 := Lib.hid (K0.out.near (by first | exact Near.same _ | exact Near.one _) q); replace B := Lib.hid (Near.go (by first | exact Near.same _ | exact Near.one _) B.out q B.out.size); clear q; replace c00 := K0.out.at_ 0 _ rfl; replace c01 := K0.out.at_ 1 _ rfl; replace c02 := K0.out.at_ 2 _ rfl)
    | fail "arm")
  go_ret2
  exact ⟨rfl, B.out⟩

set_option maxRecDepth 100000 in
set_option maxHeartbeats 2000000 in
theorem ltrend_ok (X Y Z P Q : ByteArray) (n : Int) (w : World)
    (s1 : ∀ W, Below w.heap.size w W → Calls Tryz.prog 39 #[.agg #[.string X, .string Y, .string Z]] W fun e w' => e = .returned (.int .i64 0) ∧ Below W.heap.size W w')
    (s2 : ∀ W, Below w.heap.size w W → Calls Tryz.prog 56 #[.agg #[.string X, .string Y, .string Z]] W fun e w' => e = .returned (.tuple #[.string P, .string Q, .bool true]) ∧ Below W.heap.size W w')
    (s3 : ∀ W, Below w.heap.size w W → Calls Tryz.prog 57 #[.string P, .string Q] W fun e w' => e = .returned (.int .i64 n) ∧ Below W.heap.size W w') :
    Calls Tryz.prog 31 #[.agg #[.string X, .string Y, .string Z]] w fun e w' => e = .returned (.tuple #[.int .i64 n, .int .i64 0]) ∧ Below w.heap.size w w' := by
  have S1 := Lib.hid s1
  have S2 := Lib.hid s2
  have S3 := Lib.hid s3
  clear s1 s2 s3
  have k0 := Blk.fresh w #[.string X, .string Y, .string Z] 34
  have b0 : Below w.heap.size w (w.alloc (Obj.cells #[.string X, .string Y, .string Z] 34)) := ((Below.refl _ _).alloc (Nat.le_refl _) _)
  have K0 := Lib.hid k0
  have B := Lib.hid b0
  clear b0 k0
  go_enter Tryz.func31, Tryz.ntmps31
  go_upto_region 1 with (fail)
  generalize (w.alloc (Obj.cells #[.string X, .string Y, .string Z] 34)) = W0 at *
  have c00 := K0.out.at_ 0 _ rfl
  have c01 := K0.out.at_ 1 _ rfl
  have c02 := K0.out.at_ 2 _ rfl
  go_wp2_with (first
    | (go_at_call 39; (with_reducible refine (S1.out _ (Near.base (by first | exact Near.same _ | exact Near.one _) B.out)).mono ?_); rintro e wx ⟨rfl, q⟩; replace K0 := Lib.hid (K0.out.near (by first | exact Near.same _ | exact Near.one _) q); replace B := Lib.hid (Near.go (by first | exact Near.same _ | exact Near.one _) B.out q B.out.size); clear q; replace c00 := K0.out.at_ 0 _ rfl; replace c01 := K0.out.at_ 1 _ rfl; replace c02 := K0.out.at_ 2 _ rfl)
    | (go_at_call 56; (with_reducible refine (S2.out _ (Near.base (by first | exact Near.same _ | exact Near.one _) B.out)).mono ?_); rintro e wx ⟨rfl, q⟩; replace K0 := Lib.hid (K0.out.near (by first | exact Near.same _ | exact Near.one _) q); replace B := Lib.hid (Near.go (by first | exact Near.same _ | exact Near.one _) B.out q B.out.size); clear q; replace c00 := K0.out.at_ 0 _ rfl; replace c01 := K0.out.at_ 1 _ rfl; replace c02 := K0.out.at_ 2 _ rfl)
    | (go_at_call 57; (with_reducible refine (S3.out _ (Near.base (by first | exact Near.same _ | exact Near.one _) B.out)).mono ?_); rintro e wx ⟨rfl, q⟩; replace K0 := Lib.hid (K0.out.near (by first | exact Near.same _ | exact Near.one _) q); replace B := Lib.hid (Near.go (by first | exact Near.same _ | exact Near.one _) B.out q B.out.size); clear q; replace c00 := K0.out.at_ 0 _ rfl; replace c01 := K0.out.at_ 1 _ rfl; replace c02 := K0.out.at_ 2 _ rfl)
    | fail "arm")
  go_ret2
  exact ⟨rfl, B.out⟩

set_option maxRecDepth 100000 in
set_option maxHeartbeats 2000000 in
theorem lctrend_none1 (A C D F G H P1 P2 Q1 Q2 : ByteArray) (b : Bool) (w : World)
    (s1 : ∀ W, Below w.heap.size w W → Calls Tryz.prog 41 #[.agg #[.string A, .string C, .string D], .agg #[.string F, .string G, .string H]] W fun e w' => e = .returned (.int .i64 0) ∧ Below W.heap.size W w')
    (s2 : ∀ W, Below w.heap.size w W → Calls Tryz.prog 56 #[.agg #[.string A, .string C, .string D]] W fun e w' => e = .returned (.tuple #[.string P1, .string P2, .bool false]) ∧ Below W.heap.size W w')
    (s3 : ∀ W, Below w.heap.size w W → Calls Tryz.prog 56 #[.agg #[.string F, .string G, .string H]] W fun e w' => e = .returned (.tuple #[.string Q1, .string Q2, .bool b]) ∧ Below W.heap.size W w') :
    Calls Tryz.prog 32 #[.agg #[.string A, .string C, .string D], .agg #[.string F, .string G, .string H]] w fun e w' => e = .returned (.tuple #[.int .i64 0, .int .i64 19]) ∧ Below w.heap.size w w' := by
  have S1 := Lib.hid s1
  have S2 := Lib.hid s2
  have S3 := Lib.hid s3
  clear s1 s2 s3
  have k0 := Blk.fresh w #[.string A, .string C, .string D] 34
  replace k0 := k0.alloc (Obj.cells #[.string F, .string G, .string H] 34)
  have k1 := Blk.fresh (w.alloc (Obj.cells #[.string A, .string C, .string D] 34)) #[.string F, .string G, .string H] 34
  rw [show (w.alloc (Obj.cells #[.string A, .string C, .string D] 34)).heap.size = w.heap.size + 1 from World.size_alloc ..] at k1
  have b0 : Below w.heap.size w ((w.alloc (Obj.cells #[.string A, .string C, .string D] 34)).alloc (Obj.cells #[.string F, .string G, .string H] 34)) := (((Below.refl _ _).alloc (Nat.le_refl _) _).alloc (by simp; try omega) _)
  have K0 := Lib.hid k0
  have K1 := Lib.hid k1
  have B := Lib.hid b0
  clear b0 k0 k1
  go_enter Tryz.func32, Tryz.ntmps32
  go_upto_region 1 with (fail)
  generalize ((w.alloc (Obj.cells #[.string A, .string C, .string D] 34)).alloc (Obj.cells #[.string F, .string G, .string H] 34)) = W0 at *
  have c00 := K0.out.at_ 0 _ rfl
  have c01 := K0.out.at_ 1 _ rfl
  have c02 := K0.out.at_ 2 _ rfl
  have c10 := K1.out.at_ 0 _ rfl
  have c11 := K1.out.at_ 1 _ rfl
  have c12 := K1.out.at_ 2 _ rfl
  go_wp2_with (first
    | (go_at_call 41; (with_reducible refine (S1.out _ (Near.base (by first | exact Near.same _ | exact Near.one _) B.out)).mono ?_); rintro e wx ⟨rfl, q⟩; replace K0 := Lib.hid (K0.out.near (by first | exact Near.same _ | exact Near.one _) q); replace K1 := Lib.hid (K1.out.near (by first | exact Near.same _ | exact Near.one _) q); replace B := Lib.hid (Near.go (by first | exact Near.same _ | exact Near.one _) B.out q B.out.size); clear q; replace c00 := K0.out.at_ 0 _ rfl; replace c01 := K0.out.at_ 1 _ rfl; replace c02 := K0.out.at_ 2 _ rfl; replace c10 := K1.out.at_ 0 _ rfl; replace c11 := K1.out.at_ 1 _ rfl; replace c12 := K1.out.at_ 2 _ rfl)
    | (go_at_call_of 56 (Value.agg #[Value.string A, Value.string C, Value.string D]); (with_reducible refine (S2.out _ (Near.base (by first | exact Near.same _ | exact Near.one _) B.out)).mono ?_); rintro e wx ⟨rfl, q⟩; replace K0 := Lib.hid (K0.out.near (by first | exact Near.same _ | exact Near.one _) q); replace K1 := Lib.hid (K1.out.near (by first | exact Near.same _ | exact Near.one _) q); replace B := Lib.hid (Near.go (by first | exact Near.same _ | exact Near.one _) B.out q B.out.size); clear q; replace c00 := K0.out.at_ 0 _ rfl; replace c01 := K0.out.at_ 1 _ rfl; replace c02 := K0.out.at_ 2 _ rfl; replace c10 := K1.out.at_ 0 _ rfl; replace c11 := K1.out.at_ 1 _ rfl; replace c12 := K1.out.at_ 2 _ rfl)
    | (go_at_call 56; (with_reducible refine (S3.out _ (Near.base (by first | exact Near.same _ | exact Near.one _) B.out)).mono ?_); rintro e wx ⟨rfl, q⟩; replace K0 := Lib.hid (K0.out.near (by first | exact Near.same _ | exact Near.one _) q); replace K1 := Lib.hid (K1.out.near (by first | exact Near.same _ | exact Near.one _) q); replace B := Lib.hid (Near.go (by first | exact Near.same _ | exact Near.one _) B.out q B.out.size); clear q; replace c00 := K0.out.at_ 0 _ rfl; replace c01 := K0.out.at_ 1 _ rfl; replace c02 := K0.out.at_ 2 _ rfl; replace c10 := K1.out.at_ 0 _ rfl; replace c11 := K1.out.at_ 1 _ rfl; replace c12 := K1.out.at_ 2 _ rfl)
    | fail "arm")
  go_ret2
  exact ⟨rfl, B.out⟩

set_option maxRecDepth 100000 in
set_option maxHeartbeats 2000000 in
theorem lctrend_none2 (A C D F G H P1 P2 Q1 Q2 : ByteArray) (w : World)
    (s1 : ∀ W, Below w.heap.size w W → Calls Tryz.prog 41 #[.agg #[.string A, .string C, .string D], .agg #[.string F, .string G, .string H]] W fun e w' => e = .returned (.int .i64 0) ∧ Below W.heap.size W w')
    (s2 : ∀ W, Below w.heap.size w W → Calls Tryz.prog 56 #[.agg #[.string A, .string C, .string D]] W fun e w' => e = .returned (.tuple #[.string P1, .string P2, .bool true]) ∧ Below W.heap.size W w')
    (s3 : ∀ W, Below w.heap.size w W → Calls Tryz.prog 56 #[.agg #[.string F, .string G, .string H]] W fun e w' => e = .returned (.tuple #[.string Q1, .string Q2, .bool false]) ∧ Below W.heap.size W w') :
    Calls Tryz.prog 32 #[.agg #[.string A, .string C, .string D], .agg #[.string F, .string G, .string H]] w fun e w' => e = .returned (.tuple #[.int .i64 0, .int .i64 19]) ∧ Below w.heap.size w w' := by
  have S1 := Lib.hid s1
  have S2 := Lib.hid s2
  have S3 := Lib.hid s3
  clear s1 s2 s3
  have k0 := Blk.fresh w #[.string A, .string C, .string D] 34
  replace k0 := k0.alloc (Obj.cells #[.string F, .string G, .string H] 34)
  have k1 := Blk.fresh (w.alloc (Obj.cells #[.string A, .string C, .string D] 34)) #[.string F, .string G, .string H] 34
  rw [show (w.alloc (Obj.cells #[.string A, .string C, .string D] 34)).heap.size = w.heap.size + 1 from World.size_alloc ..] at k1
  have b0 : Below w.heap.size w ((w.alloc (Obj.cells #[.string A, .string C, .string D] 34)).alloc (Obj.cells #[.string F, .string G, .string H] 34)) := (((Below.refl _ _).alloc (Nat.le_refl _) _).alloc (by simp; try omega) _)
  have K0 := Lib.hid k0
  have K1 := Lib.hid k1
  have B := Lib.hid b0
  clear b0 k0 k1
  go_enter Tryz.func32, Tryz.ntmps32
  go_upto_region 1 with (fail)
  generalize ((w.alloc (Obj.cells #[.string A, .string C, .string D] 34)).alloc (Obj.cells #[.string F, .string G, .string H] 34)) = W0 at *
  have c00 := K0.out.at_ 0 _ rfl
  have c01 := K0.out.at_ 1 _ rfl
  have c02 := K0.out.at_ 2 _ rfl
  have c10 := K1.out.at_ 0 _ rfl
  have c11 := K1.out.at_ 1 _ rfl
  have c12 := K1.out.at_ 2 _ rfl
  go_wp2_with (first
    | (go_at_call 41; (with_reducible refine (S1.out _ (Near.base (by first | exact Near.same _ | exact Near.one _) B.out)).mono ?_); rintro e wx ⟨rfl, q⟩; replace K0 := Lib.hid (K0.out.near (by first | exact Near.same _ | exact Near.one _) q); replace K1 := Lib.hid (K1.out.near (by first | exact Near.same _ | exact Near.one _) q); replace B := Lib.hid (Near.go (by first | exact Near.same _ | exact Near.one _) B.out q B.out.size); clear q; replace c00 := K0.out.at_ 0 _ rfl; replace c01 := K0.out.at_ 1 _ rfl; replace c02 := K0.out.at_ 2 _ rfl; replace c10 := K1.out.at_ 0 _ rfl; replace c11 := K1.out.at_ 1 _ rfl; replace c12 := K1.out.at_ 2 _ rfl)
    | (go_at_call_of 56 (Value.agg #[Value.string A, Value.string C, Value.string D]); (with_reducible refine (S2.out _ (Near.base (by first | exact Near.same _ | exact Near.one _) B.out)).mono ?_); rintro e wx ⟨rfl, q⟩; replace K0 := Lib.hid (K0.out.near (by first | exact Near.same _ | exact Near.one _) q); replace K1 := Lib.hid (K1.out.near (by first | exact Near.same _ | exact Near.one _) q); replace B := Lib.hid (Near.go (by first | exact Near.same _ | exact Near.one _) B.out q B.out.size); clear q; replace c00 := K0.out.at_ 0 _ rfl; replace c01 := K0.out.at_ 1 _ rfl; replace c02 := K0.out.at_ 2 _ rfl; replace c10 := K1.out.at_ 0 _ rfl; replace c11 := K1.out.at_ 1 _ rfl; replace c12 := K1.out.at_ 2 _ rfl)
    | (go_at_call 56; (with_reducible refine (S3.out _ (Near.base (by first | exact Near.same _ | exact Near.one _) B.out)).mono ?_); rintro e wx ⟨rfl, q⟩; replace K0 := Lib.hid (K0.out.near (by first | exact Near.same _ | exact Near.one _) q); replace K1 := Lib.hid (K1.out.near (by first | exact Near.same _ | exact Near.one _) q); replace B := Lib.hid (Near.go (by first | exact Near.same _ | exact Near.one _) B.out q B.out.size); clear q; replace c00 := K0.out.at_ 0 _ rfl; replace c01 := K0.out.at_ 1 _ rfl; replace c02 := K0.out.at_ 2 _ rfl; replace c10 := K1.out.at_ 0 _ rfl; replace c11 := K1.out.at_ 1 _ rfl; replace c12 := K1.out.at_ 2 _ rfl)
    | fail "arm")
  go_ret2
  exact ⟨rfl, B.out⟩

set_option maxRecDepth 100000 in
set_option maxHeartbeats 2000000 in
theorem lctrend_lt (A C D F G H P1 P2 Q1 Q2 : ByteArray) (m n : Int) (w : World)
    (s1 : ∀ W, Below w.heap.size w W → Calls Tryz.prog 41 #[.agg #[.string A, .string C, .string D], .agg #[.string F, .string G, .string H]] W fun e w' => e = .returned (.int .i64 0) ∧ Below W.heap.size W w')
    (s2 : ∀ W, Below w.heap.size w W → Calls Tryz.prog 56 #[.agg #[.string A, .string C, .string D]] W fun e w' => e = .returned (.tuple #[.string P1, .string P2, .bool true]) ∧ Below W.heap.size W w')
    (s3 : ∀ W, Below w.heap.size w W → Calls Tryz.prog 56 #[.agg #[.string F, .string G, .string H]] W fun e w' => e = .returned (.tuple #[.string Q1, .string Q2, .bool true]) ∧ Below W.heap.size W w')
    (s4 : ∀ W, Below w.heap.size w W → Calls Tryz.prog 57 #[.string P1, .string P2] W fun e w' => e = .returned (.int .i64 m) ∧ Below W.heap.size W w')
    (s5 : ∀ W, Below w.heap.size w W → Calls Tryz.prog 57 #[.string Q1, .string Q2] W fun e w' => e = .returned (.int .i64 n) ∧ Below W.heap.size W w')
    (h1 : decide (m < n) = true) :
    Calls Tryz.prog 32 #[.agg #[.string A, .string C, .string D], .agg #[.string F, .string G, .string H]] w fun e w' => e = .returned (.tuple #[.int .i64 (-1), .int .i64 0]) ∧ Below w.heap.size w w' := by
  have S1 := Lib.hid s1
  have S2 := Lib.hid s2
  have S3 := Lib.hid s3
  have S4 := Lib.hid s4
  have S5 := Lib.hid s5
  clear s1 s2 s3 s4 s5
  have k0 := Blk.fresh w #[.string A, .string C, .string D] 34
  replace k0 := k0.alloc (Obj.cells #[.string F, .string G, .string H] 34)
  have k1 := Blk.fresh (w.alloc (Obj.cells #[.string A, .string C, .string D] 34)) #[.string F, .string G, .string H] 34
  rw [show (w.alloc (Obj.cells #[.string A, .string C, .string D] 34)).heap.size = w.heap.size + 1 from World.size_alloc ..] at k1
  have b0 : Below w.heap.size w ((w.alloc (Obj.cells #[.string A, .string C, .string D] 34)).alloc (Obj.cells #[.string F, .string G, .string H] 34)) := (((Below.refl _ _).alloc (Nat.le_refl _) _).alloc (by simp; try omega) _)
  have K0 := Lib.hid k0
  have K1 := Lib.hid k1
  have B := Lib.hid b0
  clear b0 k0 k1
  go_enter Tryz.func32, Tryz.ntmps32
  go_upto_region 1 with (fail)
  generalize ((w.alloc (Obj.cells #[.string A, .string C, .string D] 34)).alloc (Obj.cells #[.string F, .string G, .string H] 34)) = W0 at *
  have c00 := K0.out.at_ 0 _ rfl
  have c01 := K0.out.at_ 1 _ rfl
  have c02 := K0.out.at_ 2 _ rfl
  have c10 := K1.out.at_ 0 _ rfl
  have c11 := K1.out.at_ 1 _ rfl
  have c12 := K1.out.at_ 2 _ rfl
  go_wp2_with (first
    | (go_at_call 41; (with_reducible refine (S1.out _ (Near.base (by first | exact Near.same _ | exact Near.one _) B.out)).mono ?_); rintro e wx ⟨rfl, q⟩; replace K0 := Lib.hid (K0.out.near (by first | exact Near.same _ | exact Near.one _) q); replace K1 := Lib.hid (K1.out.near (by first | exact Near.same _ | exact Near.one _) q); replace B := Lib.hid (Near.go (by first | exact Near.same _ | exact Near.one _) B.out q B.out.size); clear q; replace c00 := K0.out.at_ 0 _ rfl; replace c01 := K0.out.at_ 1 _ rfl; replace c02 := K0.out.at_ 2 _ rfl; replace c10 := K1.out.at_ 0 _ rfl; replace c11 := K1.out.at_ 1 _ rfl; replace c12 := K1.out.at_ 2 _ rfl)
    | (go_at_call_of 56 (Value.agg #[Value.string A, Value.string C, Value.string D]); (with_reducible refine (S2.out _ (Near.base (by first | exact Near.same _ | exact Near.one _) B.out)).mono ?_); rintro e wx ⟨rfl, q⟩; replace K0 := Lib.hid (K0.out.near (by first | exact Near.same _ | exact Near.one _) q); replace K1 := Lib.hid (K1.out.near (by first | exact Near.same _ | exact Near.one _) q); replace B := Lib.hid (Near.go (by first | exact Near.same _ | exact Near.one _) B.out q B.out.size); clear q; replace c00 := K0.out.at_ 0 _ rfl; replace c01 := K0.out.at_ 1 _ rfl; replace c02 := K0.out.at_ 2 _ rfl; replace c10 := K1.out.at_ 0 _ rfl; replace c11 := K1.out.at_ 1 _ rfl; replace c12 := K1.out.at_ 2 _ rfl)
    | (go_at_call 56; (with_reducible refine (S3.out _ (Near.base (by first | exact Near.same _ | exact Near.one _) B.out)).mono ?_); rintro e wx ⟨rfl, q⟩; replace K0 := Lib.hid (K0.out.near (by first | exact Near.same _ | exact Near.one _) q); replace K1 := Lib.hid (K1.out.near (by first | exact Near.same _ | exact Near.one _) q); replace B := Lib.hid (Near.go (by first | exact Near.same _ | exact Near.one _) B.out q B.out.size); clear q; replace c00 := K0.out.at_ 0 _ rfl; replace c01 := K0.out.at_ 1 _ rfl; replace c02 := K0.out.at_ 2 _ rfl; replace c10 := K1.out.at_ 0 _ rfl; replace c11 := K1.out.at_ 1 _ rfl; replace c12 := K1.out.at_ 2 _ rfl)
    | (go_at_call_of 57 (Value.string P1); (with_reducible refine (S4.out _ (Near.base (by first | exact Near.same _ | exact Near.one _) B.out)).mono ?_); rintro e wx ⟨rfl, q⟩; replace K0 := Lib.hid (K0.out.near (by first | exact Near.same _ | exact Near.one _) q); replace K1 := Lib.hid (K1.out.near (by first | exact Near.same _ | exact Near.one _) q); replace B := Lib.hid (Near.go (by first | exact Near.same _ | exact Near.one _) B.out q B.out.size); clear q; replace c00 := K0.out.at_ 0 _ rfl; replace c01 := K0.out.at_ 1 _ rfl; replace c02 := K0.out.at_ 2 _ rfl; replace c10 := K1.out.at_ 0 _ rfl; replace c11 := K1.out.at_ 1 _ rfl; replace c12 := K1.out.at_ 2 _ rfl)
    | (go_at_call 57; (with_reducible refine (S5.out _ (Near.base (by first | exact Near.same _ | exact Near.one _) B.out)).mono ?_); rintro e wx ⟨rfl, q⟩; replace K0 := Lib.hid (K0.out.near (by first | exact Near.same _ | exact Near.one _) q); replace K1 := Lib.hid (K1.out.near (by first | exact Near.same _ | exact Near.one _) q); replace B := Lib.hid (Near.go (by first | exact Near.same _ | exact Near.one _) B.out q B.out.size); clear q; replace c00 := K0.out.at_ 0 _ rfl; replace c01 := K0.out.at_ 1 _ rfl; replace c02 := K0.out.at_ 2 _ rfl; replace c10 := K1.out.at_ 0 _ rfl; replace c11 := K1.out.at_ 1 _ rfl; replace c12 := K1.out.at_ 2 _ rfl)
    | fail "arm")
  go_ret2
  exact ⟨rfl, B.out⟩

set_option maxRecDepth 100000 in
set_option maxHeartbeats 2000000 in
theorem lctrend_gt (A C D F G H P1 P2 Q1 Q2 : ByteArray) (m n : Int) (w : World)
    (s1 : ∀ W, Below w.heap.size w W → Calls Tryz.prog 41 #[.agg #[.string A, .string C, .string D], .agg #[.string F, .string G, .string H]] W fun e w' => e = .returned (.int .i64 0) ∧ Below W.heap.size W w')
    (s2 : ∀ W, Below w.heap.size w W → Calls Tryz.prog 56 #[.agg #[.string A, .string C, .string D]] W fun e w' => e = .returned (.tuple #[.string P1, .string P2, .bool true]) ∧ Below W.heap.size W w')
    (s3 : ∀ W, Below w.heap.size w W → Calls Tryz.prog 56 #[.agg #[.string F, .string G, .string H]] W fun e w' => e = .returned (.tuple #[.string Q1, .string Q2, .bool true]) ∧ Below W.heap.size W w')
    (s4 : ∀ W, Below w.heap.size w W → Calls Tryz.prog 57 #[.string P1, .string P2] W fun e w' => e = .returned (.int .i64 m) ∧ Below W.heap.size W w')
    (s5 : ∀ W, Below w.heap.size w W → Calls Tryz.prog 57 #[.string Q1, .string Q2] W fun e w' => e = .returned (.int .i64 n) ∧ Below W.heap.size W w')
    (h1 : decide (m < n) = false) (h2 : decide (m > n) = true) :
    Calls Tryz.prog 32 #[.agg #[.string A, .string C, .string D], .agg #[.string F, .string G, .string H]] w fun e w' => e = .returned (.tuple #[.int .i64 1, .int .i64 0]) ∧ Below w.heap.size w w' := by
  have S1 := Lib.hid s1
  have S2 := Lib.hid s2
  have S3 := Lib.hid s3
  have S4 := Lib.hid s4
  have S5 := Lib.hid s5
  clear s1 s2 s3 s4 s5
  have k0 := Blk.fresh w #[.string A, .string C, .string D] 34
  replace k0 := k0.alloc (Obj.cells #[.string F, .string G, .string H] 34)
  have k1 := Blk.fresh (w.alloc (Obj.cells #[.string A, .string C, .string D] 34)) #[.string F, .string G, .string H] 34
  rw [show (w.alloc (Obj.cells #[.string A, .string C, .string D] 34)).heap.size = w.heap.size + 1 from World.size_alloc ..] at k1
  have b0 : Below w.heap.size w ((w.alloc (Obj.cells #[.string A, .string C, .string D] 34)).alloc (Obj.cells #[.string F, .string G, .string H] 34)) := (((Below.refl _ _).alloc (Nat.le_refl _) _).alloc (by simp; try omega) _)
  have K0 := Lib.hid k0
  have K1 := Lib.hid k1
  have B := Lib.hid b0
  clear b0 k0 k1
  go_enter Tryz.func32, Tryz.ntmps32
  go_upto_region 1 with (fail)
  generalize ((w.alloc (Obj.cells #[.string A, .string C, .string D] 34)).alloc (Obj.cells #[.string F, .string G, .string H] 34)) = W0 at *
  have c00 := K0.out.at_ 0 _ rfl
  have c01 := K0.out.at_ 1 _ rfl
  have c02 := K0.out.at_ 2 _ rfl
  have c10 := K1.out.at_ 0 _ rfl
  have c11 := K1.out.at_ 1 _ rfl
  have c12 := K1.out.at_ 2 _ rfl
  go_wp2_with (first
    | (go_at_call 41; (with_reducible refine (S1.out _ (Near.base (by first | exact Near.same _ | exact Near.one _) B.out)).mono ?_); rintro e wx ⟨rfl, q⟩; replace K0 := Lib.hid (K0.out.near (by first | exact Near.same _ | exact Near.one _) q); replace K1 := Lib.hid (K1.out.near (by first | exact Near.same _ | exact Near.one _) q); replace B := Lib.hid (Near.go (by first | exact Near.same _ | exact Near.one _) B.out q B.out.size); clear q; replace c00 := K0.out.at_ 0 _ rfl; replace c01 := K0.out.at_ 1 _ rfl; replace c02 := K0.out.at_ 2 _ rfl; replace c10 := K1.out.at_ 0 _ rfl; replace c11 := K1.out.at_ 1 _ rfl; replace c12 := K1.out.at_ 2 _ rfl)
    | (go_at_call_of 56 (Value.agg #[Value.string A, Value.string C, Value.string D]); (with_reducible refine (S2.out _ (Near.base (by first | exact Near.same _ | exact Near.one _) B.out)).mono ?_); rintro e wx ⟨rfl, q⟩; replace K0 := Lib.hid (K0.out.near (by first | exact Near.same _ | exact Near.one _) q); replace K1 := Lib.hid (K1.out.near (by first | exact Near.same _ | exact Near.one _) q); replace B := Lib.hid (Near.go (by first | exact Near.same _ | exact Near.one _) B.out q B.out.size); clear q; replace c00 := K0.out.at_ 0 _ rfl; replace c01 := K0.out.at_ 1 _ rfl; replace c02 := K0.out.at_ 2 _ rfl; replace c10 := K1.out.at_ 0 _ rfl; replace c11 := K1.out.at_ 1 _ rfl; replace c12 := K1.out.at_ 2 _ rfl)
    | (go_at_call 56; (with_reducible refine (S3.out _ (Near.base (by first | exact Near.same _ | exact Near.one _) B.out)).mono ?_); rintro e wx ⟨rfl, q⟩; replace K0 := Lib.hid (K0.out.near (by first | exact Near.same _ | exact Near.one _) q); replace K1 := Lib.hid (K1.out.near (by first | exact Near.same _ | exact Near.one _) q); replace B := Lib.hid (Near.go (by first | exact Near.same _ | exact Near.one _) B.out q B.out.size); clear q; replace c00 := K0.out.at_ 0 _ rfl; replace c01 := K0.out.at_ 1 _ rfl; replace c02 := K0.out.at_ 2 _ rfl; replace c10 := K1.out.at_ 0 _ rfl; replace c11 := K1.out.at_ 1 _ rfl; replace c12 := K1.out.at_ 2 _ rfl)
    | (go_at_call_of 57 (Value.string P1); (with_reducible refine (S4.out _ (Near.base (by first | exact Near.same _ | exact Near.one _) B.out)).mono ?_); rintro e wx ⟨rfl, q⟩; replace K0 := Lib.hid (K0.out.near (by first | exact Near.same _ | exact Near.one _) q); replace K1 := Lib.hid (K1.out.near (by first | exact Near.same _ | exact Near.one _) q); replace B := Lib.hid (Near.go (by first | exact Near.same _ | exact Near.one _) B.out q B.out.size); clear q; replace c00 := K0.out.at_ 0 _ rfl; replace c01 := K0.out.at_ 1 _ rfl; replace c02 := K0.out.at_ 2 _ rfl; replace c10 := K1.out.at_ 0 _ rfl; replace c11 := K1.out.at_ 1 _ rfl; replace c12 := K1.out.at_ 2 _ rfl)
    | (go_at_call 57; (with_reducible refine (S5.out _ (Near.base (by first | exact Near.same _ | exact Near.one _) B.out)).mono ?_); rintro e wx ⟨rfl, q⟩; replace K0 := Lib.hid (K0.out.near (by first | exact Near.same _ | exact Near.one _) q); replace K1 := Lib.hid (K1.out.near (by first | exact Near.same _ | exact Near.one _) q); replace B := Lib.hid (Near.go (by first | exact Near.same _ | exact Near.one _) B.out q B.out.size); clear q; replace c00 := K0.out.at_ 0 _ rfl; replace c01 := K0.out.at_ 1 _ rfl; replace c02 := K0.out.at_ 2 _ rfl; replace c10 := K1.out.at_ 0 _ rfl; replace c11 := K1.out.at_ 1 _ rfl; replace c12 := K1.out.at_ 2 _ rfl)
    | fail "arm")
  go_ret2
  exact ⟨rfl, B.out⟩

set_option maxRecDepth 100000 in
set_option maxHeartbeats 2000000 in
theorem lctrend_eq (A C D F G H P1 P2 Q1 Q2 R : ByteArray) (m n s : Int) (w : World)
    (s1 : ∀ W, Below w.heap.size w W → Calls Tryz.prog 41 #[.agg #[.string A, .string C, .string D], .agg #[.string F, .string G, .string H]] W fun e w' => e = .returned (.int .i64 0) ∧ Below W.heap.size W w')
    (s2 : ∀ W, Below w.heap.size w W → Calls Tryz.prog 56 #[.agg #[.string A, .string C, .string D]] W fun e w' => e = .returned (.tuple #[.string P1, .string P2, .bool true]) ∧ Below W.heap.size W w')
    (s3 : ∀ W, Below w.heap.size w W → Calls Tryz.prog 56 #[.agg #[.string F, .string G, .string H]] W fun e w' => e = .returned (.tuple #[.string Q1, .string Q2, .bool true]) ∧ Below W.heap.size W w')
    (s4 : ∀ W, Below w.heap.size w W → Calls Tryz.prog 57 #[.string P1, .string P2] W fun e w' => e = .returned (.int .i64 m) ∧ Below W.heap.size W w')
    (s5 : ∀ W, Below w.heap.size w W → Calls Tryz.prog 57 #[.string Q1, .string Q2] W fun e w' => e = .returned (.int .i64 n) ∧ Below W.heap.size W w')
    (s6 : ∀ W, Below w.heap.size w W → Calls Tryz.prog 58 #[.string P1, .string Q2, .string P2, .string Q1] W fun e w' => e = .returned (.string R) ∧ Below W.heap.size W w')
    (s7 : ∀ W, Calls Tryz.prog 43 #[.string R] W fun e w' => e = .returned (.int .i64 s) ∧ W = w')
    (h1 : decide (m < n) = false) (h2 : decide (m > n) = false) :
    Calls Tryz.prog 32 #[.agg #[.string A, .string C, .string D], .agg #[.string F, .string G, .string H]] w fun e w' => e = .returned (.tuple #[.int .i64 s, .int .i64 0]) ∧ Below w.heap.size w w' := by
  have S1 := Lib.hid s1
  have S2 := Lib.hid s2
  have S3 := Lib.hid s3
  have S4 := Lib.hid s4
  have S5 := Lib.hid s5
  have S6 := Lib.hid s6
  have S7 := Lib.hid s7
  clear s1 s2 s3 s4 s5 s6 s7
  have k0 := Blk.fresh w #[.string A, .string C, .string D] 34
  replace k0 := k0.alloc (Obj.cells #[.string F, .string G, .string H] 34)
  have k1 := Blk.fresh (w.alloc (Obj.cells #[.string A, .string C, .string D] 34)) #[.string F, .string G, .string H] 34
  rw [show (w.alloc (Obj.cells #[.string A, .string C, .string D] 34)).heap.size = w.heap.size + 1 from World.size_alloc ..] at k1
  have b0 : Below w.heap.size w ((w.alloc (Obj.cells #[.string A, .string C, .string D] 34)).alloc (Obj.cells #[.string F, .string G, .string H] 34)) := (((Below.refl _ _).alloc (Nat.le_refl _) _).alloc (by simp; try omega) _)
  have K0 := Lib.hid k0
  have K1 := Lib.hid k1
  have B := Lib.hid b0
  clear b0 k0 k1
  go_enter Tryz.func32, Tryz.ntmps32
  go_upto_region 1 with (fail)
  generalize ((w.alloc (Obj.cells #[.string A, .string C, .string D] 34)).alloc (Obj.cells #[.string F, .string G, .string H] 34)) = W0 at *
  have c00 := K0.out.at_ 0 _ rfl
  have c01 := K0.out.at_ 1 _ rfl
  have c02 := K0.out.at_ 2 _ rfl
  have c10 := K1.out.at_ 0 _ rfl
  have c11 := K1.out.at_ 1 _ rfl
  have c12 := K1.out.at_ 2 _ rfl
  go_wp2_with (first
    | (go_at_call 41; (with_reducible refine (S1.out _ (Near.base (by first | exact Near.same _ | exact Near.one _) B.out)).mono ?_); rintro e wx ⟨rfl, q⟩; replace K0 := Lib.hid (K0.out.near (by first | exact Near.same _ | exact Near.one _) q); replace K1 := Lib.hid (K1.out.near (by first | exact Near.same _ | exact Near.one _) q); replace B := Lib.hid (Near.go (by first | exact Near.same _ | exact Near.one _) B.out q B.out.size); clear q; replace c00 := K0.out.at_ 0 _ rfl; replace c01 := K0.out.at_ 1 _ rfl; replace c02 := K0.out.at_ 2 _ rfl; replace c10 := K1.out.at_ 0 _ rfl; replace c11 := K1.out.at_ 1 _ rfl; replace c12 := K1.out.at_ 2 _ rfl)
    | (go_at_call_of 56 (Value.agg #[Value.string A, Value.string C, Value.string D]); (with_reducible refine (S2.out _ (Near.base (by first | exact Near.same _ | exact Near.one _) B.out)).mono ?_); rintro e wx ⟨rfl, q⟩; replace K0 := Lib.hid (K0.out.near (by first | exact Near.same _ | exact Near.one _) q); replace K1 := Lib.hid (K1.out.near (by first | exact Near.same _ | exact Near.one _) q); replace B := Lib.hid (Near.go (by first | exact Near.same _ | exact Near.one _) B.out q B.out.size); clear q; replace c00 := K0.out.at_ 0 _ rfl; replace c01 := K0.out.at_ 1 _ rfl; replace c02 := K0.out.at_ 2 _ rfl; replace c10 := K1.out.at_ 0 _ rfl; replace c11 := K1.out.at_ 1 _ rfl; replace c12 := K1.out.at_ 2 _ rfl)
    | (go_at_call 56; (with_reducible refine (S3.out _ (Near.base (by first | exact Near.same _ | exact Near.one _) B.out)).mono ?_); rintro e wx ⟨rfl, q⟩; replace K0 := Lib.hid (K0.out.near (by first | exact Near.same _ | exact Near.one _) q); replace K1 := Lib.hid (K1.out.near (by first | exact Near.same _ | exact Near.one _) q); replace B := Lib.hid (Near.go (by first | exact Near.same _ | exact Near.one _) B.out q B.out.size); clear q; replace c00 := K0.out.at_ 0 _ rfl; replace c01 := K0.out.at_ 1 _ rfl; replace c02 := K0.out.at_ 2 _ rfl; replace c10 := K1.out.at_ 0 _ rfl; replace c11 := K1.out.at_ 1 _ rfl; replace c12 := K1.out.at_ 2 _ rfl)
    | (go_at_call_of 57 (Value.string P1); (with_reducible refine (S4.out _ (Near.base (by first | exact Near.same _ | exact Near.one _) B.out)).mono ?_); rintro e wx ⟨rfl, q⟩; replace K0 := Lib.hid (K0.out.near (by first | exact Near.same _ | exact Near.one _) q); replace K1 := Lib.hid (K1.out.near (by first | exact Near.same _ | exact Near.one _) q); replace B := Lib.hid (Near.go (by first | exact Near.same _ | exact Near.one _) B.out q B.out.size); clear q; replace c00 := K0.out.at_ 0 _ rfl; replace c01 := K0.out.at_ 1 _ rfl; replace c02 := K0.out.at_ 2 _ rfl; replace c10 := K1.out.at_ 0 _ rfl; replace c11 := K1.out.at_ 1 _ rfl; replace c12 := K1.out.at_ 2 _ rfl)
    | (go_at_call 57; (with_reducible refine (S5.out _ (Near.base (by first | exact Near.same _ | exact Near.one _) B.out)).mono ?_); rintro e wx ⟨rfl, q⟩; replace K0 := Lib.hid (K0.out.near (by first | exact Near.same _ | exact Near.one _) q); replace K1 := Lib.hid (K1.out.near (by first | exact Near.same _ | exact Near.one _) q); replace B := Lib.hid (Near.go (by first | exact Near.same _ | exact Near.one _) B.out q B.out.size); clear q; replace c00 := K0.out.at_ 0 _ rfl; replace c01 := K0.out.at_ 1 _ rfl; replace c02 := K0.out.at_ 2 _ rfl; replace c10 := K1.out.at_ 0 _ rfl; replace c11 := K1.out.at_ 1 _ rfl; replace c12 := K1.out.at_ 2 _ rfl)
    | (go_at_call 58; (with_reducible refine (S6.out _ (Near.base (by first | exact Near.same _ | exact Near.one _) B.out)).mono ?_); rintro e wx ⟨rfl, q⟩; replace K0 := Lib.hid (K0.out.near (by first | exact Near.same _ | exact Near.one _) q); replace K1 := Lib.hid (K1.out.near (by first | exact Near.same _ | exact Near.one _) q); replace B := Lib.hid (Near.go (by first | exact Near.same _ | exact Near.one _) B.out q B.out.size); clear q; replace c00 := K0.out.at_ 0 _ rfl; replace c01 := K0.out.at_ 1 _ rfl; replace c02 := K0.out.at_ 2 _ rfl; replace c10 := K1.out.at_ 0 _ rfl; replace c11 := K1.out.at_ 1 _ rfl; replace c12 := K1.out.at_ 2 _ rfl)
    | (go_at_call 43; (with_reducible refine (S7.out _).mono ?_); rintro e wx ⟨rfl, rfl⟩)
    | fail "arm")
  go_ret2
  exact ⟨rfl, B.out⟩

set_option maxRecDepth 100000 in
set_option maxHeartbeats 2000000 in
theorem lplunge_vert (X Y Z F : ByteArray) (w : World)
    (s1 : ∀ W, Below w.heap.size w W → Calls Tryz.prog 39 #[.agg #[.string X, .string Y, .string Z]] W fun e w' => e = .returned (.int .i64 0) ∧ Below W.heap.size W w')
    (s2 : ∀ W, Below w.heap.size w W → Calls Tryz.prog 61 #[.agg #[.string X, .string Y, .string Z]] W fun e w' => e = .returned (.string F) ∧ Below W.heap.size W w')
    (hf : (F.toList == [48]) = true) :
    Calls Tryz.prog 35 #[.agg #[.string X, .string Y, .string Z]] w fun e w' => e = .returned (.tuple #[.string ⟨#[]⟩, .bool true, .int .i64 0]) ∧ Below w.heap.size w w' := by
  obtain ⟨f1, f2⟩ := zero_eq F _ hf
  clear hf
  have S1 := Lib.hid s1
  have S2 := Lib.hid s2
  clear s1 s2
  have k0 := Blk.fresh w #[.string X, .string Y, .string Z] 34
  have b0 : Below w.heap.size w (w.alloc (Obj.cells #[.string X, .string Y, .string Z] 34)) := ((Below.refl _ _).alloc (Nat.le_refl _) _)
  have K0 := Lib.hid k0
  have B := Lib.hid b0
  clear b0 k0
  go_enter Tryz.func35, Tryz.ntmps35
  go_upto_region 1 with (fail)
  generalize (w.alloc (Obj.cells #[.string X, .string Y, .string Z] 34)) = W0 at *
  have c00 := K0.out.at_ 0 _ rfl
  have c01 := K0.out.at_ 1 _ rfl
  have c02 := K0.out.at_ 2 _ rfl
  go_wp2_with (first
    | (go_at_call 39; (with_reducible refine (S1.out _ (Near.base (by first | exact Near.same _ | exact Near.one _) B.out)).mono ?_); rintro e wx ⟨rfl, q⟩; replace K0 := Lib.hid (K0.out.near (by first | exact Near.same _ | exact Near.one _) q); replace B := Lib.hid (Near.go (by first | exact Near.same _ | exact Near.one _) B.out q B.out.size); clear q; replace c00 := K0.out.at_ 0 _ rfl; replace c01 := K0.out.at_ 1 _ rfl; replace c02 := K0.out.at_ 2 _ rfl)
    | (go_at_call 61; (with_reducible refine (S2.out _ (Near.base (by first | exact Near.same _ | exact Near.one _) B.out)).mono ?_); rintro e wx ⟨rfl, q⟩; replace K0 := Lib.hid (K0.out.near (by first | exact Near.same _ | exact Near.one _) q); replace B := Lib.hid (Near.go (by first | exact Near.same _ | exact Near.one _) B.out q B.out.size); clear q; replace c00 := K0.out.at_ 0 _ rfl; replace c01 := K0.out.at_ 1 _ rfl; replace c02 := K0.out.at_ 2 _ rfl)
    | fail "arm")
  go_ret3
  exact ⟨rfl, B.out⟩

set_option maxRecDepth 100000 in
set_option maxHeartbeats 2000000 in
theorem lplunge_ok (X Y Z F P Q : ByteArray) (w : World)
    (s1 : ∀ W, Below w.heap.size w W → Calls Tryz.prog 39 #[.agg #[.string X, .string Y, .string Z]] W fun e w' => e = .returned (.int .i64 0) ∧ Below W.heap.size W w')
    (s2 : ∀ W, Below w.heap.size w W → Calls Tryz.prog 61 #[.agg #[.string X, .string Y, .string Z]] W fun e w' => e = .returned (.string F) ∧ Below W.heap.size W w')
    (hf : (F.toList == [48]) = false)
    (s3 : ∀ W, Below w.heap.size w W → Calls Tryz.prog 34 #[.string Z, .string Z] W fun e w' => e = .returned (.string P) ∧ Below W.heap.size W w')
    (s4 : ∀ W, Below w.heap.size w W → Calls Tryz.prog 62 #[.string P, .string F] W fun e w' => e = .returned (.tuple #[.string Q, .int .i64 0]) ∧ Below W.heap.size W w')
    (s5 : ∀ W, Below w.heap.size w W → Calls Tryz.prog 51 #[.string Q] W fun e w' => e = .returned (.tuple #[.string Q, .int .i64 0]) ∧ Below W.heap.size W w') :
    Calls Tryz.prog 35 #[.agg #[.string X, .string Y, .string Z]] w fun e w' => e = .returned (.tuple #[.string Q, .bool false, .int .i64 0]) ∧ Below w.heap.size w w' := by
  obtain ⟨f1, f2⟩ := zero_eq F _ hf
  clear hf
  have S1 := Lib.hid s1
  have S2 := Lib.hid s2
  have S3 := Lib.hid s3
  have S4 := Lib.hid s4
  have S5 := Lib.hid s5
  clear s1 s2 s3 s4 s5
  have k0 := Blk.fresh w #[.string X, .string Y, .string Z] 34
  have b0 : Below w.heap.size w (w.alloc (Obj.cells #[.string X, .string Y, .string Z] 34)) := ((Below.refl _ _).alloc (Nat.le_refl _) _)
  have K0 := Lib.hid k0
  have B := Lib.hid b0
  clear b0 k0
  go_enter Tryz.func35, Tryz.ntmps35
  go_upto_region 1 with (fail)
  generalize (w.alloc (Obj.cells #[.string X, .string Y, .string Z] 34)) = W0 at *
  have c00 := K0.out.at_ 0 _ rfl
  have c01 := K0.out.at_ 1 _ rfl
  have c02 := K0.out.at_ 2 _ rfl
  go_wp2_with (first
    | (go_at_call 39; (with_reducible refine (S1.out _ (Near.base (by first | exact Near.same _ | exact Near.one _) B.out)).mono ?_); rintro e wx ⟨rfl, q⟩; replace K0 := Lib.hid (K0.out.near (by first | exact Near.same _ | exact Near.one _) q); replace B := Lib.hid (Near.go (by first | exact Near.same _ | exact Near.one _) B.out q B.out.size); clear q; replace c00 := K0.out.at_ 0 _ rfl; replace c01 := K0.out.at_ 1 _ rfl; replace c02 := K0.out.at_ 2 _ rfl)
    | (go_at_call 61; (with_reducible refine (S2.out _ (Near.base (by first | exact Near.same _ | exact Near.one _) B.out)).mono ?_); rintro e wx ⟨rfl, q⟩; replace K0 := Lib.hid (K0.out.near (by first | exact Near.same _ | exact Near.one _) q); replace B := Lib.hid (Near.go (by first | exact Near.same _ | exact Near.one _) B.out q B.out.size); clear q; replace c00 := K0.out.at_ 0 _ rfl; replace c01 := K0.out.at_ 1 _ rfl; replace c02 := K0.out.at_ 2 _ rfl)
    | (go_at_call 34; (with_reducible refine (S3.out _ (Near.base (by first | exact Near.same _ | exact Near.one _) B.out)).mono ?_); rintro e wx ⟨rfl, q⟩; replace K0 := Lib.hid (K0.out.near (by first | exact Near.same _ | exact Near.one _) q); replace B := Lib.hid (Near.go (by first | exact Near.same _ | exact Near.one _) B.out q B.out.size); clear q; replace c00 := K0.out.at_ 0 _ rfl; replace c01 := K0.out.at_ 1 _ rfl; replace c02 := K0.out.at_ 2 _ rfl)
    | (go_at_call 62; (with_reducible refine (S4.out _ (Near.base (by first | exact Near.same _ | exact Near.one _) B.out)).mono ?_); rintro e wx ⟨rfl, q⟩; replace K0 := Lib.hid (K0.out.near (by first | exact Near.same _ | exact Near.one _) q); replace B := Lib.hid (Near.go (by first | exact Near.same _ | exact Near.one _) B.out q B.out.size); clear q; replace c00 := K0.out.at_ 0 _ rfl; replace c01 := K0.out.at_ 1 _ rfl; replace c02 := K0.out.at_ 2 _ rfl)
    | (go_at_call 51; (with_reducible refine (S5.out _ (Near.base (by first | exact Near.same _ | exact Near.one _) B.out)).mono ?_); rintro e wx ⟨rfl, q⟩; replace K0 := Lib.hid (K0.out.near (by first | exact Near.same _ | exact Near.one _) q); replace B := Lib.hid (Near.go (by first | exact Near.same _ | exact Near.one _) B.out q B.out.size); clear q; replace c00 := K0.out.at_ 0 _ rfl; replace c01 := K0.out.at_ 1 _ rfl; replace c02 := K0.out.at_ 2 _ rfl)
    | fail "arm")
  go_ret3
  exact ⟨rfl, B.out⟩

set_option maxRecDepth 100000 in
set_option maxHeartbeats 4000000 in
theorem lcplunge_ok (A C D F G H P Q F1 F2 R : ByteArray) (s : Int) (w : World)
    (s1 : ∀ W, Below w.heap.size w W → Calls Tryz.prog 41 #[.agg #[.string A, .string C, .string D], .agg #[.string F, .string G, .string H]] W fun e w' => e = .returned (.int .i64 0) ∧ Below W.heap.size W w')
    (s2 : ∀ W, Below w.heap.size w W → Calls Tryz.prog 34 #[.string D, .string D] W fun e w' => e = .returned (.string P) ∧ Below W.heap.size W w')
    (s3 : ∀ W, Below w.heap.size w W → Calls Tryz.prog 34 #[.string H, .string H] W fun e w' => e = .returned (.string Q) ∧ Below W.heap.size W w')
    (s4 : ∀ W, Below w.heap.size w W → Calls Tryz.prog 61 #[.agg #[.string F, .string G, .string H]] W fun e w' => e = .returned (.string F1) ∧ Below W.heap.size W w')
    (s5 : ∀ W, Below w.heap.size w W → Calls Tryz.prog 61 #[.agg #[.string A, .string C, .string D]] W fun e w' => e = .returned (.string F2) ∧ Below W.heap.size W w')
    (s6 : ∀ W, Below w.heap.size w W → Calls Tryz.prog 58 #[.string P, .string F1, .string Q, .string F2] W fun e w' => e = .returned (.string R) ∧ Below W.heap.size W w')
    (s7 : ∀ W, Calls Tryz.prog 43 #[.string R] W fun e w' => e = .returned (.int .i64 s) ∧ W = w') :
    Calls Tryz.prog 36 #[.agg #[.string A, .string C, .string D], .agg #[.string F, .string G, .string H]] w fun e w' => e = .returned (.tuple #[.int .i64 s, .int .i64 0]) ∧ Below w.heap.size w w' := by
  have S1 := Lib.hid s1
  have S2 := Lib.hid s2
  have S3 := Lib.hid s3
  have S4 := Lib.hid s4
  have S5 := Lib.hid s5
  have S6 := Lib.hid s6
  have S7 := Lib.hid s7
  clear s1 s2 s3 s4 s5 s6 s7
  have k0 := Blk.fresh w #[.string A, .string C, .string D] 34
  replace k0 := k0.alloc (Obj.cells #[.string F, .string G, .string H] 34)
  have k1 := Blk.fresh (w.alloc (Obj.cells #[.string A, .string C, .string D] 34)) #[.string F, .string G, .string H] 34
  rw [show (w.alloc (Obj.cells #[.string A, .string C, .string D] 34)).heap.size = w.heap.size + 1 from World.size_alloc ..] at k1
  have b0 : Below w.heap.size w ((w.alloc (Obj.cells #[.string A, .string C, .string D] 34)).alloc (Obj.cells #[.string F, .string G, .string H] 34)) := (((Below.refl _ _).alloc (Nat.le_refl _) _).alloc (by simp; try omega) _)
  have K0 := Lib.hid k0
  have K1 := Lib.hid k1
  have B := Lib.hid b0
  clear b0 k0 k1
  go_enter Tryz.func36, Tryz.ntmps36
  go_upto_region 1 with (fail)
  generalize ((w.alloc (Obj.cells #[.string A, .string C, .string D] 34)).alloc (Obj.cells #[.string F, .string G, .string H] 34)) = W0 at *
  have c00 := K0.out.at_ 0 _ rfl
  have c01 := K0.out.at_ 1 _ rfl
  have c02 := K0.out.at_ 2 _ rfl
  have c10 := K1.out.at_ 0 _ rfl
  have c11 := K1.out.at_ 1 _ rfl
  have c12 := K1.out.at_ 2 _ rfl
  go_upto_region 4 with (first
    | (go_at_call 41; (with_reducible refine (S1.out _ (Near.base (by first | exact Near.same _ | exact Near.one _) B.out)).mono ?_); rintro e wx ⟨rfl, q⟩; replace K0 := Lib.hid (K0.out.near (by first | exact Near.same _ | exact Near.one _) q); replace K1 := Lib.hid (K1.out.near (by first | exact Near.same _ | exact Near.one _) q); replace B := Lib.hid (Near.go (by first | exact Near.same _ | exact Near.one _) B.out q B.out.size); clear q; replace c00 := K0.out.at_ 0 _ rfl; replace c01 := K0.out.at_ 1 _ rfl; replace c02 := K0.out.at_ 2 _ rfl; replace c10 := K1.out.at_ 0 _ rfl; replace c11 := K1.out.at_ 1 _ rfl; replace c12 := K1.out.at_ 2 _ rfl)
    | fail "arm")
  go_region_held3 (fun w' => w'.cell? ⟨w.heap.size, 2, none⟩ = some (.string D) ∧ w'.cell? ⟨w.heap.size + 1, 2, none⟩ = some (.string H))
    (first | exact ⟨c02, c12⟩ | exact ⟨(K0.out.alloc _).at_ 2 _ rfl, (K1.out.alloc _).at_ 2 _ rfl⟩)
    (first
      | (go_at_call_of 34 (Value.string D); (with_reducible refine (S2.out _ (Near.base (by first | exact Near.same _ | exact Near.one _) B.out)).mono ?_); rintro e wx ⟨rfl, q⟩; replace K0 := Lib.hid (K0.out.near (by first | exact Near.same _ | exact Near.one _) q); replace K1 := Lib.hid (K1.out.near (by first | exact Near.same _ | exact Near.one _) q); replace B := Lib.hid (Near.go (by first | exact Near.same _ | exact Near.one _) B.out q B.out.size); clear q; replace c00 := K0.out.at_ 0 _ rfl; replace c01 := K0.out.at_ 1 _ rfl; replace c02 := K0.out.at_ 2 _ rfl; replace c10 := K1.out.at_ 0 _ rfl; replace c11 := K1.out.at_ 1 _ rfl; replace c12 := K1.out.at_ 2 _ rfl)
      | (go_at_call 34; (with_reducible refine (S3.out _ (Near.base (by first | exact Near.same _ | exact Near.one _) B.out)).mono ?_); rintro e wx ⟨rfl, q⟩; replace K0 := Lib.hid (K0.out.near (by first | exact Near.same _ | exact Near.one _) q); replace K1 := Lib.hid (K1.out.near (by first | exact Near.same _ | exact Near.one _) q); replace B := Lib.hid (Near.go (by first | exact Near.same _ | exact Near.one _) B.out q B.out.size); clear q; replace c00 := K0.out.at_ 0 _ rfl; replace c01 := K0.out.at_ 1 _ rfl; replace c02 := K0.out.at_ 2 _ rfl; replace c10 := K1.out.at_ 0 _ rfl; replace c11 := K1.out.at_ 1 _ rfl; replace c12 := K1.out.at_ 2 _ rfl)
      | fail "arm")
  go_upto_region 5 with (fail)
  go_region_held3 (fun w' => w'.cell? ⟨w.heap.size, 0, none⟩ = some (.string A) ∧ w'.cell? ⟨w.heap.size, 1, none⟩ = some (.string C) ∧ w'.cell? ⟨w.heap.size, 2, none⟩ = some (.string D) ∧ w'.cell? ⟨w.heap.size + 1, 0, none⟩ = some (.string F) ∧ w'.cell? ⟨w.heap.size + 1, 1, none⟩ = some (.string G) ∧ w'.cell? ⟨w.heap.size + 1, 2, none⟩ = some (.string H))
    (first | exact ⟨c00, c01, c02, c10, c11, c12⟩ | exact ⟨(K0.out.alloc _).at_ 0 _ rfl, (K0.out.alloc _).at_ 1 _ rfl, (K0.out.alloc _).at_ 2 _ rfl, (K1.out.alloc _).at_ 0 _ rfl, (K1.out.alloc _).at_ 1 _ rfl, (K1.out.alloc _).at_ 2 _ rfl⟩)
    (first
      | (go_at_call_of 61 (Value.agg #[Value.string F, Value.string G, Value.string H]); (with_reducible refine (S4.out _ (Near.base (by first | exact Near.same _ | exact Near.one _) B.out)).mono ?_); rintro e wx ⟨rfl, q⟩; replace K0 := Lib.hid (K0.out.near (by first | exact Near.same _ | exact Near.one _) q); replace K1 := Lib.hid (K1.out.near (by first | exact Near.same _ | exact Near.one _) q); replace B := Lib.hid (Near.go (by first | exact Near.same _ | exact Near.one _) B.out q B.out.size); clear q; replace c00 := K0.out.at_ 0 _ rfl; replace c01 := K0.out.at_ 1 _ rfl; replace c02 := K0.out.at_ 2 _ rfl; replace c10 := K1.out.at_ 0 _ rfl; replace c11 := K1.out.at_ 1 _ rfl; replace c12 := K1.out.at_ 2 _ rfl)
      | (go_at_call 61; (with_reducible refine (S5.out _ (Near.base (by first | exact Near.same _ | exact Near.one _) B.out)).mono ?_); rintro e wx ⟨rfl, q⟩; replace K0 := Lib.hid (K0.out.near (by first | exact Near.same _ | exact Near.one _) q); replace K1 := Lib.hid (K1.out.near (by first | exact Near.same _ | exact Near.one _) q); replace B := Lib.hid (Near.go (by first | exact Near.same _ | exact Near.one _) B.out q B.out.size); clear q; replace c00 := K0.out.at_ 0 _ rfl; replace c01 := K0.out.at_ 1 _ rfl; replace c02 := K0.out.at_ 2 _ rfl; replace c10 := K1.out.at_ 0 _ rfl; replace c11 := K1.out.at_ 1 _ rfl; replace c12 := K1.out.at_ 2 _ rfl)
      | (go_at_call 58; (with_reducible refine (S6.out _ (Near.base (by first | exact Near.same _ | exact Near.one _) B.out)).mono ?_); rintro e wx ⟨rfl, q⟩; replace K0 := Lib.hid (K0.out.near (by first | exact Near.same _ | exact Near.one _) q); replace K1 := Lib.hid (K1.out.near (by first | exact Near.same _ | exact Near.one _) q); replace B := Lib.hid (Near.go (by first | exact Near.same _ | exact Near.one _) B.out q B.out.size); clear q; replace c00 := K0.out.at_ 0 _ rfl; replace c01 := K0.out.at_ 1 _ rfl; replace c02 := K0.out.at_ 2 _ rfl; replace c10 := K1.out.at_ 0 _ rfl; replace c11 := K1.out.at_ 1 _ rfl; replace c12 := K1.out.at_ 2 _ rfl)
      | (go_at_call 43; (with_reducible refine (S7.out _).mono ?_); rintro e wx ⟨rfl, rfl⟩)
      | fail "arm")
  go_wp2
  go_ret2
  exact ⟨rfl, B.out⟩

set_option maxRecDepth 100000 in
set_option maxHeartbeats 2000000 in
theorem linter_1 (A C D F G H N M W4 : ByteArray) (s c _d : Int) (w : World)
    (s1 : ∀ W, Below w.heap.size w W → Calls Tryz.prog 41 #[.agg #[.string A, .string C, .string D], .agg #[.string F, .string G, .string H]] W fun e w' => e = .returned (.int .i64 0) ∧ Below W.heap.size W w')
    (s2 : ∀ W, Below w.heap.size w W → Calls Tryz.prog 42 #[.agg #[.string A, .string C, .string D], .agg #[.string F, .string G, .string H]] W fun e w' => e = .returned (.string N) ∧ Below W.heap.size W w')
    (s3 : ∀ W, Below w.heap.size w W → Calls Tryz.prog 34 #[.string ⟨#[52]⟩, .string N] W fun e w' => e = .returned (.string W4) ∧ Below W.heap.size W w')
    (s4 : ∀ W, Below w.heap.size w W → Calls Tryz.prog 44 #[.agg #[.string A, .string C, .string D], .agg #[.string F, .string G, .string H]] W fun e w' => e = .returned (.string M) ∧ Below W.heap.size W w')
    (s5 : ∀ W, Calls Tryz.prog 43 #[.string M] W fun e w' => e = .returned (.int .i64 s) ∧ W = w')
    (s6 : ∀ W, Below w.heap.size w W → Calls Tryz.prog 29 #[.string W4, .string ⟨#[49]⟩] W fun e w' => e = .returned (.int .i64 c) ∧ Below W.heap.size W w')
    (h1 : decide (s > 0) = true) (h2 : decide (c > 0) = true) :
    Calls Tryz.prog 15 #[.agg #[.string A, .string C, .string D], .agg #[.string F, .string G, .string H]] w fun e w' => e = .returned (.tuple #[.int .i64 1, .int .i64 0]) ∧ Below w.heap.size w w' := by
  have S1 := Lib.hid s1
  have S2 := Lib.hid s2
  have S3 := Lib.hid s3
  have S4 := Lib.hid s4
  have S5 := Lib.hid s5
  have S6 := Lib.hid s6
  clear s1 s2 s3 s4 s5 s6
  have k0 := Blk.fresh w #[.string A, .string C, .string D] 34
  replace k0 := k0.alloc (Obj.cells #[.string F, .string G, .string H] 34)
  have k1 := Blk.fresh (w.alloc (Obj.cells #[.string A, .string C, .string D] 34)) #[.string F, .string G, .string H] 34
  rw [show (w.alloc (Obj.cells #[.string A, .string C, .string D] 34)).heap.size = w.heap.size + 1 from World.size_alloc ..] at k1
  have b0 : Below w.heap.size w ((w.alloc (Obj.cells #[.string A, .string C, .string D] 34)).alloc (Obj.cells #[.string F, .string G, .string H] 34)) := (((Below.refl _ _).alloc (Nat.le_refl _) _).alloc (by simp; try omega) _)
  have K0 := Lib.hid k0
  have K1 := Lib.hid k1
  have B := Lib.hid b0
  clear b0 k0 k1
  go_enter Tryz.func15, Tryz.ntmps15
  go_upto_region 1 with (fail)
  generalize ((w.alloc (Obj.cells #[.string A, .string C, .string D] 34)).alloc (Obj.cells #[.string F, .string G, .string H] 34)) = W0 at *
  have c00 := K0.out.at_ 0 _ rfl
  have c01 := K0.out.at_ 1 _ rfl
  have c02 := K0.out.at_ 2 _ rfl
  have c10 := K1.out.at_ 0 _ rfl
  have c11 := K1.out.at_ 1 _ rfl
  have c12 := K1.out.at_ 2 _ rfl
  go_wp2_with (first
    | (go_at_call 41; (with_reducible refine (S1.out _ (Near.base (by first | exact Near.same _ | exact Near.one _) B.out)).mono ?_); rintro e wx ⟨rfl, q⟩; replace K0 := Lib.hid (K0.out.near (by first | exact Near.same _ | exact Near.one _) q); replace K1 := Lib.hid (K1.out.near (by first | exact Near.same _ | exact Near.one _) q); replace B := Lib.hid (Near.go (by first | exact Near.same _ | exact Near.one _) B.out q B.out.size); clear q; replace c00 := K0.out.at_ 0 _ rfl; replace c01 := K0.out.at_ 1 _ rfl; replace c02 := K0.out.at_ 2 _ rfl; replace c10 := K1.out.at_ 0 _ rfl; replace c11 := K1.out.at_ 1 _ rfl; replace c12 := K1.out.at_ 2 _ rfl)
    | (go_at_call 42; (with_reducible refine (S2.out _ (Near.base (by first | exact Near.same _ | exact Near.one _) B.out)).mono ?_); rintro e wx ⟨rfl, q⟩; replace K0 := Lib.hid (K0.out.near (by first | exact Near.same _ | exact Near.one _) q); replace K1 := Lib.hid (K1.out.near (by first | exact Near.same _ | exact Near.one _) q); replace B := Lib.hid (Near.go (by first | exact Near.same _ | exact Near.one _) B.out q B.out.size); clear q; replace c00 := K0.out.at_ 0 _ rfl; replace c01 := K0.out.at_ 1 _ rfl; replace c02 := K0.out.at_ 2 _ rfl; replace c10 := K1.out.at_ 0 _ rfl; replace c11 := K1.out.at_ 1 _ rfl; replace c12 := K1.out.at_ 2 _ rfl)
    | (go_at_call 34; (with_reducible refine (S3.out _ (Near.base (by first | exact Near.same _ | exact Near.one _) B.out)).mono ?_); rintro e wx ⟨rfl, q⟩; replace K0 := Lib.hid (K0.out.near (by first | exact Near.same _ | exact Near.one _) q); replace K1 := Lib.hid (K1.out.near (by first | exact Near.same _ | exact Near.one _) q); replace B := Lib.hid (Near.go (by first | exact Near.same _ | exact Near.one _) B.out q B.out.size); clear q; replace c00 := K0.out.at_ 0 _ rfl; replace c01 := K0.out.at_ 1 _ rfl; replace c02 := K0.out.at_ 2 _ rfl; replace c10 := K1.out.at_ 0 _ rfl; replace c11 := K1.out.at_ 1 _ rfl; replace c12 := K1.out.at_ 2 _ rfl)
    | (go_at_call 44; (with_reducible refine (S4.out _ (Near.base (by first | exact Near.same _ | exact Near.one _) B.out)).mono ?_); rintro e wx ⟨rfl, q⟩; replace K0 := Lib.hid (K0.out.near (by first | exact Near.same _ | exact Near.one _) q); replace K1 := Lib.hid (K1.out.near (by first | exact Near.same _ | exact Near.one _) q); replace B := Lib.hid (Near.go (by first | exact Near.same _ | exact Near.one _) B.out q B.out.size); clear q; replace c00 := K0.out.at_ 0 _ rfl; replace c01 := K0.out.at_ 1 _ rfl; replace c02 := K0.out.at_ 2 _ rfl; replace c10 := K1.out.at_ 0 _ rfl; replace c11 := K1.out.at_ 1 _ rfl; replace c12 := K1.out.at_ 2 _ rfl)
    | (go_at_call 43; (with_reducible refine (S5.out _).mono ?_); rintro e wx ⟨rfl, rfl⟩)
    | (go_at_call 29; (with_reducible refine (S6.out _ (Near.base (by first | exact Near.same _ | exact Near.one _) B.out)).mono ?_); rintro e wx ⟨rfl, q⟩; replace K0 := Lib.hid (K0.out.near (by first | exact Near.same _ | exact Near.one _) q); replace K1 := Lib.hid (K1.out.near (by first | exact Near.same _ | exact Near.one _) q); replace B := Lib.hid (Near.go (by first | exact Near.same _ | exact Near.one _) B.out q B.out.size); clear q; replace c00 := K0.out.at_ 0 _ rfl; replace c01 := K0.out.at_ 1 _ rfl; replace c02 := K0.out.at_ 2 _ rfl; replace c10 := K1.out.at_ 0 _ rfl; replace c11 := K1.out.at_ 1 _ rfl; replace c12 := K1.out.at_ 2 _ rfl)
    | fail "arm")
  go_ret2
  exact ⟨rfl, B.out⟩

set_option maxRecDepth 100000 in
set_option maxHeartbeats 2000000 in
theorem linter_2 (A C D F G H N M W4 : ByteArray) (s c _d : Int) (w : World)
    (s1 : ∀ W, Below w.heap.size w W → Calls Tryz.prog 41 #[.agg #[.string A, .string C, .string D], .agg #[.string F, .string G, .string H]] W fun e w' => e = .returned (.int .i64 0) ∧ Below W.heap.size W w')
    (s2 : ∀ W, Below w.heap.size w W → Calls Tryz.prog 42 #[.agg #[.string A, .string C, .string D], .agg #[.string F, .string G, .string H]] W fun e w' => e = .returned (.string N) ∧ Below W.heap.size W w')
    (s3 : ∀ W, Below w.heap.size w W → Calls Tryz.prog 34 #[.string ⟨#[52]⟩, .string N] W fun e w' => e = .returned (.string W4) ∧ Below W.heap.size W w')
    (s4 : ∀ W, Below w.heap.size w W → Calls Tryz.prog 44 #[.agg #[.string A, .string C, .string D], .agg #[.string F, .string G, .string H]] W fun e w' => e = .returned (.string M) ∧ Below W.heap.size W w')
    (s5 : ∀ W, Calls Tryz.prog 43 #[.string M] W fun e w' => e = .returned (.int .i64 s) ∧ W = w')
    (s6 : ∀ W, Below w.heap.size w W → Calls Tryz.prog 29 #[.string W4, .string ⟨#[49]⟩] W fun e w' => e = .returned (.int .i64 c) ∧ Below W.heap.size W w')
    (h1 : decide (s > 0) = true) (h2 : decide (c > 0) = false) :
    Calls Tryz.prog 15 #[.agg #[.string A, .string C, .string D], .agg #[.string F, .string G, .string H]] w fun e w' => e = .returned (.tuple #[.int .i64 2, .int .i64 0]) ∧ Below w.heap.size w w' := by
  have S1 := Lib.hid s1
  have S2 := Lib.hid s2
  have S3 := Lib.hid s3
  have S4 := Lib.hid s4
  have S5 := Lib.hid s5
  have S6 := Lib.hid s6
  clear s1 s2 s3 s4 s5 s6
  have k0 := Blk.fresh w #[.string A, .string C, .string D] 34
  replace k0 := k0.alloc (Obj.cells #[.string F, .string G, .string H] 34)
  have k1 := Blk.fresh (w.alloc (Obj.cells #[.string A, .string C, .string D] 34)) #[.string F, .string G, .string H] 34
  rw [show (w.alloc (Obj.cells #[.string A, .string C, .string D] 34)).heap.size = w.heap.size + 1 from World.size_alloc ..] at k1
  have b0 : Below w.heap.size w ((w.alloc (Obj.cells #[.string A, .string C, .string D] 34)).alloc (Obj.cells #[.string F, .string G, .string H] 34)) := (((Below.refl _ _).alloc (Nat.le_refl _) _).alloc (by simp; try omega) _)
  have K0 := Lib.hid k0
  have K1 := Lib.hid k1
  have B := Lib.hid b0
  clear b0 k0 k1
  go_enter Tryz.func15, Tryz.ntmps15
  go_upto_region 1 with (fail)
  generalize ((w.alloc (Obj.cells #[.string A, .string C, .string D] 34)).alloc (Obj.cells #[.string F, .string G, .string H] 34)) = W0 at *
  have c00 := K0.out.at_ 0 _ rfl
  have c01 := K0.out.at_ 1 _ rfl
  have c02 := K0.out.at_ 2 _ rfl
  have c10 := K1.out.at_ 0 _ rfl
  have c11 := K1.out.at_ 1 _ rfl
  have c12 := K1.out.at_ 2 _ rfl
  go_wp2_with (first
    | (go_at_call 41; (with_reducible refine (S1.out _ (Near.base (by first | exact Near.same _ | exact Near.one _) B.out)).mono ?_); rintro e wx ⟨rfl, q⟩; replace K0 := Lib.hid (K0.out.near (by first | exact Near.same _ | exact Near.one _) q); replace K1 := Lib.hid (K1.out.near (by first | exact Near.same _ | exact Near.one _) q); replace B := Lib.hid (Near.go (by first | exact Near.same _ | exact Near.one _) B.out q B.out.size); clear q; replace c00 := K0.out.at_ 0 _ rfl; replace c01 := K0.out.at_ 1 _ rfl; replace c02 := K0.out.at_ 2 _ rfl; replace c10 := K1.out.at_ 0 _ rfl; replace c11 := K1.out.at_ 1 _ rfl; replace c12 := K1.out.at_ 2 _ rfl)
    | (go_at_call 42; (with_reducible refine (S2.out _ (Near.base (by first | exact Near.same _ | exact Near.one _) B.out)).mono ?_); rintro e wx ⟨rfl, q⟩; replace K0 := Lib.hid (K0.out.near (by first | exact Near.same _ | exact Near.one _) q); replace K1 := Lib.hid (K1.out.near (by first | exact Near.same _ | exact Near.one _) q); replace B := Lib.hid (Near.go (by first | exact Near.same _ | exact Near.one _) B.out q B.out.size); clear q; replace c00 := K0.out.at_ 0 _ rfl; replace c01 := K0.out.at_ 1 _ rfl; replace c02 := K0.out.at_ 2 _ rfl; replace c10 := K1.out.at_ 0 _ rfl; replace c11 := K1.out.at_ 1 _ rfl; replace c12 := K1.out.at_ 2 _ rfl)
    | (go_at_call 34; (with_reducible refine (S3.out _ (Near.base (by first | exact Near.same _ | exact Near.one _) B.out)).mono ?_); rintro e wx ⟨rfl, q⟩; replace K0 := Lib.hid (K0.out.near (by first | exact Near.same _ | exact Near.one _) q); replace K1 := Lib.hid (K1.out.near (by first | exact Near.same _ | exact Near.one _) q); replace B := Lib.hid (Near.go (by first | exact Near.same _ | exact Near.one _) B.out q B.out.size); clear q; replace c00 := K0.out.at_ 0 _ rfl; replace c01 := K0.out.at_ 1 _ rfl; replace c02 := K0.out.at_ 2 _ rfl; replace c10 := K1.out.at_ 0 _ rfl; replace c11 := K1.out.at_ 1 _ rfl; replace c12 := K1.out.at_ 2 _ rfl)
    | (go_at_call 44; (with_reducible refine (S4.out _ (Near.base (by first | exact Near.same _ | exact Near.one _) B.out)).mono ?_); rintro e wx ⟨rfl, q⟩; replace K0 := Lib.hid (K0.out.near (by first | exact Near.same _ | exact Near.one _) q); replace K1 := Lib.hid (K1.out.near (by first | exact Near.same _ | exact Near.one _) q); replace B := Lib.hid (Near.go (by first | exact Near.same _ | exact Near.one _) B.out q B.out.size); clear q; replace c00 := K0.out.at_ 0 _ rfl; replace c01 := K0.out.at_ 1 _ rfl; replace c02 := K0.out.at_ 2 _ rfl; replace c10 := K1.out.at_ 0 _ rfl; replace c11 := K1.out.at_ 1 _ rfl; replace c12 := K1.out.at_ 2 _ rfl)
    | (go_at_call 43; (with_reducible refine (S5.out _).mono ?_); rintro e wx ⟨rfl, rfl⟩)
    | (go_at_call 29; (with_reducible refine (S6.out _ (Near.base (by first | exact Near.same _ | exact Near.one _) B.out)).mono ?_); rintro e wx ⟨rfl, q⟩; replace K0 := Lib.hid (K0.out.near (by first | exact Near.same _ | exact Near.one _) q); replace K1 := Lib.hid (K1.out.near (by first | exact Near.same _ | exact Near.one _) q); replace B := Lib.hid (Near.go (by first | exact Near.same _ | exact Near.one _) B.out q B.out.size); clear q; replace c00 := K0.out.at_ 0 _ rfl; replace c01 := K0.out.at_ 1 _ rfl; replace c02 := K0.out.at_ 2 _ rfl; replace c10 := K1.out.at_ 0 _ rfl; replace c11 := K1.out.at_ 1 _ rfl; replace c12 := K1.out.at_ 2 _ rfl)
    | fail "arm")
  go_ret2
  exact ⟨rfl, B.out⟩

set_option maxRecDepth 100000 in
set_option maxHeartbeats 2000000 in
theorem linter_3 (A C D F G H N M W4 : ByteArray) (s c _d : Int) (w : World)
    (s1 : ∀ W, Below w.heap.size w W → Calls Tryz.prog 41 #[.agg #[.string A, .string C, .string D], .agg #[.string F, .string G, .string H]] W fun e w' => e = .returned (.int .i64 0) ∧ Below W.heap.size W w')
    (s2 : ∀ W, Below w.heap.size w W → Calls Tryz.prog 42 #[.agg #[.string A, .string C, .string D], .agg #[.string F, .string G, .string H]] W fun e w' => e = .returned (.string N) ∧ Below W.heap.size W w')
    (s3 : ∀ W, Below w.heap.size w W → Calls Tryz.prog 34 #[.string ⟨#[52]⟩, .string N] W fun e w' => e = .returned (.string W4) ∧ Below W.heap.size W w')
    (s4 : ∀ W, Below w.heap.size w W → Calls Tryz.prog 44 #[.agg #[.string A, .string C, .string D], .agg #[.string F, .string G, .string H]] W fun e w' => e = .returned (.string M) ∧ Below W.heap.size W w')
    (s5 : ∀ W, Calls Tryz.prog 43 #[.string M] W fun e w' => e = .returned (.int .i64 s) ∧ W = w')
    (s6 : ∀ W, Below w.heap.size w W → Calls Tryz.prog 29 #[.string W4, .string ⟨#[49]⟩] W fun e w' => e = .returned (.int .i64 c) ∧ Below W.heap.size W w')
    (h1 : decide (s > 0) = false) (h2 : decide (c < 0) = true) :
    Calls Tryz.prog 15 #[.agg #[.string A, .string C, .string D], .agg #[.string F, .string G, .string H]] w fun e w' => e = .returned (.tuple #[.int .i64 3, .int .i64 0]) ∧ Below w.heap.size w w' := by
  have S1 := Lib.hid s1
  have S2 := Lib.hid s2
  have S3 := Lib.hid s3
  have S4 := Lib.hid s4
  have S5 := Lib.hid s5
  have S6 := Lib.hid s6
  clear s1 s2 s3 s4 s5 s6
  have k0 := Blk.fresh w #[.string A, .string C, .string D] 34
  replace k0 := k0.alloc (Obj.cells #[.string F, .string G, .string H] 34)
  have k1 := Blk.fresh (w.alloc (Obj.cells #[.string A, .string C, .string D] 34)) #[.string F, .string G, .string H] 34
  rw [show (w.alloc (Obj.cells #[.string A, .string C, .string D] 34)).heap.size = w.heap.size + 1 from World.size_alloc ..] at k1
  have b0 : Below w.heap.size w ((w.alloc (Obj.cells #[.string A, .string C, .string D] 34)).alloc (Obj.cells #[.string F, .string G, .string H] 34)) := (((Below.refl _ _).alloc (Nat.le_refl _) _).alloc (by simp; try omega) _)
  have K0 := Lib.hid k0
  have K1 := Lib.hid k1
  have B := Lib.hid b0
  clear b0 k0 k1
  go_enter Tryz.func15, Tryz.ntmps15
  go_upto_region 1 with (fail)
  generalize ((w.alloc (Obj.cells #[.string A, .string C, .string D] 34)).alloc (Obj.cells #[.string F, .string G, .string H] 34)) = W0 at *
  have c00 := K0.out.at_ 0 _ rfl
  have c01 := K0.out.at_ 1 _ rfl
  have c02 := K0.out.at_ 2 _ rfl
  have c10 := K1.out.at_ 0 _ rfl
  have c11 := K1.out.at_ 1 _ rfl
  have c12 := K1.out.at_ 2 _ rfl
  go_wp2_with (first
    | (go_at_call 41; (with_reducible refine (S1.out _ (Near.base (by first | exact Near.same _ | exact Near.one _) B.out)).mono ?_); rintro e wx ⟨rfl, q⟩; replace K0 := Lib.hid (K0.out.near (by first | exact Near.same _ | exact Near.one _) q); replace K1 := Lib.hid (K1.out.near (by first | exact Near.same _ | exact Near.one _) q); replace B := Lib.hid (Near.go (by first | exact Near.same _ | exact Near.one _) B.out q B.out.size); clear q; replace c00 := K0.out.at_ 0 _ rfl; replace c01 := K0.out.at_ 1 _ rfl; replace c02 := K0.out.at_ 2 _ rfl; replace c10 := K1.out.at_ 0 _ rfl; replace c11 := K1.out.at_ 1 _ rfl; replace c12 := K1.out.at_ 2 _ rfl)
    | (go_at_call 42; (with_reducible refine (S2.out _ (Near.base (by first | exact Near.same _ | exact Near.one _) B.out)).mono ?_); rintro e wx ⟨rfl, q⟩; replace K0 := Lib.hid (K0.out.near (by first | exact Near.same _ | exact Near.one _) q); replace K1 := Lib.hid (K1.out.near (by first | exact Near.same _ | exact Near.one _) q); replace B := Lib.hid (Near.go (by first | exact Near.same _ | exact Near.one _) B.out q B.out.size); clear q; replace c00 := K0.out.at_ 0 _ rfl; replace c01 := K0.out.at_ 1 _ rfl; replace c02 := K0.out.at_ 2 _ rfl; replace c10 := K1.out.at_ 0 _ rfl; replace c11 := K1.out.at_ 1 _ rfl; replace c12 := K1.out.at_ 2 _ rfl)
    | (go_at_call 34; (with_reducible refine (S3.out _ (Near.base (by first | exact Near.same _ | exact Near.one _) B.out)).mono ?_); rintro e wx ⟨rfl, q⟩; replace K0 := Lib.hid (K0.out.near (by first | exact Near.same _ | exact Near.one _) q); replace K1 := Lib.hid (K1.out.near (by first | exact Near.same _ | exact Near.one _) q); replace B := Lib.hid (Near.go (by first | exact Near.same _ | exact Near.one _) B.out q B.out.size); clear q; replace c00 := K0.out.at_ 0 _ rfl; replace c01 := K0.out.at_ 1 _ rfl; replace c02 := K0.out.at_ 2 _ rfl; replace c10 := K1.out.at_ 0 _ rfl; replace c11 := K1.out.at_ 1 _ rfl; replace c12 := K1.out.at_ 2 _ rfl)
    | (go_at_call 44; (with_reducible refine (S4.out _ (Near.base (by first | exact Near.same _ | exact Near.one _) B.out)).mono ?_); rintro e wx ⟨rfl, q⟩; replace K0 := Lib.hid (K0.out.near (by first | exact Near.same _ | exact Near.one _) q); replace K1 := Lib.hid (K1.out.near (by first | exact Near.same _ | exact Near.one _) q); replace B := Lib.hid (Near.go (by first | exact Near.same _ | exact Near.one _) B.out q B.out.size); clear q; replace c00 := K0.out.at_ 0 _ rfl; replace c01 := K0.out.at_ 1 _ rfl; replace c02 := K0.out.at_ 2 _ rfl; replace c10 := K1.out.at_ 0 _ rfl; replace c11 := K1.out.at_ 1 _ rfl; replace c12 := K1.out.at_ 2 _ rfl)
    | (go_at_call 43; (with_reducible refine (S5.out _).mono ?_); rintro e wx ⟨rfl, rfl⟩)
    | (go_at_call 29; (with_reducible refine (S6.out _ (Near.base (by first | exact Near.same _ | exact Near.one _) B.out)).mono ?_); rintro e wx ⟨rfl, q⟩; replace K0 := Lib.hid (K0.out.near (by first | exact Near.same _ | exact Near.one _) q); replace K1 := Lib.hid (K1.out.near (by first | exact Near.same _ | exact Near.one _) q); replace B := Lib.hid (Near.go (by first | exact Near.same _ | exact Near.one _) B.out q B.out.size); clear q; replace c00 := K0.out.at_ 0 _ rfl; replace c01 := K0.out.at_ 1 _ rfl; replace c02 := K0.out.at_ 2 _ rfl; replace c10 := K1.out.at_ 0 _ rfl; replace c11 := K1.out.at_ 1 _ rfl; replace c12 := K1.out.at_ 2 _ rfl)
    | fail "arm")
  go_ret2
  exact ⟨rfl, B.out⟩

set_option maxRecDepth 100000 in
set_option maxHeartbeats 2000000 in
theorem linter_4 (A C D F G H N M W4 : ByteArray) (s c d : Int) (w : World)
    (s1 : ∀ W, Below w.heap.size w W → Calls Tryz.prog 41 #[.agg #[.string A, .string C, .string D], .agg #[.string F, .string G, .string H]] W fun e w' => e = .returned (.int .i64 0) ∧ Below W.heap.size W w')
    (s2 : ∀ W, Below w.heap.size w W → Calls Tryz.prog 42 #[.agg #[.string A, .string C, .string D], .agg #[.string F, .string G, .string H]] W fun e w' => e = .returned (.string N) ∧ Below W.heap.size W w')
    (s3 : ∀ W, Below w.heap.size w W → Calls Tryz.prog 34 #[.string ⟨#[52]⟩, .string N] W fun e w' => e = .returned (.string W4) ∧ Below W.heap.size W w')
    (s4 : ∀ W, Below w.heap.size w W → Calls Tryz.prog 44 #[.agg #[.string A, .string C, .string D], .agg #[.string F, .string G, .string H]] W fun e w' => e = .returned (.string M) ∧ Below W.heap.size W w')
    (s5 : ∀ W, Calls Tryz.prog 43 #[.string M] W fun e w' => e = .returned (.int .i64 s) ∧ W = w')
    (s6 : ∀ W, Below w.heap.size w W → Calls Tryz.prog 29 #[.string W4, .string ⟨#[49]⟩] W fun e w' => e = .returned (.int .i64 c) ∧ Below W.heap.size W w')
    (s7 : ∀ W, Below w.heap.size w W → Calls Tryz.prog 29 #[.string W4, .string ⟨#[51]⟩] W fun e w' => e = .returned (.int .i64 d) ∧ Below W.heap.size W w')
    (h1 : decide (s > 0) = false) (h2 : decide (c < 0) = false) (h3 : decide (d < 0) = true) :
    Calls Tryz.prog 15 #[.agg #[.string A, .string C, .string D], .agg #[.string F, .string G, .string H]] w fun e w' => e = .returned (.tuple #[.int .i64 4, .int .i64 0]) ∧ Below w.heap.size w w' := by
  have S1 := Lib.hid s1
  have S2 := Lib.hid s2
  have S3 := Lib.hid s3
  have S4 := Lib.hid s4
  have S5 := Lib.hid s5
  have S6 := Lib.hid s6
  have S7 := Lib.hid s7
  clear s1 s2 s3 s4 s5 s6 s7
  have k0 := Blk.fresh w #[.string A, .string C, .string D] 34
  replace k0 := k0.alloc (Obj.cells #[.string F, .string G, .string H] 34)
  have k1 := Blk.fresh (w.alloc (Obj.cells #[.string A, .string C, .string D] 34)) #[.string F, .string G, .string H] 34
  rw [show (w.alloc (Obj.cells #[.string A, .string C, .string D] 34)).heap.size = w.heap.size + 1 from World.size_alloc ..] at k1
  have b0 : Below w.heap.size w ((w.alloc (Obj.cells #[.string A, .string C, .string D] 34)).alloc (Obj.cells #[.string F, .string G, .string H] 34)) := (((Below.refl _ _).alloc (Nat.le_refl _) _).alloc (by simp; try omega) _)
  have K0 := Lib.hid k0
  have K1 := Lib.hid k1
  have B := Lib.hid b0
  clear b0 k0 k1
  go_enter Tryz.func15, Tryz.ntmps15
  go_upto_region 1 with (fail)
  generalize ((w.alloc (Obj.cells #[.string A, .string C, .string D] 34)).alloc (Obj.cells #[.string F, .string G, .string H] 34)) = W0 at *
  have c00 := K0.out.at_ 0 _ rfl
  have c01 := K0.out.at_ 1 _ rfl
  have c02 := K0.out.at_ 2 _ rfl
  have c10 := K1.out.at_ 0 _ rfl
  have c11 := K1.out.at_ 1 _ rfl
  have c12 := K1.out.at_ 2 _ rfl
  go_wp2_with (first
    | (go_at_call 41; (with_reducible refine (S1.out _ (Near.base (by first | exact Near.same _ | exact Near.one _) B.out)).mono ?_); rintro e wx ⟨rfl, q⟩; replace K0 := Lib.hid (K0.out.near (by first | exact Near.same _ | exact Near.one _) q); replace K1 := Lib.hid (K1.out.near (by first | exact Near.same _ | exact Near.one _) q); replace B := Lib.hid (Near.go (by first | exact Near.same _ | exact Near.one _) B.out q B.out.size); clear q; replace c00 := K0.out.at_ 0 _ rfl; replace c01 := K0.out.at_ 1 _ rfl; replace c02 := K0.out.at_ 2 _ rfl; replace c10 := K1.out.at_ 0 _ rfl; replace c11 := K1.out.at_ 1 _ rfl; replace c12 := K1.out.at_ 2 _ rfl)
    | (go_at_call 42; (with_reducible refine (S2.out _ (Near.base (by first | exact Near.same _ | exact Near.one _) B.out)).mono ?_); rintro e wx ⟨rfl, q⟩; replace K0 := Lib.hid (K0.out.near (by first | exact Near.same _ | exact Near.one _) q); replace K1 := Lib.hid (K1.out.near (by first | exact Near.same _ | exact Near.one _) q); replace B := Lib.hid (Near.go (by first | exact Near.same _ | exact Near.one _) B.out q B.out.size); clear q; replace c00 := K0.out.at_ 0 _ rfl; replace c01 := K0.out.at_ 1 _ rfl; replace c02 := K0.out.at_ 2 _ rfl; replace c10 := K1.out.at_ 0 _ rfl; replace c11 := K1.out.at_ 1 _ rfl; replace c12 := K1.out.at_ 2 _ rfl)
    | (go_at_call 34; (with_reducible refine (S3.out _ (Near.base (by first | exact Near.same _ | exact Near.one _) B.out)).mono ?_); rintro e wx ⟨rfl, q⟩; replace K0 := Lib.hid (K0.out.near (by first | exact Near.same _ | exact Near.one _) q); replace K1 := Lib.hid (K1.out.near (by first | exact Near.same _ | exact Near.one _) q); replace B := Lib.hid (Near.go (by first | exact Near.same _ | exact Near.one _) B.out q B.out.size); clear q; replace c00 := K0.out.at_ 0 _ rfl; replace c01 := K0.out.at_ 1 _ rfl; replace c02 := K0.out.at_ 2 _ rfl; replace c10 := K1.out.at_ 0 _ rfl; replace c11 := K1.out.at_ 1 _ rfl; replace c12 := K1.out.at_ 2 _ rfl)
    | (go_at_call 44; (with_reducible refine (S4.out _ (Near.base (by first | exact Near.same _ | exact Near.one _) B.out)).mono ?_); rintro e wx ⟨rfl, q⟩; replace K0 := Lib.hid (K0.out.near (by first | exact Near.same _ | exact Near.one _) q); replace K1 := Lib.hid (K1.out.near (by first | exact Near.same _ | exact Near.one _) q); replace B := Lib.hid (Near.go (by first | exact Near.same _ | exact Near.one _) B.out q B.out.size); clear q; replace c00 := K0.out.at_ 0 _ rfl; replace c01 := K0.out.at_ 1 _ rfl; replace c02 := K0.out.at_ 2 _ rfl; replace c10 := K1.out.at_ 0 _ rfl; replace c11 := K1.out.at_ 1 _ rfl; replace c12 := K1.out.at_ 2 _ rfl)
    | (go_at_call 43; (with_reducible refine (S5.out _).mono ?_); rintro e wx ⟨rfl, rfl⟩)
    | (go_at_call 29; (with_reducible refine (S6.out _ (Near.base (by first | exact Near.same _ | exact Near.one _) B.out)).mono ?_); rintro e wx ⟨rfl, q⟩; replace K0 := Lib.hid (K0.out.near (by first | exact Near.same _ | exact Near.one _) q); replace K1 := Lib.hid (K1.out.near (by first | exact Near.same _ | exact Near.one _) q); replace B := Lib.hid (Near.go (by first | exact Near.same _ | exact Near.one _) B.out q B.out.size); clear q; replace c00 := K0.out.at_ 0 _ rfl; replace c01 := K0.out.at_ 1 _ rfl; replace c02 := K0.out.at_ 2 _ rfl; replace c10 := K1.out.at_ 0 _ rfl; replace c11 := K1.out.at_ 1 _ rfl; replace c12 := K1.out.at_ 2 _ rfl)
    | (go_at_call 29; (with_reducible refine (S7.out _ (Near.base (by first | exact Near.same _ | exact Near.one _) B.out)).mono ?_); rintro e wx ⟨rfl, q⟩; replace K0 := Lib.hid (K0.out.near (by first | exact Near.same _ | exact Near.one _) q); replace K1 := Lib.hid (K1.out.near (by first | exact Near.same _ | exact Near.one _) q); replace B := Lib.hid (Near.go (by first | exact Near.same _ | exact Near.one _) B.out q B.out.size); clear q; replace c00 := K0.out.at_ 0 _ rfl; replace c01 := K0.out.at_ 1 _ rfl; replace c02 := K0.out.at_ 2 _ rfl; replace c10 := K1.out.at_ 0 _ rfl; replace c11 := K1.out.at_ 1 _ rfl; replace c12 := K1.out.at_ 2 _ rfl)
    | fail "arm")
  go_ret2
  exact ⟨rfl, B.out⟩

set_option maxRecDepth 100000 in
set_option maxHeartbeats 2000000 in
theorem linter_5 (A C D F G H N M W4 : ByteArray) (s c d : Int) (w : World)
    (s1 : ∀ W, Below w.heap.size w W → Calls Tryz.prog 41 #[.agg #[.string A, .string C, .string D], .agg #[.string F, .string G, .string H]] W fun e w' => e = .returned (.int .i64 0) ∧ Below W.heap.size W w')
    (s2 : ∀ W, Below w.heap.size w W → Calls Tryz.prog 42 #[.agg #[.string A, .string C, .string D], .agg #[.string F, .string G, .string H]] W fun e w' => e = .returned (.string N) ∧ Below W.heap.size W w')
    (s3 : ∀ W, Below w.heap.size w W → Calls Tryz.prog 34 #[.string ⟨#[52]⟩, .string N] W fun e w' => e = .returned (.string W4) ∧ Below W.heap.size W w')
    (s4 : ∀ W, Below w.heap.size w W → Calls Tryz.prog 44 #[.agg #[.string A, .string C, .string D], .agg #[.string F, .string G, .string H]] W fun e w' => e = .returned (.string M) ∧ Below W.heap.size W w')
    (s5 : ∀ W, Calls Tryz.prog 43 #[.string M] W fun e w' => e = .returned (.int .i64 s) ∧ W = w')
    (s6 : ∀ W, Below w.heap.size w W → Calls Tryz.prog 29 #[.string W4, .string ⟨#[49]⟩] W fun e w' => e = .returned (.int .i64 c) ∧ Below W.heap.size W w')
    (s7 : ∀ W, Below w.heap.size w W → Calls Tryz.prog 29 #[.string W4, .string ⟨#[51]⟩] W fun e w' => e = .returned (.int .i64 d) ∧ Below W.heap.size W w')
    (h1 : decide (s > 0) = false) (h2 : decide (c < 0) = false) (h3 : decide (d < 0) = false) :
    Calls Tryz.prog 15 #[.agg #[.string A, .string C, .string D], .agg #[.string F, .string G, .string H]] w fun e w' => e = .returned (.tuple #[.int .i64 5, .int .i64 0]) ∧ Below w.heap.size w w' := by
  have S1 := Lib.hid s1
  have S2 := Lib.hid s2
  have S3 := Lib.hid s3
  have S4 := Lib.hid s4
  have S5 := Lib.hid s5
  have S6 := Lib.hid s6
  have S7 := Lib.hid s7
  clear s1 s2 s3 s4 s5 s6 s7
  have k0 := Blk.fresh w #[.string A, .string C, .string D] 34
  replace k0 := k0.alloc (Obj.cells #[.string F, .string G, .string H] 34)
  have k1 := Blk.fresh (w.alloc (Obj.cells #[.string A, .string C, .string D] 34)) #[.string F, .string G, .string H] 34
  rw [show (w.alloc (Obj.cells #[.string A, .string C, .string D] 34)).heap.size = w.heap.size + 1 from World.size_alloc ..] at k1
  have b0 : Below w.heap.size w ((w.alloc (Obj.cells #[.string A, .string C, .string D] 34)).alloc (Obj.cells #[.string F, .string G, .string H] 34)) := (((Below.refl _ _).alloc (Nat.le_refl _) _).alloc (by simp; try omega) _)
  have K0 := Lib.hid k0
  have K1 := Lib.hid k1
  have B := Lib.hid b0
  clear b0 k0 k1
  go_enter Tryz.func15, Tryz.ntmps15
  go_upto_region 1 with (fail)
  generalize ((w.alloc (Obj.cells #[.string A, .string C, .string D] 34)).alloc (Obj.cells #[.string F, .string G, .string H] 34)) = W0 at *
  have c00 := K0.out.at_ 0 _ rfl
  have c01 := K0.out.at_ 1 _ rfl
  have c02 := K0.out.at_ 2 _ rfl
  have c10 := K1.out.at_ 0 _ rfl
  have c11 := K1.out.at_ 1 _ rfl
  have c12 := K1.out.at_ 2 _ rfl
  go_wp2_with (first
    | (go_at_call 41; (with_reducible refine (S1.out _ (Near.base (by first | exact Near.same _ | exact Near.one _) B.out)).mono ?_); rintro e wx ⟨rfl, q⟩; replace K0 := Lib.hid (K0.out.near (by first | exact Near.same _ | exact Near.one _) q); replace K1 := Lib.hid (K1.out.near (by first | exact Near.same _ | exact Near.one _) q); replace B := Lib.hid (Near.go (by first | exact Near.same _ | exact Near.one _) B.out q B.out.size); clear q; replace c00 := K0.out.at_ 0 _ rfl; replace c01 := K0.out.at_ 1 _ rfl; replace c02 := K0.out.at_ 2 _ rfl; replace c10 := K1.out.at_ 0 _ rfl; replace c11 := K1.out.at_ 1 _ rfl; replace c12 := K1.out.at_ 2 _ rfl)
    | (go_at_call 42; (with_reducible refine (S2.out _ (Near.base (by first | exact Near.same _ | exact Near.one _) B.out)).mono ?_); rintro e wx ⟨rfl, q⟩; replace K0 := Lib.hid (K0.out.near (by first | exact Near.same _ | exact Near.one _) q); replace K1 := Lib.hid (K1.out.near (by first | exact Near.same _ | exact Near.one _) q); replace B := Lib.hid (Near.go (by first | exact Near.same _ | exact Near.one _) B.out q B.out.size); clear q; replace c00 := K0.out.at_ 0 _ rfl; replace c01 := K0.out.at_ 1 _ rfl; replace c02 := K0.out.at_ 2 _ rfl; replace c10 := K1.out.at_ 0 _ rfl; replace c11 := K1.out.at_ 1 _ rfl; replace c12 := K1.out.at_ 2 _ rfl)
    | (go_at_call 34; (with_reducible refine (S3.out _ (Near.base (by first | exact Near.same _ | exact Near.one _) B.out)).mono ?_); rintro e wx ⟨rfl, q⟩; replace K0 := Lib.hid (K0.out.near (by first | exact Near.same _ | exact Near.one _) q); replace K1 := Lib.hid (K1.out.near (by first | exact Near.same _ | exact Near.one _) q); replace B := Lib.hid (Near.go (by first | exact Near.same _ | exact Near.one _) B.out q B.out.size); clear q; replace c00 := K0.out.at_ 0 _ rfl; replace c01 := K0.out.at_ 1 _ rfl; replace c02 := K0.out.at_ 2 _ rfl; replace c10 := K1.out.at_ 0 _ rfl; replace c11 := K1.out.at_ 1 _ rfl; replace c12 := K1.out.at_ 2 _ rfl)
    | (go_at_call 44; (with_reducible refine (S4.out _ (Near.base (by first | exact Near.same _ | exact Near.one _) B.out)).mono ?_); rintro e wx ⟨rfl, q⟩; replace K0 := Lib.hid (K0.out.near (by first | exact Near.same _ | exact Near.one _) q); replace K1 := Lib.hid (K1.out.near (by first | exact Near.same _ | exact Near.one _) q); replace B := Lib.hid (Near.go (by first | exact Near.same _ | exact Near.one _) B.out q B.out.size); clear q; replace c00 := K0.out.at_ 0 _ rfl; replace c01 := K0.out.at_ 1 _ rfl; replace c02 := K0.out.at_ 2 _ rfl; replace c10 := K1.out.at_ 0 _ rfl; replace c11 := K1.out.at_ 1 _ rfl; replace c12 := K1.out.at_ 2 _ rfl)
    | (go_at_call 43; (with_reducible refine (S5.out _).mono ?_); rintro e wx ⟨rfl, rfl⟩)
    | (go_at_call 29; (with_reducible refine (S6.out _ (Near.base (by first | exact Near.same _ | exact Near.one _) B.out)).mono ?_); rintro e wx ⟨rfl, q⟩; replace K0 := Lib.hid (K0.out.near (by first | exact Near.same _ | exact Near.one _) q); replace K1 := Lib.hid (K1.out.near (by first | exact Near.same _ | exact Near.one _) q); replace B := Lib.hid (Near.go (by first | exact Near.same _ | exact Near.one _) B.out q B.out.size); clear q; replace c00 := K0.out.at_ 0 _ rfl; replace c01 := K0.out.at_ 1 _ rfl; replace c02 := K0.out.at_ 2 _ rfl; replace c10 := K1.out.at_ 0 _ rfl; replace c11 := K1.out.at_ 1 _ rfl; replace c12 := K1.out.at_ 2 _ rfl)
    | (go_at_call 29; (with_reducible refine (S7.out _ (Near.base (by first | exact Near.same _ | exact Near.one _) B.out)).mono ?_); rintro e wx ⟨rfl, q⟩; replace K0 := Lib.hid (K0.out.near (by first | exact Near.same _ | exact Near.one _) q); replace K1 := Lib.hid (K1.out.near (by first | exact Near.same _ | exact Near.one _) q); replace B := Lib.hid (Near.go (by first | exact Near.same _ | exact Near.one _) B.out q B.out.size); clear q; replace c00 := K0.out.at_ 0 _ rfl; replace c01 := K0.out.at_ 1 _ rfl; replace c02 := K0.out.at_ 2 _ rfl; replace c10 := K1.out.at_ 0 _ rfl; replace c11 := K1.out.at_ 1 _ rfl; replace c12 := K1.out.at_ 2 _ rfl)
    | fail "arm")
  go_ret2
  exact ⟨rfl, B.out⟩

end Go.Proofs.YtajkeoapfkkjbaaGreatDoor
