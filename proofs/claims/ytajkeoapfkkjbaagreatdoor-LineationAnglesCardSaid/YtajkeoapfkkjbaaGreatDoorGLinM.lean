/- The walks of the model of klippelaw16 on ints. -/
import Derived.Test.YtajkeoapfkkjbaaGreatDoorLinY
import Derived.Test.YtajkeoapfkkjbaaGreatDoorLinR
import Derived.Outline
import Derived.BigQuiet
/- The walks of the model's functions of klippelaw16. -/
namespace Go.Proofs.YtajkeoapfkkjbaaGreatDoor
set_option linter.all false
open Go.RowKit

set_option maxHeartbeats 1000000 in
/-- What '==' says of two arrays of three ints. -/
theorem eqI3 (a b c d e f : Int) (w : World) : (Op.equalIn 10000 27 (.agg #[.int .i64 a, .int .i64 b, .int .i64 c]) (.agg #[.int .i64 d, .int .i64 e, .int .i64 f])).run Tryz.prog w = .ok (a == d && (b == e && c == f)) w := by
  have u3 := Tryz.underlying3
  have a3 := Tryz.isAgg3
  have z3 := Tryz.sizeOf3
  rw [show (10000 : Nat) = 9999 + 1 from rfl, Op.equalIn]
  simp only [Sem.run_bind, run_underlying Tryz.underlying27, Result.andThen_ok]
  simp only [Std.Legacy.Range.forIn_eq_forIn_range', Std.Legacy.Range.size, Nat.sub_zero, Nat.add_sub_cancel, Nat.div_one, List.range'_succ, List.range'_zero, List.forIn_cons, List.forIn_nil]
  go_simp
  by_cases h1 : a = d <;> by_cases h2 : b = e <;> by_cases h3 : c = f <;> simp [h1, h2, h3]

set_option maxRecDepth 100000 in
set_option maxHeartbeats 2000000 in
theorem ints_of (x y z b : Int) (w : World)
    (x0 : -128 ≤ x) (x1 : x ≤ 127) (y0 : -128 ≤ y) (y1 : y ≤ 127) (z0 : -128 ≤ z) (z1 : z ≤ 127) (_b0 : 0 ≤ b) (_b1 : b ≤ 255) :
    Calls Tryz.prog 14 #[.agg #[.int .i8 x, .int .i8 y, .int .i8 z, .int .u8 b]] w fun e w' => e = .returned (.agg #[.int .i64 (x.tmod 21), .int .i64 (y.tmod 21), .int .i64 (z.tmod 21)]) ∧ Below w.heap.size w w' := by
  have k0 := Blk.fresh w #[.int .i8 x, .int .i8 y, .int .i8 z, .int .u8 b] 24
  replace k0 := k0.alloc (Obj.cells #[.int .i64 0, .int .i64 0, .int .i64 0] 27)
  have k1 := Blk.fresh (w.alloc (Obj.cells #[.int .i8 x, .int .i8 y, .int .i8 z, .int .u8 b] 24)) #[.int .i64 0, .int .i64 0, .int .i64 0] 27
  rw [show (w.alloc (Obj.cells #[.int .i8 x, .int .i8 y, .int .i8 z, .int .u8 b] 24)).heap.size = w.heap.size + 1 from World.size_alloc ..] at k1
  have bb : Below w.heap.size w ((w.alloc (Obj.cells #[.int .i8 x, .int .i8 y, .int .i8 z, .int .u8 b] 24)).alloc (Obj.cells #[.int .i64 0, .int .i64 0, .int .i64 0] 27)) := (((Below.refl _ _).alloc (Nat.le_refl _) _).alloc (by simp; try omega) _)
  have K0 := Lib.hid k0
  have K1 := Lib.hid k1
  have B := Lib.hid bb
  clear bb k0 k1
  go_enter Tryz.func14, Tryz.ntmps14
  go_upto_region 1 with (fail)
  generalize ((w.alloc (Obj.cells #[.int .i8 x, .int .i8 y, .int .i8 z, .int .u8 b] 24)).alloc (Obj.cells #[.int .i64 0, .int .i64 0, .int .i64 0] 27)) = W0 at *
  have c00 := K0.out.at_ 0 _ rfl
  have c01 := K0.out.at_ 1 _ rfl
  have c02 := K0.out.at_ 2 _ rfl
  have c10 := K1.out.at_ 0 _ rfl
  have c11 := K1.out.at_ 1 _ rfl
  have c12 := K1.out.at_ 2 _ rfl
  have z10 := K1.out.free 0
  have z11 := K1.out.free 1
  have z12 := K1.out.free 2
  go_wp2
  have R3 := K1.out.set3 (.int .i64 (x.tmod 21)) (.int .i64 (y.tmod 21)) (.int .i64 (z.tmod 21))
  have B3 := Lib.hid (B.out.trans (below_else3 W0 w.heap.size (w.heap.size + 1) (by omega) (.int .i64 (x.tmod 21)) (.int .i64 (y.tmod 21)) (.int .i64 (z.tmod 21))))
  generalize (((W0.setCell ⟨w.heap.size + 1, 0, none⟩ (.int .i64 (x.tmod 21))).setCell ⟨w.heap.size + 1, 1, none⟩ (.int .i64 (y.tmod 21))).setCell ⟨w.heap.size + 1, 2, none⟩ (.int .i64 (z.tmod 21))) = W3 at *
  have e0 := R3.at_ 0 _ rfl
  have e1 := R3.at_ 1 _ rfl
  have e2 := R3.at_ 2 _ rfl
  clear R3
  exact bodyPost_ret (v := .agg #[.int .i64 (x.tmod 21), .int .i64 (y.tmod 21), .int .i64 (z.tmod 21)]) (by simp [results, Tryz.results14, go_sem, e0, e1, e2]) rfl ⟨rfl, B3.out⟩

set_option maxRecDepth 100000 in
set_option maxHeartbeats 2000000 in
theorem zero_of (x y z : Int) (r : Bool) (w : World)
    (hr : (x == 0 && (y == 0 && z == 0)) = r) :
    Calls Tryz.prog 13 #[.agg #[.int .i64 x, .int .i64 y, .int .i64 z]] w fun e w' => e = .returned (.bool r) ∧ Below w.heap.size w w' := by
  have eq := fun W => eqI3 x y z 0 0 0 W
  rw [hr] at eq
  clear hr
  have k0 := Blk.fresh w #[.int .i64 x, .int .i64 y, .int .i64 z] 27
  have b0 : Below w.heap.size w (w.alloc (Obj.cells #[.int .i64 x, .int .i64 y, .int .i64 z] 27)) := ((Below.refl _ _).alloc (Nat.le_refl _) _)
  have K0 := Lib.hid k0
  have B := Lib.hid b0
  clear b0 k0
  go_enter Tryz.func13, Tryz.ntmps13
  go_upto_region 1 with (fail)
  generalize (w.alloc (Obj.cells #[.int .i64 x, .int .i64 y, .int .i64 z] 27)) = W0 at *
  have c00 := K0.out.at_ 0 _ rfl
  have c01 := K0.out.at_ 1 _ rfl
  have c02 := K0.out.at_ 2 _ rfl
  go_wp2
  go_ret
  exact ⟨rfl, B.out⟩

theorem mul_bnd {a b : Int} (la : -2000 ≤ a) (ha : a ≤ 2000) (lb : -2000 ≤ b) (hb : b ≤ 2000) : -4000000 ≤ a * b ∧ a * b ≤ 4000000 := by
  have h1 : (a * b).natAbs ≤ 2000 * 2000 := by
    rw [Int.natAbs_mul]
    exact Nat.mul_le_mul (by omega) (by omega)
  omega

set_option maxRecDepth 100000 in
set_option maxHeartbeats 2000000 in
theorem mdot_of (a b c i j k : Int) (w : World)
    (la : -2000 ≤ a) (ha : a ≤ 2000) (lb : -2000 ≤ b) (hb : b ≤ 2000) (lc : -2000 ≤ c) (hc : c ≤ 2000) (li : -2000 ≤ i) (hi : i ≤ 2000) (lj : -2000 ≤ j) (hj : j ≤ 2000) (lk : -2000 ≤ k) (hk : k ≤ 2000) :
    Calls Tryz.prog 17 #[.agg #[.int .i64 a, .int .i64 b, .int .i64 c], .agg #[.int .i64 i, .int .i64 j, .int .i64 k]] w fun e w' => e = .returned (.int .i64 (a * i + b * j + c * k)) ∧ Below w.heap.size w w' := by
  have pai := mul_bnd la ha li hi
  have pbj := mul_bnd lb hb lj hj
  have pck := mul_bnd lc hc lk hk
  have k0 := Blk.fresh w #[.int .i64 a, .int .i64 b, .int .i64 c] 27
  replace k0 := k0.alloc (Obj.cells #[.int .i64 i, .int .i64 j, .int .i64 k] 27)
  have k1 := Blk.fresh (w.alloc (Obj.cells #[.int .i64 a, .int .i64 b, .int .i64 c] 27)) #[.int .i64 i, .int .i64 j, .int .i64 k] 27
  rw [show (w.alloc (Obj.cells #[.int .i64 a, .int .i64 b, .int .i64 c] 27)).heap.size = w.heap.size + 1 from World.size_alloc ..] at k1
  have b0 : Below w.heap.size w ((w.alloc (Obj.cells #[.int .i64 a, .int .i64 b, .int .i64 c] 27)).alloc (Obj.cells #[.int .i64 i, .int .i64 j, .int .i64 k] 27)) := (((Below.refl _ _).alloc (Nat.le_refl _) _).alloc (by simp; try omega) _)
  have K0 := Lib.hid k0
  have K1 := Lib.hid k1
  have B := Lib.hid b0
  clear b0 k0 k1
  go_enter Tryz.func17, Tryz.ntmps17
  go_upto_region 1 with (fail)
  generalize ((w.alloc (Obj.cells #[.int .i64 a, .int .i64 b, .int .i64 c] 27)).alloc (Obj.cells #[.int .i64 i, .int .i64 j, .int .i64 k] 27)) = W0 at *
  have c00 := K0.out.at_ 0 _ rfl
  have c01 := K0.out.at_ 1 _ rfl
  have c02 := K0.out.at_ 2 _ rfl
  have c10 := K1.out.at_ 0 _ rfl
  have c11 := K1.out.at_ 1 _ rfl
  have c12 := K1.out.at_ 2 _ rfl
  go_wp2
  go_ret
  exact ⟨rfl, B.out⟩

set_option maxRecDepth 100000 in
set_option maxHeartbeats 2000000 in
theorem mcross_of (a b c i j k : Int) (w : World)
    (la : -2000 ≤ a) (ha : a ≤ 2000) (lb : -2000 ≤ b) (hb : b ≤ 2000) (lc : -2000 ≤ c) (hc : c ≤ 2000) (li : -2000 ≤ i) (hi : i ≤ 2000) (lj : -2000 ≤ j) (hj : j ≤ 2000) (lk : -2000 ≤ k) (hk : k ≤ 2000) :
    Calls Tryz.prog 25 #[.agg #[.int .i64 a, .int .i64 b, .int .i64 c], .agg #[.int .i64 i, .int .i64 j, .int .i64 k]] w fun e w' => e = .returned (.agg #[.int .i64 (b * k - c * j), .int .i64 (c * i - a * k), .int .i64 (a * j - b * i)]) ∧ Below w.heap.size w w' := by
  have pbk := mul_bnd lb hb lk hk
  have pcj := mul_bnd lc hc lj hj
  have pci := mul_bnd lc hc li hi
  have pak := mul_bnd la ha lk hk
  have paj := mul_bnd la ha lj hj
  have pbi := mul_bnd lb hb li hi
  have k0 := Blk.fresh w #[.int .i64 a, .int .i64 b, .int .i64 c] 27
  replace k0 := k0.alloc (Obj.cells #[.int .i64 i, .int .i64 j, .int .i64 k] 27)
  replace k0 := k0.alloc (Obj.cells #[.int .i64 0, .int .i64 0, .int .i64 0] 27)
  have k1 := Blk.fresh (w.alloc (Obj.cells #[.int .i64 a, .int .i64 b, .int .i64 c] 27)) #[.int .i64 i, .int .i64 j, .int .i64 k] 27
  rw [show (w.alloc (Obj.cells #[.int .i64 a, .int .i64 b, .int .i64 c] 27)).heap.size = w.heap.size + 1 from World.size_alloc ..] at k1
  replace k1 := k1.alloc (Obj.cells #[.int .i64 0, .int .i64 0, .int .i64 0] 27)
  have k2 := Blk.fresh ((w.alloc (Obj.cells #[.int .i64 a, .int .i64 b, .int .i64 c] 27)).alloc (Obj.cells #[.int .i64 i, .int .i64 j, .int .i64 k] 27)) #[.int .i64 0, .int .i64 0, .int .i64 0] 27
  rw [show ((w.alloc (Obj.cells #[.int .i64 a, .int .i64 b, .int .i64 c] 27)).alloc (Obj.cells #[.int .i64 i, .int .i64 j, .int .i64 k] 27)).heap.size = w.heap.size + 2 from by simp] at k2
  have b0 : Below w.heap.size w (((w.alloc (Obj.cells #[.int .i64 a, .int .i64 b, .int .i64 c] 27)).alloc (Obj.cells #[.int .i64 i, .int .i64 j, .int .i64 k] 27)).alloc (Obj.cells #[.int .i64 0, .int .i64 0, .int .i64 0] 27)) := ((((Below.refl _ _).alloc (Nat.le_refl _) _).alloc (by simp; try omega) _).alloc (by simp; try omega) _)
  have K0 := Lib.hid k0
  have K1 := Lib.hid k1
  have K2 := Lib.hid k2
  have B := Lib.hid b0
  clear b0 k0 k1 k2
  go_enter Tryz.func25, Tryz.ntmps25
  go_upto_region 1 with (fail)
  generalize (((w.alloc (Obj.cells #[.int .i64 a, .int .i64 b, .int .i64 c] 27)).alloc (Obj.cells #[.int .i64 i, .int .i64 j, .int .i64 k] 27)).alloc (Obj.cells #[.int .i64 0, .int .i64 0, .int .i64 0] 27)) = W0 at *
  have c00 := K0.out.at_ 0 _ rfl
  have c01 := K0.out.at_ 1 _ rfl
  have c02 := K0.out.at_ 2 _ rfl
  have c10 := K1.out.at_ 0 _ rfl
  have c11 := K1.out.at_ 1 _ rfl
  have c12 := K1.out.at_ 2 _ rfl
  have c20 := K2.out.at_ 0 _ rfl
  have c21 := K2.out.at_ 1 _ rfl
  have c22 := K2.out.at_ 2 _ rfl
  have z20 := K2.out.free 0
  have z21 := K2.out.free 1
  have z22 := K2.out.free 2
  go_wp2
  have R3 := K2.out.set3 (.int .i64 (b * k - c * j)) (.int .i64 (c * i - a * k)) (.int .i64 (a * j - b * i))
  have B3 := Lib.hid (B.out.trans (below_else3 W0 w.heap.size (w.heap.size + 2) (by omega) (.int .i64 (b * k - c * j)) (.int .i64 (c * i - a * k)) (.int .i64 (a * j - b * i))))
  generalize (((W0.setCell ⟨w.heap.size + 2, 0, none⟩ (.int .i64 (b * k - c * j))).setCell ⟨w.heap.size + 2, 1, none⟩ (.int .i64 (c * i - a * k))).setCell ⟨w.heap.size + 2, 2, none⟩ (.int .i64 (a * j - b * i))) = W3 at *
  have e0 := R3.at_ 0 _ rfl
  have e1 := R3.at_ 1 _ rfl
  have e2 := R3.at_ 2 _ rfl
  clear R3
  exact bodyPost_ret (v := .agg #[.int .i64 (b * k - c * j), .int .i64 (c * i - a * k), .int .i64 (a * j - b * i)]) (by simp [results, Tryz.results25, go_sem, e0, e1, e2]) rfl ⟨rfl, B3.out⟩

set_option maxRecDepth 100000 in
set_option maxHeartbeats 2000000 in
theorem mvector_of (P1 P2 P3 : ByteArray) (a b c : Int) (w : World)
    (w1 : ∀ W, Below w.heap.size w W → Calls Tryz.prog 65 #[.int .i64 a] W fun e w' => e = .returned (.string P1) ∧ Below W.heap.size W w')
    (w2 : ∀ W, Below w.heap.size w W → Calls Tryz.prog 65 #[.int .i64 b] W fun e w' => e = .returned (.string P2) ∧ Below W.heap.size W w')
    (w3 : ∀ W, Below w.heap.size w W → Calls Tryz.prog 65 #[.int .i64 c] W fun e w' => e = .returned (.string P3) ∧ Below W.heap.size W w') :
    Calls Tryz.prog 40 #[.int .i64 a, .int .i64 b, .int .i64 c] w fun e w' => e = .returned (.agg #[.string P1, .string P2, .string P3]) ∧ Below w.heap.size w w' := by
  have W1 := Lib.hid w1
  have W2 := Lib.hid w2
  have W3 := Lib.hid w3
  clear w1 w2 w3
  have k0 := Blk.fresh w #[.string ⟨#[]⟩, .string ⟨#[]⟩, .string ⟨#[]⟩] 34
  have b0 : Below w.heap.size w (w.alloc (Obj.cells #[.string ⟨#[]⟩, .string ⟨#[]⟩, .string ⟨#[]⟩] 34)) := ((Below.refl _ _).alloc (Nat.le_refl _) _)
  have K0 := Lib.hid k0
  have B := Lib.hid b0
  clear b0 k0
  go_enter Tryz.func40, Tryz.ntmps40
  go_upto_region 1 with (fail)
  generalize (w.alloc (Obj.cells #[.string ⟨#[]⟩, .string ⟨#[]⟩, .string ⟨#[]⟩] 34)) = W0 at *
  have c00 := K0.out.at_ 0 _ rfl
  have c01 := K0.out.at_ 1 _ rfl
  have c02 := K0.out.at_ 2 _ rfl
  have z00 := K0.out.free 0
  have z01 := K0.out.free 1
  have z02 := K0.out.free 2
  go_wp2_with (first
    | (go_at_call 65; (with_reducible refine (W1.out _ (Near.base (by first | exact Near.same _ | exact Near.one _) B.out)).mono ?_); rintro e wx ⟨rfl, q⟩; replace K0 := Lib.hid (K0.out.near (by first | exact Near.same _ | exact Near.one _) q); replace B := Lib.hid (Near.go (by first | exact Near.same _ | exact Near.one _) B.out q B.out.size); clear q; replace c00 := K0.out.at_ 0 _ rfl; replace c01 := K0.out.at_ 1 _ rfl; replace c02 := K0.out.at_ 2 _ rfl; replace z00 := K0.out.free 0; replace z01 := K0.out.free 1; replace z02 := K0.out.free 2)
    | (go_at_call 65; (with_reducible refine (W2.out _ (Near.base (by first | exact Near.same _ | exact Near.one _) B.out)).mono ?_); rintro e wx ⟨rfl, q⟩; replace K0 := Lib.hid (K0.out.near (by first | exact Near.same _ | exact Near.one _) q); replace B := Lib.hid (Near.go (by first | exact Near.same _ | exact Near.one _) B.out q B.out.size); clear q; replace c00 := K0.out.at_ 0 _ rfl; replace c01 := K0.out.at_ 1 _ rfl; replace c02 := K0.out.at_ 2 _ rfl; replace z00 := K0.out.free 0; replace z01 := K0.out.free 1; replace z02 := K0.out.free 2)
    | (go_at_call 65; (with_reducible refine (W3.out _ (Near.base (by first | exact Near.same _ | exact Near.one _) B.out)).mono ?_); rintro e wx ⟨rfl, q⟩; replace K0 := Lib.hid (K0.out.near (by first | exact Near.same _ | exact Near.one _) q); replace B := Lib.hid (Near.go (by first | exact Near.same _ | exact Near.one _) B.out q B.out.size); clear q; replace c00 := K0.out.at_ 0 _ rfl; replace c01 := K0.out.at_ 1 _ rfl; replace c02 := K0.out.at_ 2 _ rfl; replace z00 := K0.out.free 0; replace z01 := K0.out.free 1; replace z02 := K0.out.free 2)
    | fail "arm")
  have R3 := K0.out.set3 (.string P1) (.string P2) (.string P3)
  have B3 := Lib.hid (B.out.trans (below_else3 wx w.heap.size (w.heap.size) (by omega) (.string P1) (.string P2) (.string P3)))
  generalize (((wx.setCell ⟨w.heap.size, 0, none⟩ (.string P1)).setCell ⟨w.heap.size, 1, none⟩ (.string P2)).setCell ⟨w.heap.size, 2, none⟩ (.string P3)) = W3 at *
  have e0 := R3.at_ 0 _ rfl
  have e1 := R3.at_ 1 _ rfl
  have e2 := R3.at_ 2 _ rfl
  clear R3
  exact bodyPost_ret (v := .agg #[.string P1, .string P2, .string P3]) (by simp [results, Tryz.results40, go_sem, e0, e1, e2]) rfl ⟨rfl, B3.out⟩

set_option maxRecDepth 100000 in
set_option maxHeartbeats 2000000 in
theorem mof_of (P1 P2 P3 : ByteArray) (a b c : Int) (w : World)
    (w1 : ∀ W, Below w.heap.size w W → Calls Tryz.prog 40 #[.int .i64 a, .int .i64 b, .int .i64 c] W fun e w' => e = .returned (.agg #[.string P1, .string P2, .string P3]) ∧ Below W.heap.size W w') :
    Calls Tryz.prog 20 #[.agg #[.int .i64 a, .int .i64 b, .int .i64 c]] w fun e w' => e = .returned (.agg #[.string P1, .string P2, .string P3]) ∧ Below w.heap.size w w' := by
  have W1 := Lib.hid w1
  clear w1
  have k0 := Blk.fresh w #[.int .i64 a, .int .i64 b, .int .i64 c] 27
  replace k0 := k0.alloc (Obj.cells #[.string ⟨#[]⟩, .string ⟨#[]⟩, .string ⟨#[]⟩] 34)
  have k1 := Blk.fresh (w.alloc (Obj.cells #[.int .i64 a, .int .i64 b, .int .i64 c] 27)) #[.string ⟨#[]⟩, .string ⟨#[]⟩, .string ⟨#[]⟩] 34
  rw [show (w.alloc (Obj.cells #[.int .i64 a, .int .i64 b, .int .i64 c] 27)).heap.size = w.heap.size + 1 from World.size_alloc ..] at k1
  have b0 : Below w.heap.size w ((w.alloc (Obj.cells #[.int .i64 a, .int .i64 b, .int .i64 c] 27)).alloc (Obj.cells #[.string ⟨#[]⟩, .string ⟨#[]⟩, .string ⟨#[]⟩] 34)) := (((Below.refl _ _).alloc (Nat.le_refl _) _).alloc (by simp; try omega) _)
  have K0 := Lib.hid k0
  have K1 := Lib.hid k1
  have B := Lib.hid b0
  clear b0 k0 k1
  go_enter Tryz.func20, Tryz.ntmps20
  go_upto_region 1 with (fail)
  generalize ((w.alloc (Obj.cells #[.int .i64 a, .int .i64 b, .int .i64 c] 27)).alloc (Obj.cells #[.string ⟨#[]⟩, .string ⟨#[]⟩, .string ⟨#[]⟩] 34)) = W0 at *
  have c00 := K0.out.at_ 0 _ rfl
  have c01 := K0.out.at_ 1 _ rfl
  have c02 := K0.out.at_ 2 _ rfl
  have c10 := K1.out.at_ 0 _ rfl
  have c11 := K1.out.at_ 1 _ rfl
  have c12 := K1.out.at_ 2 _ rfl
  have z10 := K1.out.free 0
  have z11 := K1.out.free 1
  have z12 := K1.out.free 2
  go_wp2_with (first
    | (go_at_call 40; (with_reducible refine (W1.out _ (Near.base (by first | exact Near.same _ | exact Near.one _) B.out)).mono ?_); rintro e wx ⟨rfl, q⟩; replace K0 := Lib.hid (K0.out.near (by first | exact Near.same _ | exact Near.one _) q); replace K1 := Lib.hid (K1.out.near (by first | exact Near.same _ | exact Near.one _) q); replace B := Lib.hid (Near.go (by first | exact Near.same _ | exact Near.one _) B.out q B.out.size); clear q; replace c00 := K0.out.at_ 0 _ rfl; replace c01 := K0.out.at_ 1 _ rfl; replace c02 := K0.out.at_ 2 _ rfl; replace c10 := K1.out.at_ 0 _ rfl; replace c11 := K1.out.at_ 1 _ rfl; replace c12 := K1.out.at_ 2 _ rfl; replace z10 := K1.out.free 0; replace z11 := K1.out.free 1; replace z12 := K1.out.free 2)
    | fail "arm")
  have R3 := K1.out.set3 (.string P1) (.string P2) (.string P3)
  have B3 := Lib.hid (B.out.trans (below_else3 wx w.heap.size (w.heap.size + 1) (by omega) (.string P1) (.string P2) (.string P3)))
  generalize (((wx.setCell ⟨w.heap.size + 1, 0, none⟩ (.string P1)).setCell ⟨w.heap.size + 1, 1, none⟩ (.string P2)).setCell ⟨w.heap.size + 1, 2, none⟩ (.string P3)) = W3 at *
  have e0 := R3.at_ 0 _ rfl
  have e1 := R3.at_ 1 _ rfl
  have e2 := R3.at_ 2 _ rfl
  clear R3
  exact bodyPost_ret (v := .agg #[.string P1, .string P2, .string P3]) (by simp [results, Tryz.results20, go_sem, e0, e1, e2]) rfl ⟨rfl, B3.out⟩

set_option maxRecDepth 100000 in
set_option maxHeartbeats 2000000 in
theorem mquot_of (R : ByteArray) (a b : Int) (w : World)
    (o1 : ∀ W, Below w.heap.size w W → Calls Tryz.prog 45 #[.int .i64 a, .int .i64 b] W fun e w' => e = .returned (.tuple #[.string R, .int .i64 0]) ∧ Below W.heap.size W w') :
    Calls Tryz.prog 26 #[.int .i64 a, .int .i64 b] w fun e w' => e = .returned (.string R) ∧ Below w.heap.size w w' := by
  have O1 := Lib.hid o1
  clear o1
  have B := Lib.hid (Below.refl w.heap.size w)
  go_enter Tryz.func26, Tryz.ntmps26
  go_wp2_with (first
    | (go_at_call 45; (with_reducible refine (O1.out _ (Near.base (by first | exact Near.same _ | exact Near.one _) B.out)).mono ?_); rintro e wx ⟨rfl, q⟩; replace B := Lib.hid (Near.go (by first | exact Near.same _ | exact Near.one _) B.out q B.out.size); clear q)
    | fail "arm")
  go_ret
  exact ⟨rfl, B.out⟩

set_option maxRecDepth 100000 in
set_option maxHeartbeats 2000000 in
theorem make16_of (P1 P2 P3 : ByteArray) (x y z b : Int) (w : World)
    (x0 : -128 ≤ x) (x1 : x ≤ 127) (y0 : -128 ≤ y) (y1 : y ≤ 127) (z0 : -128 ≤ z) (z1 : z ≤ 127) (b0 : 0 ≤ b) (b1 : b ≤ 255)
    (o1 : ∀ W, Below w.heap.size w W → Calls Tryz.prog 45 #[.int .i64 (x.tmod 21), .int .i64 (1 + b % 3)] W fun e w' => e = .returned (.tuple #[.string P1, .int .i64 0]) ∧ Below W.heap.size W w')
    (o2 : ∀ W, Below w.heap.size w W → Calls Tryz.prog 45 #[.int .i64 (y.tmod 21), .int .i64 (1 + b % 3)] W fun e w' => e = .returned (.tuple #[.string P2, .int .i64 0]) ∧ Below W.heap.size W w')
    (o3 : ∀ W, Below w.heap.size w W → Calls Tryz.prog 45 #[.int .i64 (z.tmod 21), .int .i64 (1 + b % 3)] W fun e w' => e = .returned (.tuple #[.string P3, .int .i64 0]) ∧ Below W.heap.size W w') :
    Calls Tryz.prog 16 #[.agg #[.int .i8 x, .int .i8 y, .int .i8 z, .int .u8 b]] w fun e w' => e = .returned (.agg #[.string P1, .string P2, .string P3]) ∧ Below w.heap.size w w' := by
  have O1 := Lib.hid o1
  have O2 := Lib.hid o2
  have O3 := Lib.hid o3
  clear o1 o2 o3
  have k0 := Blk.fresh w #[.int .i8 x, .int .i8 y, .int .i8 z, .int .u8 b] 24
  replace k0 := k0.alloc (Obj.cells #[.string ⟨#[]⟩, .string ⟨#[]⟩, .string ⟨#[]⟩] 34)
  have k1 := Blk.fresh (w.alloc (Obj.cells #[.int .i8 x, .int .i8 y, .int .i8 z, .int .u8 b] 24)) #[.string ⟨#[]⟩, .string ⟨#[]⟩, .string ⟨#[]⟩] 34
  rw [show (w.alloc (Obj.cells #[.int .i8 x, .int .i8 y, .int .i8 z, .int .u8 b] 24)).heap.size = w.heap.size + 1 from World.size_alloc ..] at k1
  have bb : Below w.heap.size w ((w.alloc (Obj.cells #[.int .i8 x, .int .i8 y, .int .i8 z, .int .u8 b] 24)).alloc (Obj.cells #[.string ⟨#[]⟩, .string ⟨#[]⟩, .string ⟨#[]⟩] 34)) := (((Below.refl _ _).alloc (Nat.le_refl _) _).alloc (by simp; try omega) _)
  have K0 := Lib.hid k0
  have K1 := Lib.hid k1
  have B := Lib.hid bb
  clear bb k0 k1
  go_enter Tryz.func16, Tryz.ntmps16
  go_upto_region 1 with (fail)
  generalize ((w.alloc (Obj.cells #[.int .i8 x, .int .i8 y, .int .i8 z, .int .u8 b] 24)).alloc (Obj.cells #[.string ⟨#[]⟩, .string ⟨#[]⟩, .string ⟨#[]⟩] 34)) = W0 at *
  have c00 := K0.out.at_ 0 _ rfl
  have c01 := K0.out.at_ 1 _ rfl
  have c02 := K0.out.at_ 2 _ rfl
  have c03 := K0.out.at_ 3 _ rfl
  have c10 := K1.out.at_ 0 _ rfl
  have c11 := K1.out.at_ 1 _ rfl
  have c12 := K1.out.at_ 2 _ rfl
  have z10 := K1.out.free 0
  have z11 := K1.out.free 1
  have z12 := K1.out.free 2
  go_wp2_with (first
    | (go_at_call 45; (with_reducible refine (O1.out _ (Near.base (by first | exact Near.same _ | exact Near.one _) B.out)).mono ?_); rintro e wx ⟨rfl, q⟩; replace K0 := Lib.hid (K0.out.near (by first | exact Near.same _ | exact Near.one _) q); replace K1 := Lib.hid (K1.out.near (by first | exact Near.same _ | exact Near.one _) q); replace B := Lib.hid (Near.go (by first | exact Near.same _ | exact Near.one _) B.out q B.out.size); clear q; replace c00 := K0.out.at_ 0 _ rfl; replace c01 := K0.out.at_ 1 _ rfl; replace c02 := K0.out.at_ 2 _ rfl; replace c03 := K0.out.at_ 3 _ rfl; replace c10 := K1.out.at_ 0 _ rfl; replace c11 := K1.out.at_ 1 _ rfl; replace c12 := K1.out.at_ 2 _ rfl; replace z10 := K1.out.free 0; replace z11 := K1.out.free 1; replace z12 := K1.out.free 2)
    | (go_at_call 45; (with_reducible refine (O2.out _ (Near.base (by first | exact Near.same _ | exact Near.one _) B.out)).mono ?_); rintro e wx ⟨rfl, q⟩; replace K0 := Lib.hid (K0.out.near (by first | exact Near.same _ | exact Near.one _) q); replace K1 := Lib.hid (K1.out.near (by first | exact Near.same _ | exact Near.one _) q); replace B := Lib.hid (Near.go (by first | exact Near.same _ | exact Near.one _) B.out q B.out.size); clear q; replace c00 := K0.out.at_ 0 _ rfl; replace c01 := K0.out.at_ 1 _ rfl; replace c02 := K0.out.at_ 2 _ rfl; replace c03 := K0.out.at_ 3 _ rfl; replace c10 := K1.out.at_ 0 _ rfl; replace c11 := K1.out.at_ 1 _ rfl; replace c12 := K1.out.at_ 2 _ rfl; replace z10 := K1.out.free 0; replace z11 := K1.out.free 1; replace z12 := K1.out.free 2)
    | (go_at_call 45; (with_reducible refine (O3.out _ (Near.base (by first | exact Near.same _ | exact Near.one _) B.out)).mono ?_); rintro e wx ⟨rfl, q⟩; replace K0 := Lib.hid (K0.out.near (by first | exact Near.same _ | exact Near.one _) q); replace K1 := Lib.hid (K1.out.near (by first | exact Near.same _ | exact Near.one _) q); replace B := Lib.hid (Near.go (by first | exact Near.same _ | exact Near.one _) B.out q B.out.size); clear q; replace c00 := K0.out.at_ 0 _ rfl; replace c01 := K0.out.at_ 1 _ rfl; replace c02 := K0.out.at_ 2 _ rfl; replace c03 := K0.out.at_ 3 _ rfl; replace c10 := K1.out.at_ 0 _ rfl; replace c11 := K1.out.at_ 1 _ rfl; replace c12 := K1.out.at_ 2 _ rfl; replace z10 := K1.out.free 0; replace z11 := K1.out.free 1; replace z12 := K1.out.free 2)
    | fail "arm")
  have R3 := K1.out.set3 (.string P1) (.string P2) (.string P3)
  have B3 := Lib.hid (B.out.trans (below_else3 wx w.heap.size (w.heap.size + 1) (by omega) (.string P1) (.string P2) (.string P3)))
  generalize (((wx.setCell ⟨w.heap.size + 1, 0, none⟩ (.string P1)).setCell ⟨w.heap.size + 1, 1, none⟩ (.string P2)).setCell ⟨w.heap.size + 1, 2, none⟩ (.string P3)) = W3 at *
  have e0 := R3.at_ 0 _ rfl
  have e1 := R3.at_ 1 _ rfl
  have e2 := R3.at_ 2 _ rfl
  clear R3
  exact bodyPost_ret (v := .agg #[.string P1, .string P2, .string P3]) (by simp [results, Tryz.results16, go_sem, e0, e1, e2]) rfl ⟨rfl, B3.out⟩

end Go.Proofs.YtajkeoapfkkjbaaGreatDoor

/- The walks of the model's check and long. -/
namespace Go.Proofs.YtajkeoapfkkjbaaGreatDoor
open Go.RowKit

set_option maxRecDepth 100000 in
set_option maxHeartbeats 2000000 in
theorem mlong_0 (X Y Z : ByteArray) (w : World)
    (x1 : decide ((X.size : Int) > 30) = true)
    (_x2 : decide (X.size > 30) = true) :
    Calls Tryz.prog 37 #[.agg #[.string X, .string Y, .string Z]] w fun e w' => e = .returned (.bool true) ∧ Below w.heap.size w w' := by
  have k0 := Blk.fresh w #[.string X, .string Y, .string Z] 34
  have b0 : Below w.heap.size w (w.alloc (Obj.cells #[.string X, .string Y, .string Z] 34)) := ((Below.refl _ _).alloc (Nat.le_refl _) _)
  have K0 := Lib.hid k0
  have B := Lib.hid b0
  clear b0 k0
  go_enter Tryz.func37, Tryz.ntmps37
  go_upto_region 1 with (fail)
  generalize (w.alloc (Obj.cells #[.string X, .string Y, .string Z] 34)) = W0 at *
  have c00 := K0.out.at_ 0 _ rfl
  have c01 := K0.out.at_ 1 _ rfl
  have c02 := K0.out.at_ 2 _ rfl
  go_wp2
  go_ret
  exact ⟨rfl, B.out⟩

set_option maxRecDepth 100000 in
set_option maxHeartbeats 2000000 in
theorem mlong_1 (X Y Z : ByteArray) (w : World)
    (x1 : decide ((X.size : Int) > 30) = false)
    (y1 : decide ((Y.size : Int) > 30) = true)
    (_x2 : decide (X.size > 30) = false)
    (_y2 : decide (Y.size > 30) = true) :
    Calls Tryz.prog 37 #[.agg #[.string X, .string Y, .string Z]] w fun e w' => e = .returned (.bool true) ∧ Below w.heap.size w w' := by
  have k0 := Blk.fresh w #[.string X, .string Y, .string Z] 34
  have b0 : Below w.heap.size w (w.alloc (Obj.cells #[.string X, .string Y, .string Z] 34)) := ((Below.refl _ _).alloc (Nat.le_refl _) _)
  have K0 := Lib.hid k0
  have B := Lib.hid b0
  clear b0 k0
  go_enter Tryz.func37, Tryz.ntmps37
  go_upto_region 1 with (fail)
  generalize (w.alloc (Obj.cells #[.string X, .string Y, .string Z] 34)) = W0 at *
  have c00 := K0.out.at_ 0 _ rfl
  have c01 := K0.out.at_ 1 _ rfl
  have c02 := K0.out.at_ 2 _ rfl
  go_wp2
  go_ret
  exact ⟨rfl, B.out⟩

set_option maxRecDepth 100000 in
set_option maxHeartbeats 2000000 in
theorem mlong_2 (X Y Z : ByteArray) (w : World)
    (x1 : decide ((X.size : Int) > 30) = false)
    (y1 : decide ((Y.size : Int) > 30) = false)
    (z1 : decide ((Z.size : Int) > 30) = true)
    (_x2 : decide (X.size > 30) = false)
    (_y2 : decide (Y.size > 30) = false)
    (_z2 : decide (Z.size > 30) = true) :
    Calls Tryz.prog 37 #[.agg #[.string X, .string Y, .string Z]] w fun e w' => e = .returned (.bool true) ∧ Below w.heap.size w w' := by
  have k0 := Blk.fresh w #[.string X, .string Y, .string Z] 34
  have b0 : Below w.heap.size w (w.alloc (Obj.cells #[.string X, .string Y, .string Z] 34)) := ((Below.refl _ _).alloc (Nat.le_refl _) _)
  have K0 := Lib.hid k0
  have B := Lib.hid b0
  clear b0 k0
  go_enter Tryz.func37, Tryz.ntmps37
  go_upto_region 1 with (fail)
  generalize (w.alloc (Obj.cells #[.string X, .string Y, .string Z] 34)) = W0 at *
  have c00 := K0.out.at_ 0 _ rfl
  have c01 := K0.out.at_ 1 _ rfl
  have c02 := K0.out.at_ 2 _ rfl
  go_wp2
  go_ret
  exact ⟨rfl, B.out⟩

set_option maxRecDepth 100000 in
set_option maxHeartbeats 2000000 in
theorem mlong_no (X Y Z : ByteArray) (w : World)
    (x1 : decide ((X.size : Int) > 30) = false)
    (y1 : decide ((Y.size : Int) > 30) = false)
    (z1 : decide ((Z.size : Int) > 30) = false)
    (_x2 : decide (X.size > 30) = false)
    (_y2 : decide (Y.size > 30) = false)
    (_z2 : decide (Z.size > 30) = false) :
    Calls Tryz.prog 37 #[.agg #[.string X, .string Y, .string Z]] w fun e w' => e = .returned (.bool false) ∧ Below w.heap.size w w' := by
  have k0 := Blk.fresh w #[.string X, .string Y, .string Z] 34
  have b0 : Below w.heap.size w (w.alloc (Obj.cells #[.string X, .string Y, .string Z] 34)) := ((Below.refl _ _).alloc (Nat.le_refl _) _)
  have K0 := Lib.hid k0
  have B := Lib.hid b0
  clear b0 k0
  go_enter Tryz.func37, Tryz.ntmps37
  go_upto_region 1 with (fail)
  generalize (w.alloc (Obj.cells #[.string X, .string Y, .string Z] 34)) = W0 at *
  have c00 := K0.out.at_ 0 _ rfl
  have c01 := K0.out.at_ 1 _ rfl
  have c02 := K0.out.at_ 2 _ rfl
  go_wp2
  go_ret
  exact ⟨rfl, B.out⟩

set_option maxRecDepth 100000 in
set_option maxHeartbeats 2000000 in
theorem mcheck_0 (X Y Z : ByteArray) (k : Int) (w : World)
    (tk : (k != 0) = true)
    (s0 : ∀ W, Below w.heap.size w W → Calls Tryz.prog 63 #[.string X] W fun e w' => e = .returned (.int .i64 k) ∧ Below W.heap.size W w') :
    Calls Tryz.prog 38 #[.agg #[.string X, .string Y, .string Z]] w fun e w' => e = .returned (.int .i64 2) ∧ Below w.heap.size w w' := by
  have S0 := Lib.hid s0
  clear s0
  have k0 := Blk.fresh w #[.string X, .string Y, .string Z] 34
  have b0 : Below w.heap.size w (w.alloc (Obj.cells #[.string X, .string Y, .string Z] 34)) := ((Below.refl _ _).alloc (Nat.le_refl _) _)
  have K0 := Lib.hid k0
  have B := Lib.hid b0
  clear b0 k0
  go_enter Tryz.func38, Tryz.ntmps38
  go_upto_region 1 with (fail)
  generalize (w.alloc (Obj.cells #[.string X, .string Y, .string Z] 34)) = W0 at *
  have c00 := K0.out.at_ 0 _ rfl
  have c01 := K0.out.at_ 1 _ rfl
  have c02 := K0.out.at_ 2 _ rfl
  go_wp2_with (first
    | (go_at_call 63; (with_reducible refine (S0.out _ (Near.base (by first | exact Near.same _ | exact Near.one _) B.out)).mono ?_); rintro e wx ⟨rfl, q⟩; replace K0 := Lib.hid (K0.out.near (by first | exact Near.same _ | exact Near.one _) q); replace B := Lib.hid (Near.go (by first | exact Near.same _ | exact Near.one _) B.out q B.out.size); clear q; replace c00 := K0.out.at_ 0 _ rfl; replace c01 := K0.out.at_ 1 _ rfl; replace c02 := K0.out.at_ 2 _ rfl)
    | fail "arm")
  go_ret
  exact ⟨rfl, B.out⟩

set_option maxRecDepth 100000 in
set_option maxHeartbeats 2000000 in
theorem mcheck_1 (X Y Z : ByteArray) (k : Int) (w : World)
    (tk : (k != 0) = true)
    (s0 : ∀ W, Below w.heap.size w W → Calls Tryz.prog 63 #[.string X] W fun e w' => e = .returned (.int .i64 0) ∧ Below W.heap.size W w')
    (s1 : ∀ W, Below w.heap.size w W → Calls Tryz.prog 63 #[.string Y] W fun e w' => e = .returned (.int .i64 k) ∧ Below W.heap.size W w') :
    Calls Tryz.prog 38 #[.agg #[.string X, .string Y, .string Z]] w fun e w' => e = .returned (.int .i64 2) ∧ Below w.heap.size w w' := by
  have S0 := Lib.hid s0
  have S1 := Lib.hid s1
  clear s0 s1
  have k0 := Blk.fresh w #[.string X, .string Y, .string Z] 34
  have b0 : Below w.heap.size w (w.alloc (Obj.cells #[.string X, .string Y, .string Z] 34)) := ((Below.refl _ _).alloc (Nat.le_refl _) _)
  have K0 := Lib.hid k0
  have B := Lib.hid b0
  clear b0 k0
  go_enter Tryz.func38, Tryz.ntmps38
  go_upto_region 1 with (fail)
  generalize (w.alloc (Obj.cells #[.string X, .string Y, .string Z] 34)) = W0 at *
  have c00 := K0.out.at_ 0 _ rfl
  have c01 := K0.out.at_ 1 _ rfl
  have c02 := K0.out.at_ 2 _ rfl
  go_wp2_with (first
    | (go_at_call 63; (with_reducible refine (S0.out _ (Near.base (by first | exact Near.same _ | exact Near.one _) B.out)).mono ?_); rintro e wx ⟨rfl, q⟩; replace K0 := Lib.hid (K0.out.near (by first | exact Near.same _ | exact Near.one _) q); replace B := Lib.hid (Near.go (by first | exact Near.same _ | exact Near.one _) B.out q B.out.size); clear q; replace c00 := K0.out.at_ 0 _ rfl; replace c01 := K0.out.at_ 1 _ rfl; replace c02 := K0.out.at_ 2 _ rfl)
    | (go_at_call 63; (with_reducible refine (S1.out _ (Near.base (by first | exact Near.same _ | exact Near.one _) B.out)).mono ?_); rintro e wx ⟨rfl, q⟩; replace K0 := Lib.hid (K0.out.near (by first | exact Near.same _ | exact Near.one _) q); replace B := Lib.hid (Near.go (by first | exact Near.same _ | exact Near.one _) B.out q B.out.size); clear q; replace c00 := K0.out.at_ 0 _ rfl; replace c01 := K0.out.at_ 1 _ rfl; replace c02 := K0.out.at_ 2 _ rfl)
    | fail "arm")
  go_ret
  exact ⟨rfl, B.out⟩

set_option maxRecDepth 100000 in
set_option maxHeartbeats 2000000 in
theorem mcheck_2 (X Y Z : ByteArray) (k : Int) (w : World)
    (tk : (k != 0) = true)
    (s0 : ∀ W, Below w.heap.size w W → Calls Tryz.prog 63 #[.string X] W fun e w' => e = .returned (.int .i64 0) ∧ Below W.heap.size W w')
    (s1 : ∀ W, Below w.heap.size w W → Calls Tryz.prog 63 #[.string Y] W fun e w' => e = .returned (.int .i64 0) ∧ Below W.heap.size W w')
    (s2 : ∀ W, Below w.heap.size w W → Calls Tryz.prog 63 #[.string Z] W fun e w' => e = .returned (.int .i64 k) ∧ Below W.heap.size W w') :
    Calls Tryz.prog 38 #[.agg #[.string X, .string Y, .string Z]] w fun e w' => e = .returned (.int .i64 2) ∧ Below w.heap.size w w' := by
  have S0 := Lib.hid s0
  have S1 := Lib.hid s1
  have S2 := Lib.hid s2
  clear s0 s1 s2
  have k0 := Blk.fresh w #[.string X, .string Y, .string Z] 34
  have b0 : Below w.heap.size w (w.alloc (Obj.cells #[.string X, .string Y, .string Z] 34)) := ((Below.refl _ _).alloc (Nat.le_refl _) _)
  have K0 := Lib.hid k0
  have B := Lib.hid b0
  clear b0 k0
  go_enter Tryz.func38, Tryz.ntmps38
  go_upto_region 1 with (fail)
  generalize (w.alloc (Obj.cells #[.string X, .string Y, .string Z] 34)) = W0 at *
  have c00 := K0.out.at_ 0 _ rfl
  have c01 := K0.out.at_ 1 _ rfl
  have c02 := K0.out.at_ 2 _ rfl
  go_wp2_with (first
    | (go_at_call 63; (with_reducible refine (S0.out _ (Near.base (by first | exact Near.same _ | exact Near.one _) B.out)).mono ?_); rintro e wx ⟨rfl, q⟩; replace K0 := Lib.hid (K0.out.near (by first | exact Near.same _ | exact Near.one _) q); replace B := Lib.hid (Near.go (by first | exact Near.same _ | exact Near.one _) B.out q B.out.size); clear q; replace c00 := K0.out.at_ 0 _ rfl; replace c01 := K0.out.at_ 1 _ rfl; replace c02 := K0.out.at_ 2 _ rfl)
    | (go_at_call 63; (with_reducible refine (S1.out _ (Near.base (by first | exact Near.same _ | exact Near.one _) B.out)).mono ?_); rintro e wx ⟨rfl, q⟩; replace K0 := Lib.hid (K0.out.near (by first | exact Near.same _ | exact Near.one _) q); replace B := Lib.hid (Near.go (by first | exact Near.same _ | exact Near.one _) B.out q B.out.size); clear q; replace c00 := K0.out.at_ 0 _ rfl; replace c01 := K0.out.at_ 1 _ rfl; replace c02 := K0.out.at_ 2 _ rfl)
    | (go_at_call 63; (with_reducible refine (S2.out _ (Near.base (by first | exact Near.same _ | exact Near.one _) B.out)).mono ?_); rintro e wx ⟨rfl, q⟩; replace K0 := Lib.hid (K0.out.near (by first | exact Near.same _ | exact Near.one _) q); replace B := Lib.hid (Near.go (by first | exact Near.same _ | exact Near.one _) B.out q B.out.size); clear q; replace c00 := K0.out.at_ 0 _ rfl; replace c01 := K0.out.at_ 1 _ rfl; replace c02 := K0.out.at_ 2 _ rfl)
    | fail "arm")
  go_ret
  exact ⟨rfl, B.out⟩

set_option maxRecDepth 100000 in
set_option maxHeartbeats 2000000 in
theorem mcheck_zero (X Y Z : ByteArray) (w : World)
    (s0 : ∀ W, Below w.heap.size w W → Calls Tryz.prog 63 #[.string X] W fun e w' => e = .returned (.int .i64 0) ∧ Below W.heap.size W w')
    (s1 : ∀ W, Below w.heap.size w W → Calls Tryz.prog 63 #[.string Y] W fun e w' => e = .returned (.int .i64 0) ∧ Below W.heap.size W w')
    (s2 : ∀ W, Below w.heap.size w W → Calls Tryz.prog 63 #[.string Z] W fun e w' => e = .returned (.int .i64 0) ∧ Below W.heap.size W w')
    (hx : (X.toList == [48]) = true)
    (hy : (Y.toList == [48]) = true)
    (hz : (Z.toList == [48]) = true) :
    Calls Tryz.prog 38 #[.agg #[.string X, .string Y, .string Z]] w fun e w' => e = .returned (.int .i64 17) ∧ Below w.heap.size w w' := by
  obtain ⟨x1, x2⟩ := zero_eq X _ hx
  clear hx
  obtain ⟨y1, y2⟩ := zero_eq Y _ hy
  clear hy
  obtain ⟨z1, z2⟩ := zero_eq Z _ hz
  clear hz
  have S0 := Lib.hid s0
  have S1 := Lib.hid s1
  have S2 := Lib.hid s2
  clear s0 s1 s2
  have k0 := Blk.fresh w #[.string X, .string Y, .string Z] 34
  have b0 : Below w.heap.size w (w.alloc (Obj.cells #[.string X, .string Y, .string Z] 34)) := ((Below.refl _ _).alloc (Nat.le_refl _) _)
  have K0 := Lib.hid k0
  have B := Lib.hid b0
  clear b0 k0
  go_enter Tryz.func38, Tryz.ntmps38
  go_upto_region 1 with (fail)
  generalize (w.alloc (Obj.cells #[.string X, .string Y, .string Z] 34)) = W0 at *
  have c00 := K0.out.at_ 0 _ rfl
  have c01 := K0.out.at_ 1 _ rfl
  have c02 := K0.out.at_ 2 _ rfl
  go_wp2_with (first
    | (go_at_call 63; (with_reducible refine (S0.out _ (Near.base (by first | exact Near.same _ | exact Near.one _) B.out)).mono ?_); rintro e wx ⟨rfl, q⟩; replace K0 := Lib.hid (K0.out.near (by first | exact Near.same _ | exact Near.one _) q); replace B := Lib.hid (Near.go (by first | exact Near.same _ | exact Near.one _) B.out q B.out.size); clear q; replace c00 := K0.out.at_ 0 _ rfl; replace c01 := K0.out.at_ 1 _ rfl; replace c02 := K0.out.at_ 2 _ rfl)
    | (go_at_call 63; (with_reducible refine (S1.out _ (Near.base (by first | exact Near.same _ | exact Near.one _) B.out)).mono ?_); rintro e wx ⟨rfl, q⟩; replace K0 := Lib.hid (K0.out.near (by first | exact Near.same _ | exact Near.one _) q); replace B := Lib.hid (Near.go (by first | exact Near.same _ | exact Near.one _) B.out q B.out.size); clear q; replace c00 := K0.out.at_ 0 _ rfl; replace c01 := K0.out.at_ 1 _ rfl; replace c02 := K0.out.at_ 2 _ rfl)
    | (go_at_call 63; (with_reducible refine (S2.out _ (Near.base (by first | exact Near.same _ | exact Near.one _) B.out)).mono ?_); rintro e wx ⟨rfl, q⟩; replace K0 := Lib.hid (K0.out.near (by first | exact Near.same _ | exact Near.one _) q); replace B := Lib.hid (Near.go (by first | exact Near.same _ | exact Near.one _) B.out q B.out.size); clear q; replace c00 := K0.out.at_ 0 _ rfl; replace c01 := K0.out.at_ 1 _ rfl; replace c02 := K0.out.at_ 2 _ rfl)
    | fail "arm")
  go_ret
  exact ⟨rfl, B.out⟩

set_option maxRecDepth 100000 in
set_option maxHeartbeats 2000000 in
theorem mcheck_ok0 (X Y Z : ByteArray) (w : World)
    (s0 : ∀ W, Below w.heap.size w W → Calls Tryz.prog 63 #[.string X] W fun e w' => e = .returned (.int .i64 0) ∧ Below W.heap.size W w')
    (s1 : ∀ W, Below w.heap.size w W → Calls Tryz.prog 63 #[.string Y] W fun e w' => e = .returned (.int .i64 0) ∧ Below W.heap.size W w')
    (s2 : ∀ W, Below w.heap.size w W → Calls Tryz.prog 63 #[.string Z] W fun e w' => e = .returned (.int .i64 0) ∧ Below W.heap.size W w')
    (hx : (X.toList == [48]) = false) :
    Calls Tryz.prog 38 #[.agg #[.string X, .string Y, .string Z]] w fun e w' => e = .returned (.int .i64 0) ∧ Below w.heap.size w w' := by
  obtain ⟨x1, x2⟩ := zero_eq X _ hx
  clear hx
  have S0 := Lib.hid s0
  have S1 := Lib.hid s1
  have S2 := Lib.hid s2
  clear s0 s1 s2
  have k0 := Blk.fresh w #[.string X, .string Y, .string Z] 34
  have b0 : Below w.heap.size w (w.alloc (Obj.cells #[.string X, .string Y, .string Z] 34)) := ((Below.refl _ _).alloc (Nat.le_refl _) _)
  have K0 := Lib.hid k0
  have B := Lib.hid b0
  clear b0 k0
  go_enter Tryz.func38, Tryz.ntmps38
  go_upto_region 1 with (fail)
  generalize (w.alloc (Obj.cells #[.string X, .string Y, .string Z] 34)) = W0 at *
  have c00 := K0.out.at_ 0 _ rfl
  have c01 := K0.out.at_ 1 _ rfl
  have c02 := K0.out.at_ 2 _ rfl
  go_wp2_with (first
    | (go_at_call 63; (with_reducible refine (S0.out _ (Near.base (by first | exact Near.same _ | exact Near.one _) B.out)).mono ?_); rintro e wx ⟨rfl, q⟩; replace K0 := Lib.hid (K0.out.near (by first | exact Near.same _ | exact Near.one _) q); replace B := Lib.hid (Near.go (by first | exact Near.same _ | exact Near.one _) B.out q B.out.size); clear q; replace c00 := K0.out.at_ 0 _ rfl; replace c01 := K0.out.at_ 1 _ rfl; replace c02 := K0.out.at_ 2 _ rfl)
    | (go_at_call 63; (with_reducible refine (S1.out _ (Near.base (by first | exact Near.same _ | exact Near.one _) B.out)).mono ?_); rintro e wx ⟨rfl, q⟩; replace K0 := Lib.hid (K0.out.near (by first | exact Near.same _ | exact Near.one _) q); replace B := Lib.hid (Near.go (by first | exact Near.same _ | exact Near.one _) B.out q B.out.size); clear q; replace c00 := K0.out.at_ 0 _ rfl; replace c01 := K0.out.at_ 1 _ rfl; replace c02 := K0.out.at_ 2 _ rfl)
    | (go_at_call 63; (with_reducible refine (S2.out _ (Near.base (by first | exact Near.same _ | exact Near.one _) B.out)).mono ?_); rintro e wx ⟨rfl, q⟩; replace K0 := Lib.hid (K0.out.near (by first | exact Near.same _ | exact Near.one _) q); replace B := Lib.hid (Near.go (by first | exact Near.same _ | exact Near.one _) B.out q B.out.size); clear q; replace c00 := K0.out.at_ 0 _ rfl; replace c01 := K0.out.at_ 1 _ rfl; replace c02 := K0.out.at_ 2 _ rfl)
    | fail "arm")
  go_ret
  exact ⟨rfl, B.out⟩

set_option maxRecDepth 100000 in
set_option maxHeartbeats 2000000 in
theorem mcheck_ok1 (X Y Z : ByteArray) (w : World)
    (s0 : ∀ W, Below w.heap.size w W → Calls Tryz.prog 63 #[.string X] W fun e w' => e = .returned (.int .i64 0) ∧ Below W.heap.size W w')
    (s1 : ∀ W, Below w.heap.size w W → Calls Tryz.prog 63 #[.string Y] W fun e w' => e = .returned (.int .i64 0) ∧ Below W.heap.size W w')
    (s2 : ∀ W, Below w.heap.size w W → Calls Tryz.prog 63 #[.string Z] W fun e w' => e = .returned (.int .i64 0) ∧ Below W.heap.size W w')
    (hx : (X.toList == [48]) = true)
    (hy : (Y.toList == [48]) = false) :
    Calls Tryz.prog 38 #[.agg #[.string X, .string Y, .string Z]] w fun e w' => e = .returned (.int .i64 0) ∧ Below w.heap.size w w' := by
  obtain ⟨x1, x2⟩ := zero_eq X _ hx
  clear hx
  obtain ⟨y1, y2⟩ := zero_eq Y _ hy
  clear hy
  have S0 := Lib.hid s0
  have S1 := Lib.hid s1
  have S2 := Lib.hid s2
  clear s0 s1 s2
  have k0 := Blk.fresh w #[.string X, .string Y, .string Z] 34
  have b0 : Below w.heap.size w (w.alloc (Obj.cells #[.string X, .string Y, .string Z] 34)) := ((Below.refl _ _).alloc (Nat.le_refl _) _)
  have K0 := Lib.hid k0
  have B := Lib.hid b0
  clear b0 k0
  go_enter Tryz.func38, Tryz.ntmps38
  go_upto_region 1 with (fail)
  generalize (w.alloc (Obj.cells #[.string X, .string Y, .string Z] 34)) = W0 at *
  have c00 := K0.out.at_ 0 _ rfl
  have c01 := K0.out.at_ 1 _ rfl
  have c02 := K0.out.at_ 2 _ rfl
  go_wp2_with (first
    | (go_at_call 63; (with_reducible refine (S0.out _ (Near.base (by first | exact Near.same _ | exact Near.one _) B.out)).mono ?_); rintro e wx ⟨rfl, q⟩; replace K0 := Lib.hid (K0.out.near (by first | exact Near.same _ | exact Near.one _) q); replace B := Lib.hid (Near.go (by first | exact Near.same _ | exact Near.one _) B.out q B.out.size); clear q; replace c00 := K0.out.at_ 0 _ rfl; replace c01 := K0.out.at_ 1 _ rfl; replace c02 := K0.out.at_ 2 _ rfl)
    | (go_at_call 63; (with_reducible refine (S1.out _ (Near.base (by first | exact Near.same _ | exact Near.one _) B.out)).mono ?_); rintro e wx ⟨rfl, q⟩; replace K0 := Lib.hid (K0.out.near (by first | exact Near.same _ | exact Near.one _) q); replace B := Lib.hid (Near.go (by first | exact Near.same _ | exact Near.one _) B.out q B.out.size); clear q; replace c00 := K0.out.at_ 0 _ rfl; replace c01 := K0.out.at_ 1 _ rfl; replace c02 := K0.out.at_ 2 _ rfl)
    | (go_at_call 63; (with_reducible refine (S2.out _ (Near.base (by first | exact Near.same _ | exact Near.one _) B.out)).mono ?_); rintro e wx ⟨rfl, q⟩; replace K0 := Lib.hid (K0.out.near (by first | exact Near.same _ | exact Near.one _) q); replace B := Lib.hid (Near.go (by first | exact Near.same _ | exact Near.one _) B.out q B.out.size); clear q; replace c00 := K0.out.at_ 0 _ rfl; replace c01 := K0.out.at_ 1 _ rfl; replace c02 := K0.out.at_ 2 _ rfl)
    | fail "arm")
  go_ret
  exact ⟨rfl, B.out⟩

set_option maxRecDepth 100000 in
set_option maxHeartbeats 2000000 in
theorem mcheck_ok2 (X Y Z : ByteArray) (w : World)
    (s0 : ∀ W, Below w.heap.size w W → Calls Tryz.prog 63 #[.string X] W fun e w' => e = .returned (.int .i64 0) ∧ Below W.heap.size W w')
    (s1 : ∀ W, Below w.heap.size w W → Calls Tryz.prog 63 #[.string Y] W fun e w' => e = .returned (.int .i64 0) ∧ Below W.heap.size W w')
    (s2 : ∀ W, Below w.heap.size w W → Calls Tryz.prog 63 #[.string Z] W fun e w' => e = .returned (.int .i64 0) ∧ Below W.heap.size W w')
    (hx : (X.toList == [48]) = true)
    (hy : (Y.toList == [48]) = true)
    (hz : (Z.toList == [48]) = false) :
    Calls Tryz.prog 38 #[.agg #[.string X, .string Y, .string Z]] w fun e w' => e = .returned (.int .i64 0) ∧ Below w.heap.size w w' := by
  obtain ⟨x1, x2⟩ := zero_eq X _ hx
  clear hx
  obtain ⟨y1, y2⟩ := zero_eq Y _ hy
  clear hy
  obtain ⟨z1, z2⟩ := zero_eq Z _ hz
  clear hz
  have S0 := Lib.hid s0
  have S1 := Lib.hid s1
  have S2 := Lib.hid s2
  clear s0 s1 s2
  have k0 := Blk.fresh w #[.string X, .string Y, .string Z] 34
  have b0 : Below w.heap.size w (w.alloc (Obj.cells #[.string X, .string Y, .string Z] 34)) := ((Below.refl _ _).alloc (Nat.le_refl _) _)
  have K0 := Lib.hid k0
  have B := Lib.hid b0
  clear b0 k0
  go_enter Tryz.func38, Tryz.ntmps38
  go_upto_region 1 with (fail)
  generalize (w.alloc (Obj.cells #[.string X, .string Y, .string Z] 34)) = W0 at *
  have c00 := K0.out.at_ 0 _ rfl
  have c01 := K0.out.at_ 1 _ rfl
  have c02 := K0.out.at_ 2 _ rfl
  go_wp2_with (first
    | (go_at_call 63; (with_reducible refine (S0.out _ (Near.base (by first | exact Near.same _ | exact Near.one _) B.out)).mono ?_); rintro e wx ⟨rfl, q⟩; replace K0 := Lib.hid (K0.out.near (by first | exact Near.same _ | exact Near.one _) q); replace B := Lib.hid (Near.go (by first | exact Near.same _ | exact Near.one _) B.out q B.out.size); clear q; replace c00 := K0.out.at_ 0 _ rfl; replace c01 := K0.out.at_ 1 _ rfl; replace c02 := K0.out.at_ 2 _ rfl)
    | (go_at_call 63; (with_reducible refine (S1.out _ (Near.base (by first | exact Near.same _ | exact Near.one _) B.out)).mono ?_); rintro e wx ⟨rfl, q⟩; replace K0 := Lib.hid (K0.out.near (by first | exact Near.same _ | exact Near.one _) q); replace B := Lib.hid (Near.go (by first | exact Near.same _ | exact Near.one _) B.out q B.out.size); clear q; replace c00 := K0.out.at_ 0 _ rfl; replace c01 := K0.out.at_ 1 _ rfl; replace c02 := K0.out.at_ 2 _ rfl)
    | (go_at_call 63; (with_reducible refine (S2.out _ (Near.base (by first | exact Near.same _ | exact Near.one _) B.out)).mono ?_); rintro e wx ⟨rfl, q⟩; replace K0 := Lib.hid (K0.out.near (by first | exact Near.same _ | exact Near.one _) q); replace B := Lib.hid (Near.go (by first | exact Near.same _ | exact Near.one _) B.out q B.out.size); clear q; replace c00 := K0.out.at_ 0 _ rfl; replace c01 := K0.out.at_ 1 _ rfl; replace c02 := K0.out.at_ 2 _ rfl)
    | fail "arm")
  go_ret
  exact ⟨rfl, B.out⟩

end Go.Proofs.YtajkeoapfkkjbaaGreatDoor

/- The walks of the model's gcd and octant. -/
namespace Go.Proofs.YtajkeoapfkkjbaaGreatDoor
open Go.RowKit

set_option maxRecDepth 100000 in
set_option maxHeartbeats 4000000 in
theorem mgcd_of (a b : Int) (w : World) (la : -1000000 ≤ a) (ha : a ≤ 1000000) (lb : -1000000 ≤ b) (hb : b ≤ 1000000) :
    Calls Tryz.prog 50 #[.int .i64 a, .int .i64 b] w fun e w' => e = .returned (.int .i64 ((Nat.gcd a.natAbs b.natAbs : Nat) : Int)) ∧ Below w.heap.size w w' := by
  have m1 : max a (-a) = (a.natAbs : Int) := by omega
  have m2 : max b (-b) = (b.natAbs : Int) := by omega
  have na : a.natAbs ≤ 1000000 := by omega
  have nb : b.natAbs ≤ 1000000 := by omega
  generalize a.natAbs = p at *
  generalize b.natAbs = q at *
  have B0 := Lib.hid (Below.refl w.heap.size w)
  go_enter Tryz.func50, Tryz.ntmps50
  go_wp2
  clear m1 m2
  go_loopw [0, 1] (fun x y wr => ∃ u v : Nat, x = .int .i64 u ∧ y = .int .i64 v ∧ u ≤ 1000000 ∧ v ≤ 1000000 ∧ Hid (Nat.gcd u v = Nat.gcd p q) ∧ Below w.heap.size w wr) (fun _ y _ => (intOf y).toNat)
  case atStart => exact ⟨p, q, rfl, rfl, na, nb, Lib.hid rfl, B0.out⟩
  case round =>
    obtain ⟨u, v, rfl, rfl, hu, hv, HG, hb⟩ := hrel
    have B := Lib.hid hb
    clear hb
    by_cases h0 : v = 0
    · subst h0
      have HE := Lib.hid (show u = Nat.gcd p q by rw [← HG.out, Nat.gcd_zero_right])
      clear HG
      go_wp2
      go_ret
      rw [← HE.out]
      exact ⟨rfl, B.out⟩
    · have hpos : 0 < v := by omega
      have t1 : decide ((v : Int) > 0) = true := decide_eq_true (by omega)
      have hm : u % v < v := Nat.mod_lt _ hpos
      have HM : Hid (Nat.gcd v (u % v) = Nat.gcd p q) := Lib.hid (by rw [Nat.gcd_comm, ← Nat.gcd_rec, Nat.gcd_comm]; exact HG.out)
      have hc : ((u : Int) % (v : Int)) = ((u % v : Nat) : Int) := by omega
      have hvi : ((v : Int) == 0) = false := beq_eq_false_iff_ne.2 (by omega)
      have ht : ((u : Int).tmod (v : Int)) = ((u % v : Nat) : Int) := by rw [Int.tmod_eq_emod_of_nonneg (by omega)]; exact hc
      generalize u % v = r at *
      go_wp2
      go_quiet (fail)
      go_roundw
      case rel => exact ⟨_, _, _, _, _, _, _, _, ⟨v, r, rfl, rfl, hv, by omega, HM, B.out.trans ((Drew.of _ _).below _)⟩, rfl⟩
      case measure => simp [intOf]; omega

def octI (x y : Int) : Int := if x = 0 ∧ 0 < y then 0 else if 0 < x ∧ 0 < y then 1 else if 0 < x ∧ y = 0 then 2 else if 0 < x then 3 else if x = 0 then 4 else if y < 0 then 5 else if y = 0 then 6 else 7

set_option maxRecDepth 100000 in
set_option maxHeartbeats 4000000 in
theorem moctant_of (x y : Int) (w : World) :
    Calls Tryz.prog 33 #[.int .i64 x, .int .i64 y] w fun e w' => e = .returned (.int .i64 (octI x y)) ∧ Below w.heap.size w w' := by
  have B := Lib.hid (Below.refl w.heap.size w)
  rcases Int.lt_trichotomy x 0 with hx | hx | hx <;> rcases Int.lt_trichotomy y 0 with hy | hy | hy
  · have hr : octI x y = 5 := by unfold octI; repeat' first | rw [if_pos (by omega)] | rw [if_neg (by omega)]
    rw [hr]
    clear hr
    have x1 : decide (x > 0) = false := decide_eq_false (by omega)
    have x2 : (x == 0) = false := beq_eq_false_iff_ne.2 (by omega)
    have x3 : decide (x < 0) = true := decide_eq_true (by omega)
    have y1 : decide (y > 0) = false := decide_eq_false (by omega)
    have y2 : (y == 0) = false := beq_eq_false_iff_ne.2 (by omega)
    have y3 : decide (y < 0) = true := decide_eq_true (by omega)
    clear hx hy
    go_enter Tryz.func33, Tryz.ntmps33
    go_wp2
    go_ret
    exact ⟨rfl, B.out⟩
  · have hr : octI x y = 6 := by unfold octI; repeat' first | rw [if_pos (by omega)] | rw [if_neg (by omega)]
    rw [hr]
    clear hr
    have x1 : decide (x > 0) = false := decide_eq_false (by omega)
    have x2 : (x == 0) = false := beq_eq_false_iff_ne.2 (by omega)
    have x3 : decide (x < 0) = true := decide_eq_true (by omega)
    have y1 : decide (y > 0) = false := decide_eq_false (by omega)
    have y2 : (y == 0) = true := beq_iff_eq.2 (by omega)
    have y3 : decide (y < 0) = false := decide_eq_false (by omega)
    clear hx hy
    go_enter Tryz.func33, Tryz.ntmps33
    go_wp2
    go_ret
    exact ⟨rfl, B.out⟩
  · have hr : octI x y = 7 := by unfold octI; repeat' first | rw [if_pos (by omega)] | rw [if_neg (by omega)]
    rw [hr]
    clear hr
    have x1 : decide (x > 0) = false := decide_eq_false (by omega)
    have x2 : (x == 0) = false := beq_eq_false_iff_ne.2 (by omega)
    have x3 : decide (x < 0) = true := decide_eq_true (by omega)
    have y1 : decide (y > 0) = true := decide_eq_true (by omega)
    have y2 : (y == 0) = false := beq_eq_false_iff_ne.2 (by omega)
    have y3 : decide (y < 0) = false := decide_eq_false (by omega)
    clear hx hy
    go_enter Tryz.func33, Tryz.ntmps33
    go_wp2
    go_ret
    exact ⟨rfl, B.out⟩
  · have hr : octI x y = 4 := by unfold octI; repeat' first | rw [if_pos (by omega)] | rw [if_neg (by omega)]
    rw [hr]
    clear hr
    have x1 : decide (x > 0) = false := decide_eq_false (by omega)
    have x2 : (x == 0) = true := beq_iff_eq.2 (by omega)
    have x3 : decide (x < 0) = false := decide_eq_false (by omega)
    have y1 : decide (y > 0) = false := decide_eq_false (by omega)
    have y2 : (y == 0) = false := beq_eq_false_iff_ne.2 (by omega)
    have y3 : decide (y < 0) = true := decide_eq_true (by omega)
    clear hx hy
    go_enter Tryz.func33, Tryz.ntmps33
    go_wp2
    go_ret
    exact ⟨rfl, B.out⟩
  · have hr : octI x y = 4 := by unfold octI; repeat' first | rw [if_pos (by omega)] | rw [if_neg (by omega)]
    rw [hr]
    clear hr
    have x1 : decide (x > 0) = false := decide_eq_false (by omega)
    have x2 : (x == 0) = true := beq_iff_eq.2 (by omega)
    have x3 : decide (x < 0) = false := decide_eq_false (by omega)
    have y1 : decide (y > 0) = false := decide_eq_false (by omega)
    have y2 : (y == 0) = true := beq_iff_eq.2 (by omega)
    have y3 : decide (y < 0) = false := decide_eq_false (by omega)
    clear hx hy
    go_enter Tryz.func33, Tryz.ntmps33
    go_wp2
    go_ret
    exact ⟨rfl, B.out⟩
  · have hr : octI x y = 0 := by unfold octI; repeat' first | rw [if_pos (by omega)] | rw [if_neg (by omega)]
    rw [hr]
    clear hr
    have x1 : decide (x > 0) = false := decide_eq_false (by omega)
    have x2 : (x == 0) = true := beq_iff_eq.2 (by omega)
    have x3 : decide (x < 0) = false := decide_eq_false (by omega)
    have y1 : decide (y > 0) = true := decide_eq_true (by omega)
    have y2 : (y == 0) = false := beq_eq_false_iff_ne.2 (by omega)
    have y3 : decide (y < 0) = false := decide_eq_false (by omega)
    clear hx hy
    go_enter Tryz.func33, Tryz.ntmps33
    go_wp2
    go_ret
    exact ⟨rfl, B.out⟩
  · have hr : octI x y = 3 := by unfold octI; repeat' first | rw [if_pos (by omega)] | rw [if_neg (by omega)]
    rw [hr]
    clear hr
    have x1 : decide (x > 0) = true := decide_eq_true (by omega)
    have x2 : (x == 0) = false := beq_eq_false_iff_ne.2 (by omega)
    have x3 : decide (x < 0) = false := decide_eq_false (by omega)
    have y1 : decide (y > 0) = false := decide_eq_false (by omega)
    have y2 : (y == 0) = false := beq_eq_false_iff_ne.2 (by omega)
    have y3 : decide (y < 0) = true := decide_eq_true (by omega)
    clear hx hy
    go_enter Tryz.func33, Tryz.ntmps33
    go_wp2
    go_ret
    exact ⟨rfl, B.out⟩
  · have hr : octI x y = 2 := by unfold octI; repeat' first | rw [if_pos (by omega)] | rw [if_neg (by omega)]
    rw [hr]
    clear hr
    have x1 : decide (x > 0) = true := decide_eq_true (by omega)
    have x2 : (x == 0) = false := beq_eq_false_iff_ne.2 (by omega)
    have x3 : decide (x < 0) = false := decide_eq_false (by omega)
    have y1 : decide (y > 0) = false := decide_eq_false (by omega)
    have y2 : (y == 0) = true := beq_iff_eq.2 (by omega)
    have y3 : decide (y < 0) = false := decide_eq_false (by omega)
    clear hx hy
    go_enter Tryz.func33, Tryz.ntmps33
    go_wp2
    go_ret
    exact ⟨rfl, B.out⟩
  · have hr : octI x y = 1 := by unfold octI; repeat' first | rw [if_pos (by omega)] | rw [if_neg (by omega)]
    rw [hr]
    clear hr
    have x1 : decide (x > 0) = true := decide_eq_true (by omega)
    have x2 : (x == 0) = false := beq_eq_false_iff_ne.2 (by omega)
    have x3 : decide (x < 0) = false := decide_eq_false (by omega)
    have y1 : decide (y > 0) = true := decide_eq_true (by omega)
    have y2 : (y == 0) = false := beq_eq_false_iff_ne.2 (by omega)
    have y3 : decide (y < 0) = false := decide_eq_false (by omega)
    clear hx hy
    go_enter Tryz.func33, Tryz.ntmps33
    go_wp2
    go_ret
    exact ⟨rfl, B.out⟩

end Go.Proofs.YtajkeoapfkkjbaaGreatDoor
