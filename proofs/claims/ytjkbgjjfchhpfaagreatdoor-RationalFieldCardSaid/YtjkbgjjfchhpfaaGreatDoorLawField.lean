/- RationalField: for any three described numbers: the walk: the call returns true. Conditions: those of the given row alone. -/
import Derived.Test.YtjkbgjjfchhpfaaGreatDoorGLaw
import Derived.Test.YtjkbgjjfchhpfaaGreatDoorRatG
import Derived.Test.YtjkbgjjfchhpfaaGreatDoorRatH
import Derived.Test.YtjkbgjjfchhpfaaGreatDoorRatM
import Derived.Deep.RegionHeld3
import Derived.Deep.CutRange
namespace Go.Proofs.YtjkbgjjfchhpfaaGreatDoor
open Go.RowKit

theorem first_fld {w W : World} (h : Below w.heap.size w W) : Below w.heap.size w W.drew := h.drew

theorem made_sz (n d : Int) (hn0 : -32768 ≤ n) (hn1 : n ≤ 32767) (hd0 : 0 ≤ d) (hd1 : d ≤ 255) : Sz (mkRat n (d + 1).toNat) 5 := by
  obtain ⟨h1, h2⟩ := mk_bounds n (d + 1).toNat (by omega)
  exact ⟨by omega, by omega⟩

/-- What the law's calls answer: every comparison holds. -/
structure FieldC (w : World) (a b c : Rat) (TA TB TC AB S3 P P3 Q BC D AC M A2 : ByteArray) (n s : Int) : Prop where
  add1 : ∀ W, Below w.heap.size w W → Calls Tryz.prog 41 #[.string TA, .string TB] W fun e w' => e = .returned (.string AB) ∧ Below W.heap.size W w'
  add2 : ∀ W, Below w.heap.size w W → Calls Tryz.prog 41 #[.string AB, .string TC] W fun e w' => e = .returned (.string S3) ∧ Below W.heap.size W w'
  add3 : ∀ W, Below w.heap.size w W → Calls Tryz.prog 41 #[.string TB, .string TA] W fun e w' => e = .returned (.string AB) ∧ Below W.heap.size W w'
  add4 : ∀ W, Below w.heap.size w W → Calls Tryz.prog 41 #[.string TC, .string AB] W fun e w' => e = .returned (.string S3) ∧ Below W.heap.size W w'
  mul1 : ∀ W, Below w.heap.size w W → Calls Tryz.prog 38 #[.string TA, .string TB] W fun e w' => e = .returned (.string P) ∧ Below W.heap.size W w'
  mul2 : ∀ W, Below w.heap.size w W → Calls Tryz.prog 38 #[.string P, .string TC] W fun e w' => e = .returned (.string P3) ∧ Below W.heap.size W w'
  mul3 : ∀ W, Below w.heap.size w W → Calls Tryz.prog 38 #[.string TC, .string TB] W fun e w' => e = .returned (.string Q) ∧ Below W.heap.size W w'
  mul4 : ∀ W, Below w.heap.size w W → Calls Tryz.prog 38 #[.string Q, .string TA] W fun e w' => e = .returned (.string P3) ∧ Below W.heap.size W w'
  add5 : ∀ W, Below w.heap.size w W → Calls Tryz.prog 41 #[.string TB, .string TC] W fun e w' => e = .returned (.string BC) ∧ Below W.heap.size W w'
  mul5 : ∀ W, Below w.heap.size w W → Calls Tryz.prog 38 #[.string TA, .string BC] W fun e w' => e = .returned (.string D) ∧ Below W.heap.size W w'
  mul6 : ∀ W, Below w.heap.size w W → Calls Tryz.prog 38 #[.string TA, .string TC] W fun e w' => e = .returned (.string AC) ∧ Below W.heap.size W w'
  add6 : ∀ W, Below w.heap.size w W → Calls Tryz.prog 41 #[.string P, .string AC] W fun e w' => e = .returned (.string D) ∧ Below W.heap.size W w'
  sub1 : ∀ W, Below w.heap.size w W → Calls Tryz.prog 42 #[.string AB, .string TB] W fun e w' => e = .returned (.string TA) ∧ Below W.heap.size W w'
  add7 : ∀ W, Below w.heap.size w W → Calls Tryz.prog 41 #[.string TA, .string TC] W fun e w' => e = .returned (.string A2) ∧ Below W.heap.size W w'
  mul7 : ∀ W, Below w.heap.size w W → Calls Tryz.prog 38 #[.string TB, .string TC] W fun e w' => e = .returned (.string Q) ∧ Below W.heap.size W w'
  mid : ∀ W, Below w.heap.size w W → Calls Tryz.prog 48 #[.string TA, .string TB] W fun e w' => e = .returned (.string M) ∧ Below W.heap.size W w'
  cmp1 : ∀ W, Below w.heap.size w W → Calls Tryz.prog 50 #[.string TA, .string TB] W fun e w' => e = .returned (.int .i64 (n)) ∧ Below W.heap.size W w'
  cmp2 : ∀ W, Below w.heap.size w W → Calls Tryz.prog 50 #[.string A2, .string BC] W fun e w' => e = .returned (.int .i64 (n)) ∧ Below W.heap.size W w'
  cmp3 : ∀ W, Below w.heap.size w W → Calls Tryz.prog 50 #[.string AC, .string Q] W fun e w' => e = .returned (.int .i64 (n * s)) ∧ Below W.heap.size W w'
  cmp4 : ∀ W, Below w.heap.size w W → Calls Tryz.prog 50 #[.string TA, .string M] W fun e w' => e = .returned (.int .i64 (n)) ∧ Below W.heap.size W w'
  cmp5 : ∀ W, Below w.heap.size w W → Calls Tryz.prog 50 #[.string M, .string TB] W fun e w' => e = .returned (.int .i64 (n)) ∧ Below W.heap.size W w'
  sgC : ∀ W, Calls Tryz.prog 51 #[.string TC] W fun e w' => e = .returned (.int .i64 s) ∧ W = w'
  nin : -1 ≤ n ∧ n ≤ 1
  sin : -1 ≤ s ∧ s ≤ 1

theorem field_facts (a b c : Rat) (ha : Sz a 5) (hb : Sz b 5) (hc : Sz c 5) (w : World) (he : Env w) :
    FieldC w a b c (canonR a) (canonR b) (canonR c) (canonR (a + b)) (canonR (a + b + c)) (canonR (a * b)) (canonR (a * b * c)) (canonR (c * b)) (canonR (b + c)) (canonR (a * (b + c))) (canonR (a * c)) (canonR ((a + b) * half)) (canonR (a + c)) (cmpR a b) c.num.sign := by
  have a100 := ha.mono (show 5 ≤ 100 by omega)
  have b100 := hb.mono (show 5 ≤ 100 by omega)
  have c100 := hc.mono (show 5 ≤ 100 by omega)
  have ab := (ha.add hb).mono (show 5 + 5 + 1 ≤ 100 by omega)
  have ac := (ha.add hc).mono (show 5 + 5 + 1 ≤ 100 by omega)
  have bc := (hb.add hc).mono (show 5 + 5 + 1 ≤ 100 by omega)
  have mab := (ha.mul hb).mono (show 5 + 5 ≤ 100 by omega)
  have mac := (ha.mul hc).mono (show 5 + 5 ≤ 100 by omega)
  have mcb := (hc.mul hb).mono (show 5 + 5 ≤ 100 by omega)
  have mid := (((ha.add hb).mono (show 5 + 5 + 1 ≤ 11 by omega)).mul (half_sz 11 (by omega))).mono (show 11 + 11 ≤ 100 by omega)
  refine ⟨fun W hW => radd_any a b 100 (by omega) (by omega) a100 b100 W (he.below hW), fun W hW => radd_any (a + b) c 100 (by omega) (by omega) ab c100 W (he.below hW), fun W hW => ?_, fun W hW => ?_,
    fun W hW => rmul_any a b 100 (by omega) (by omega) a100 b100 W (he.below hW), fun W hW => rmul_any (a * b) c 100 (by omega) (by omega) mab c100 W (he.below hW), fun W hW => rmul_any c b 100 (by omega) (by omega) c100 b100 W (he.below hW), fun W hW => ?_,
    fun W hW => radd_any b c 100 (by omega) (by omega) b100 c100 W (he.below hW), fun W hW => rmul_any a (b + c) 100 (by omega) (by omega) a100 bc W (he.below hW), fun W hW => rmul_any a c 100 (by omega) (by omega) a100 c100 W (he.below hW), fun W hW => ?_,
    fun W hW => ?_, fun W hW => radd_any a c 100 (by omega) (by omega) a100 c100 W (he.below hW), fun W hW => ?_, fun W hW => rmiddle_any a b 100 (by omega) (by omega) a100 b100 W (he.below hW),
    fun W hW => rcompare_any a b 100 (by omega) (by omega) a100 b100 W (he.below hW), fun W hW => ?_, fun W hW => ?_, fun W hW => ?_, fun W hW => ?_, fun W => rsign_any c W (by have := hc.text (by omega); omega), cmpR_in a b, sign_in _⟩
  · have h := radd_any b a 100 (by omega) (by omega) b100 a100 W (he.below hW)
    rw [Rat.add_comm b a] at h
    exact h
  · have h := radd_any c (a + b) 100 (by omega) (by omega) c100 ab W (he.below hW)
    rw [Rat.add_comm c (a + b)] at h
    exact h
  · have h := rmul_any (c * b) a 100 (by omega) (by omega) mcb a100 W (he.below hW)
    rw [show c * b * a = a * b * c by grind] at h
    exact h
  · have h := radd_any (a * b) (a * c) 100 (by omega) (by omega) mab mac W (he.below hW)
    rw [← Rat.mul_add] at h
    exact h
  · have h := rsub_any (a + b) b 100 (by omega) (by omega) ab b100 W (he.below hW)
    rw [radd_sub] at h
    exact h
  · have h := rmul_any b c 100 (by omega) (by omega) b100 c100 W (he.below hW)
    rw [Rat.mul_comm b c] at h
    exact h
  · have h := rcompare_any (a + c) (b + c) 100 (by omega) (by omega) ac bc W (he.below hW)
    rw [show ((a + c).num * ((b + c).den : Int) - (b + c).num * ((a + c).den : Int)).sign = cmpR a b from cmpR_add a b c] at h
    exact h
  · have h := rcompare_any (a * c) (c * b) 100 (by omega) (by omega) mac mcb W (he.below hW)
    rw [show ((a * c).num * ((c * b).den : Int) - (c * b).num * ((a * c).den : Int)).sign = cmpR a b * c.num.sign from by
      rw [Rat.mul_comm c b]; exact cmpR_mul a b c] at h
    exact h
  · have h := rcompare_any a ((a + b) * half) 100 (by omega) (by omega) a100 mid W (he.below hW)
    rw [show (a.num * (((a + b) * half).den : Int) - ((a + b) * half).num * (a.den : Int)).sign = cmpR a b from cmpR_mid1 a b] at h
    exact h
  · have h := rcompare_any ((a + b) * half) b 100 (by omega) (by omega) mid b100 W (he.below hW)
    rw [show (((a + b) * half).num * (b.den : Int) - b.num * (((a + b) * half).den : Int)).sign = cmpR a b from cmpR_mid2 a b] at h
    exact h

set_option maxRecDepth 100000 in
set_option maxHeartbeats 16000000 in
theorem field_walk (n1 e1 n2 e2 n3 e3 : Int) (w : World) (h1 : -32768 ≤ n1 ∧ n1 ≤ 32767) (g1 : 0 ≤ e1 ∧ e1 ≤ 255) (h2 : -32768 ≤ n2 ∧ n2 ≤ 32767) (g2 : 0 ≤ e2 ∧ e2 ≤ 255) (h3 : -32768 ≤ n3 ∧ n3 ≤ 32767) (g3 : 0 ≤ e3 ∧ e3 ≤ 255) (he : Env w) :
    Calls Tryz.prog 11 #[.agg #[.int .i16 n1, .int .u8 e1], .agg #[.int .i16 n2, .int .u8 e2], .agg #[.int .i16 n3, .int .u8 e3]] w fun e w' => e = .returned (.bool true) ∧ Below w.heap.size w w' := by
  have hk := fun W (hW : Below w.heap.size w W) => rknown_any W (he.below hW)
  have k1 := fun W (hW : Below w.heap.size w W) => rmake_any n1 e1 W (he.below hW).1 h1.1 h1.2 g1.1 g1.2
  have k2 := fun W (hW : Below w.heap.size w W) => rmake_any n2 e2 W (he.below hW).1 h2.1 h2.2 g2.1 g2.2
  have k3 := fun W (hW : Below w.heap.size w W) => rmake_any n3 e3 W (he.below hW).1 h3.1 h3.2 g3.1 g3.2
  have sa := made_sz n1 e1 h1.1 h1.2 g1.1 g1.2
  have sb := made_sz n2 e2 h2.1 h2.2 g2.1 g2.2
  have sc := made_sz n3 e3 h3.1 h3.2 g3.1 g3.2
  generalize mkRat n1 (e1 + 1).toNat = a at *
  generalize mkRat n2 (e2 + 1).toNat = b at *
  generalize mkRat n3 (e3 + 1).toNat = c at *
  have ff := field_facts a b c sa sb sc w he
  have dv := fun (hb0 : b ≠ 0) W (hW : Below w.heap.size w W) => rdiv_any a b 100 (by omega) (by omega) (sa.mono (by omega)) (sb.mono (by omega)) hb0 W (he.below hW)
  have dm := fun (hb0 : b ≠ 0) W (hW : Below w.heap.size w W) => rmul_any (a / b) b 100 (by omega) (by omega) (by rw [Rat.div_def]; exact ((sa.mul (sb.inv hb0)).mono (show 5 + 5 ≤ 100 by omega))) (sb.mono (by omega)) W (he.below hW)
  have dz := fun (hb0 : b = 0) W => rdiv_zero a W
  have sgB := fun W => rsign_any b W (by have := sb.text (by omega); omega)
  have hbz : b = 0 → b.num.sign = 0 := fun h => by rw [h]; rfl
  have hbm : b ≠ 0 → canonR (a / b * b) = canonR a := fun h => by rw [rdiv_mul a b h]
  have hbt : b = 0 → canonR 0 = canonR b := fun h => by rw [h]
  have z1 : (w.alloc (Obj.cells #[Value.int .i16 n1, Value.int .u8 e1] 60)).heap.size = w.heap.size + 1 := World.size_alloc ..
  have z2 : ((w.alloc (Obj.cells #[Value.int .i16 n1, Value.int .u8 e1] 60)).alloc (Obj.cells #[Value.int .i16 n2, Value.int .u8 e2] 60)).heap.size = w.heap.size + 2 := by rw [World.size_alloc, z1]
  have z3 : (((w.alloc (Obj.cells #[Value.int .i16 n1, Value.int .u8 e1] 60)).alloc (Obj.cells #[Value.int .i16 n2, Value.int .u8 e2] 60)).alloc (Obj.cells #[Value.int .i16 n3, Value.int .u8 e3] 60)).heap.size = w.heap.size + 3 := by rw [World.size_alloc, z2]
  have b0 : Below w.heap.size w (((w.alloc (Obj.cells #[Value.int .i16 n1, Value.int .u8 e1] 60)).alloc (Obj.cells #[Value.int .i16 n2, Value.int .u8 e2] 60)).alloc (Obj.cells #[Value.int .i16 n3, Value.int .u8 e3] 60)) := (((Below.refl _ _).alloc (Nat.le_refl _) _).alloc (by rw [z1]; omega) _).alloc (by rw [z2]; omega) _
  have x1 := heap_more (heap_more (heap_alloc_new w (Obj.cells #[Value.int .i16 n1, Value.int .u8 e1] 60)) (Obj.cells #[Value.int .i16 n2, Value.int .u8 e2] 60)) (Obj.cells #[Value.int .i16 n3, Value.int .u8 e3] 60)
  have x2 := heap_more (heap_alloc_new (w.alloc (Obj.cells #[Value.int .i16 n1, Value.int .u8 e1] 60)) (Obj.cells #[Value.int .i16 n2, Value.int .u8 e2] 60)) (Obj.cells #[Value.int .i16 n3, Value.int .u8 e3] 60)
  have x3 := heap_alloc_new ((w.alloc (Obj.cells #[Value.int .i16 n1, Value.int .u8 e1] 60)).alloc (Obj.cells #[Value.int .i16 n2, Value.int .u8 e2] 60)) (Obj.cells #[Value.int .i16 n3, Value.int .u8 e3] 60)
  rw [z1] at x2
  rw [z2] at x3
  have HK := Lib.hid hk
  have K1 := Lib.hid k1
  have K2 := Lib.hid k2
  have K3 := Lib.hid k3
  have FFH := Lib.hid ff
  have DV := Lib.hid dv
  have DM := Lib.hid dm
  have DZ := Lib.hid dz
  have SGB := Lib.hid sgB
  have HBZ := Lib.hid hbz
  have HBM := Lib.hid hbm
  have HBT := Lib.hid hbt
  have B0 := Lib.hid b0
  have X1 := Lib.hid x1
  have X2 := Lib.hid x2
  have X3 := Lib.hid x3
  have Z3 := Lib.hid z3
  clear hk k1 k2 k3 ff dv dm dz sgB hbz hbm hbt b0 x1 x2 x3 z1 z2 z3 h1 h2 h3 g1 g2 g3 he sa sb sc
  go_enter Tryz.func11, Tryz.ntmps11
  go_upto_region 3 with (go_at_call 13; refine (HK.out _ B0.out).mono ?_; rintro e w1 ⟨rfl, b1⟩; have B1 := Lib.hid b1; clear b1)
  have y1 := (B1.out.block w.heap.size (by rw [Z3.out]; omega)).trans X1.out
  have y2 := (B1.out.block (w.heap.size + 1) (by rw [Z3.out]; omega)).trans X2.out
  have y3 := (B1.out.block (w.heap.size + 2) (by rw [Z3.out]; omega)).trans X3.out
  have bw1 := B0.out.trans (B1.out.mono B0.out.size)
  have c0 : w1.cell? ⟨w.heap.size, 0, none⟩ = some (.int .i16 n1) := by rw [Lib.cell_of_heap y1]; rfl
  have c1 : w1.cell? ⟨w.heap.size, 1, none⟩ = some (.int .u8 e1) := by rw [Lib.cell_of_heap y1]; rfl
  have c2 : w1.cell? ⟨w.heap.size + 1, 0, none⟩ = some (.int .i16 n2) := by rw [Lib.cell_of_heap y2]; rfl
  have c3 : w1.cell? ⟨w.heap.size + 1, 1, none⟩ = some (.int .u8 e2) := by rw [Lib.cell_of_heap y2]; rfl
  have c4 : w1.cell? ⟨w.heap.size + 2, 0, none⟩ = some (.int .i16 n3) := by rw [Lib.cell_of_heap y3]; rfl
  have c5 : w1.cell? ⟨w.heap.size + 2, 1, none⟩ = some (.int .u8 e3) := by rw [Lib.cell_of_heap y3]; rfl
  have hs0 : w.heap.size < w1.heap.size := (Array.getElem?_eq_some_iff.1 y1).1
  have hs1 : w.heap.size + 1 < w1.heap.size := (Array.getElem?_eq_some_iff.1 y2).1
  have hs2 : w.heap.size + 2 < w1.heap.size := (Array.getElem?_eq_some_iff.1 y3).1
  have BW1 := Lib.hid bw1
  clear y1 y2 y3 bw1 B0 B1 X1 X2 X3 Z3
  go_cut [7, 8, 9] from 16 to 21 (fun x1 x2 x3 wx => x1 = .string (canonR a) ∧ x2 = .string (canonR b) ∧ x3 = .string (canonR c) ∧ Below w.heap.size w wx)
  case first =>
    clear FFH DV DM DZ SGB HBZ HBM HBT HK
    go_region_held3 (fun w' => w'.cell? ⟨w.heap.size, 0, none⟩ = some (.int .i16 n1) ∧ w'.cell? ⟨w.heap.size, 1, none⟩ = some (.int .u8 e1) ∧ w'.cell? ⟨w.heap.size + 1, 0, none⟩ = some (.int .i16 n2) ∧ w'.cell? ⟨w.heap.size + 1, 1, none⟩ = some (.int .u8 e2) ∧ w'.cell? ⟨w.heap.size + 2, 0, none⟩ = some (.int .i16 n3) ∧ w'.cell? ⟨w.heap.size + 2, 1, none⟩ = some (.int .u8 e3))
      (first | exact ⟨c0, c1, c2, c3, c4, c5⟩ | exact ⟨f0, f1, f2, f3, f4, f5⟩ | exact ⟨i0, i1, i2, i3, i4, i5⟩ | exact ⟨j0, j1, j2, j3, j4, j5⟩)
      (first
        | (go_at_call_of 55 (Value.int .i16 n1); refine (K1.out _ ?_).mono ?_; (first | exact BW1.out | exact BW1.out.drew); rintro e wf ⟨rfl, q⟩; have f0 := (q.cell (p := ⟨w.heap.size, 0, none⟩) hs0).trans c0; have f1 := (q.cell (p := ⟨w.heap.size, 1, none⟩) hs0).trans c1; have f2 := (q.cell (p := ⟨w.heap.size + 1, 0, none⟩) hs1).trans c2; have f3 := (q.cell (p := ⟨w.heap.size + 1, 1, none⟩) hs1).trans c3; have f4 := (q.cell (p := ⟨w.heap.size + 2, 0, none⟩) hs2).trans c4; have f5 := (q.cell (p := ⟨w.heap.size + 2, 1, none⟩) hs2).trans c5; have ht0 := Nat.lt_of_lt_of_le hs0 q.size; have ht1 := Nat.lt_of_lt_of_le hs1 q.size; have ht2 := Nat.lt_of_lt_of_le hs2 q.size; have B2 := Lib.hid (Below.trans (first_fld BW1.out) (q.mono BW1.out.size)); clear q)
        | (go_at_call_of 55 (Value.int .i16 n2); refine (K2.out _ B2.out).mono ?_; rintro e wi ⟨rfl, q⟩; have i0 := (q.cell (p := ⟨w.heap.size, 0, none⟩) ht0).trans f0; have i1 := (q.cell (p := ⟨w.heap.size, 1, none⟩) ht0).trans f1; have i2 := (q.cell (p := ⟨w.heap.size + 1, 0, none⟩) ht1).trans f2; have i3 := (q.cell (p := ⟨w.heap.size + 1, 1, none⟩) ht1).trans f3; have i4 := (q.cell (p := ⟨w.heap.size + 2, 0, none⟩) ht2).trans f4; have i5 := (q.cell (p := ⟨w.heap.size + 2, 1, none⟩) ht2).trans f5; have hu0 := Nat.lt_of_lt_of_le ht0 q.size; have hu1 := Nat.lt_of_lt_of_le ht1 q.size; have hu2 := Nat.lt_of_lt_of_le ht2 q.size; have B3 := Lib.hid (B2.out.trans (q.mono B2.out.size)); clear q)
        | (go_at_call_of 55 (Value.int .i16 n3); refine (K3.out _ B3.out).mono ?_; rintro e wj ⟨rfl, q⟩; have j0 := (q.cell (p := ⟨w.heap.size, 0, none⟩) hu0).trans i0; have j1 := (q.cell (p := ⟨w.heap.size, 1, none⟩) hu0).trans i1; have j2 := (q.cell (p := ⟨w.heap.size + 1, 0, none⟩) hu1).trans i2; have j3 := (q.cell (p := ⟨w.heap.size + 1, 1, none⟩) hu1).trans i3; have j4 := (q.cell (p := ⟨w.heap.size + 2, 0, none⟩) hu2).trans i4; have j5 := (q.cell (p := ⟨w.heap.size + 2, 1, none⟩) hu2).trans i5; have hv0 := Nat.lt_of_lt_of_le hu0 q.size; have hv1 := Nat.lt_of_lt_of_le hu1 q.size; have hv2 := Nat.lt_of_lt_of_le hu2 q.size; have B4 := Lib.hid (B3.out.trans (q.mono B3.out.size)); clear q)
        | fail "arm")
    all_goals
      go_wp2_with fail
      go_meet
      exact ⟨rfl, rfl, rfl, B4.out⟩
  case rest =>
    obtain ⟨rfl, rfl, rfl, b5⟩ := hcut
    have B := Lib.hid b5
    clear b5 K1 K2 K3 BW1 c0 c1 c2 c3 c4 c5 hs0 hs1 hs2 HK
    have FC := FFH.out
    clear FFH
    generalize canonR (a + b) = AB at *
    generalize canonR (a + b + c) = S3 at *
    generalize canonR (a * b) = P at *
    generalize canonR (a * b * c) = P3 at *
    generalize canonR (c * b) = Q at *
    generalize canonR (b + c) = BC at *
    generalize canonR (a * (b + c)) = D at *
    generalize canonR (a * c) = AC at *
    generalize canonR ((a + b) * half) = M at *
    generalize canonR (a + c) = A2 at *
    generalize cmpR a b = n at *
    generalize c.num.sign = s at *
    have TZ := HBT.out
    have TM := HBM.out
    have SB := SGB.out
    have SZ := HBZ.out
    have DVV := DV.out
    have DMM := DM.out
    have DZZ := DZ.out
    clear HBT HBM SGB HBZ DV DM DZ
    generalize canonR (a / b * b) = X2 at *
    generalize canonR (a / b) = X at *
    generalize canonR 0 = T0 at *
    generalize canonR a = TA at *
    generalize canonR b = TB at *
    generalize canonR c = TC at *
    generalize b.num.sign = sb at *
    have nn := FC.nin
    have ss := FC.sin
    have ns := mul_in1 nn ss
    obtain ⟨nn1, nn2⟩ := nn
    obtain ⟨ss1, ss2⟩ := ss
    obtain ⟨ns1, ns2⟩ := ns
    have Hadd1 := Lib.hid FC.add1
    have Hadd2 := Lib.hid FC.add2
    have Hadd3 := Lib.hid FC.add3
    have Hadd4 := Lib.hid FC.add4
    have Hmul1 := Lib.hid FC.mul1
    have Hmul2 := Lib.hid FC.mul2
    have Hmul3 := Lib.hid FC.mul3
    have Hmul4 := Lib.hid FC.mul4
    have Hadd5 := Lib.hid FC.add5
    have Hmul5 := Lib.hid FC.mul5
    have Hmul6 := Lib.hid FC.mul6
    have Hadd6 := Lib.hid FC.add6
    have Hsub1 := Lib.hid FC.sub1
    have Hadd7 := Lib.hid FC.add7
    have Hmul7 := Lib.hid FC.mul7
    have Hmid := Lib.hid FC.mid
    have Hcmp1 := Lib.hid FC.cmp1
    have Hcmp2 := Lib.hid FC.cmp2
    have Hcmp3 := Lib.hid FC.cmp3
    have Hcmp4 := Lib.hid FC.cmp4
    have Hcmp5 := Lib.hid FC.cmp5
    have HsgC := Lib.hid FC.sgC
    clear FC
    by_cases hb : b = 0
    · have e1 := TZ hb
      have e2 := SZ hb
      subst e1 e2
      have HDZ := Lib.hid (DZZ hb)
      have HSB := Lib.hid SB
      clear DVV DMM DZZ SB TZ TM SZ hb
      go_wp2_with (first
        | (go_at_call 41; (with_reducible refine (Hadd1.out _ B.out).mono ?_); rintro e wx ⟨rfl, q⟩; replace B := Lib.hid (B.out.trans (q.mono B.out.size)); clear q)
        | (go_at_call 41; (with_reducible refine (Hadd2.out _ B.out).mono ?_); rintro e wx ⟨rfl, q⟩; replace B := Lib.hid (B.out.trans (q.mono B.out.size)); clear q)
        | (go_at_call 41; (with_reducible refine (Hadd3.out _ B.out).mono ?_); rintro e wx ⟨rfl, q⟩; replace B := Lib.hid (B.out.trans (q.mono B.out.size)); clear q)
        | (go_at_call 41; (with_reducible refine (Hadd4.out _ B.out).mono ?_); rintro e wx ⟨rfl, q⟩; replace B := Lib.hid (B.out.trans (q.mono B.out.size)); clear q)
        | (go_at_call 38; (with_reducible refine (Hmul1.out _ B.out).mono ?_); rintro e wx ⟨rfl, q⟩; replace B := Lib.hid (B.out.trans (q.mono B.out.size)); clear q)
        | (go_at_call 38; (with_reducible refine (Hmul2.out _ B.out).mono ?_); rintro e wx ⟨rfl, q⟩; replace B := Lib.hid (B.out.trans (q.mono B.out.size)); clear q)
        | (go_at_call 38; (with_reducible refine (Hmul3.out _ B.out).mono ?_); rintro e wx ⟨rfl, q⟩; replace B := Lib.hid (B.out.trans (q.mono B.out.size)); clear q)
        | (go_at_call 38; (with_reducible refine (Hmul4.out _ B.out).mono ?_); rintro e wx ⟨rfl, q⟩; replace B := Lib.hid (B.out.trans (q.mono B.out.size)); clear q)
        | (go_at_call 41; (with_reducible refine (Hadd5.out _ B.out).mono ?_); rintro e wx ⟨rfl, q⟩; replace B := Lib.hid (B.out.trans (q.mono B.out.size)); clear q)
        | (go_at_call 38; (with_reducible refine (Hmul5.out _ B.out).mono ?_); rintro e wx ⟨rfl, q⟩; replace B := Lib.hid (B.out.trans (q.mono B.out.size)); clear q)
        | (go_at_call 38; (with_reducible refine (Hmul6.out _ B.out).mono ?_); rintro e wx ⟨rfl, q⟩; replace B := Lib.hid (B.out.trans (q.mono B.out.size)); clear q)
        | (go_at_call 41; (with_reducible refine (Hadd6.out _ B.out).mono ?_); rintro e wx ⟨rfl, q⟩; replace B := Lib.hid (B.out.trans (q.mono B.out.size)); clear q)
        | (go_at_call 42; (with_reducible refine (Hsub1.out _ B.out).mono ?_); rintro e wx ⟨rfl, q⟩; replace B := Lib.hid (B.out.trans (q.mono B.out.size)); clear q)
        | (go_at_call 41; (with_reducible refine (Hadd7.out _ B.out).mono ?_); rintro e wx ⟨rfl, q⟩; replace B := Lib.hid (B.out.trans (q.mono B.out.size)); clear q)
        | (go_at_call 38; (with_reducible refine (Hmul7.out _ B.out).mono ?_); rintro e wx ⟨rfl, q⟩; replace B := Lib.hid (B.out.trans (q.mono B.out.size)); clear q)
        | (go_at_call 48; (with_reducible refine (Hmid.out _ B.out).mono ?_); rintro e wx ⟨rfl, q⟩; replace B := Lib.hid (B.out.trans (q.mono B.out.size)); clear q)
        | (go_at_call 50; (with_reducible refine (Hcmp1.out _ B.out).mono ?_); rintro e wx ⟨rfl, q⟩; replace B := Lib.hid (B.out.trans (q.mono B.out.size)); clear q)
        | (go_at_call 50; (with_reducible refine (Hcmp2.out _ B.out).mono ?_); rintro e wx ⟨rfl, q⟩; replace B := Lib.hid (B.out.trans (q.mono B.out.size)); clear q)
        | (go_at_call 50; (with_reducible refine (Hcmp3.out _ B.out).mono ?_); rintro e wx ⟨rfl, q⟩; replace B := Lib.hid (B.out.trans (q.mono B.out.size)); clear q)
        | (go_at_call 50; (with_reducible refine (Hcmp4.out _ B.out).mono ?_); rintro e wx ⟨rfl, q⟩; replace B := Lib.hid (B.out.trans (q.mono B.out.size)); clear q)
        | (go_at_call 50; (with_reducible refine (Hcmp5.out _ B.out).mono ?_); rintro e wx ⟨rfl, q⟩; replace B := Lib.hid (B.out.trans (q.mono B.out.size)); clear q)
        | (go_at_call_of 51 (Value.string TC); (with_reducible refine (HsgC.out _).mono ?_); rintro e wx ⟨rfl, rfl⟩)
        | (go_at_call 37; (with_reducible refine (HDZ.out _).mono ?_); rintro e wx ⟨rfl, rfl⟩)
        | (go_at_call 51; (with_reducible refine (HSB.out _).mono ?_); rintro e wx ⟨rfl, rfl⟩)
        | fail "arm")
      go_ret
      exact ⟨by simp, B.out⟩
    · have e1 := TM hb
      subst e1
      have HDV := Lib.hid (DVV hb)
      have HDM := Lib.hid (DMM hb)
      clear DVV DMM DZZ SB TZ TM SZ hb
      go_wp2_with (first
        | (go_at_call 41; (with_reducible refine (Hadd1.out _ B.out).mono ?_); rintro e wx ⟨rfl, q⟩; replace B := Lib.hid (B.out.trans (q.mono B.out.size)); clear q)
        | (go_at_call 41; (with_reducible refine (Hadd2.out _ B.out).mono ?_); rintro e wx ⟨rfl, q⟩; replace B := Lib.hid (B.out.trans (q.mono B.out.size)); clear q)
        | (go_at_call 41; (with_reducible refine (Hadd3.out _ B.out).mono ?_); rintro e wx ⟨rfl, q⟩; replace B := Lib.hid (B.out.trans (q.mono B.out.size)); clear q)
        | (go_at_call 41; (with_reducible refine (Hadd4.out _ B.out).mono ?_); rintro e wx ⟨rfl, q⟩; replace B := Lib.hid (B.out.trans (q.mono B.out.size)); clear q)
        | (go_at_call 38; (with_reducible refine (Hmul1.out _ B.out).mono ?_); rintro e wx ⟨rfl, q⟩; replace B := Lib.hid (B.out.trans (q.mono B.out.size)); clear q)
        | (go_at_call 38; (with_reducible refine (Hmul2.out _ B.out).mono ?_); rintro e wx ⟨rfl, q⟩; replace B := Lib.hid (B.out.trans (q.mono B.out.size)); clear q)
        | (go_at_call 38; (with_reducible refine (Hmul3.out _ B.out).mono ?_); rintro e wx ⟨rfl, q⟩; replace B := Lib.hid (B.out.trans (q.mono B.out.size)); clear q)
        | (go_at_call 38; (with_reducible refine (Hmul4.out _ B.out).mono ?_); rintro e wx ⟨rfl, q⟩; replace B := Lib.hid (B.out.trans (q.mono B.out.size)); clear q)
        | (go_at_call 41; (with_reducible refine (Hadd5.out _ B.out).mono ?_); rintro e wx ⟨rfl, q⟩; replace B := Lib.hid (B.out.trans (q.mono B.out.size)); clear q)
        | (go_at_call 38; (with_reducible refine (Hmul5.out _ B.out).mono ?_); rintro e wx ⟨rfl, q⟩; replace B := Lib.hid (B.out.trans (q.mono B.out.size)); clear q)
        | (go_at_call 38; (with_reducible refine (Hmul6.out _ B.out).mono ?_); rintro e wx ⟨rfl, q⟩; replace B := Lib.hid (B.out.trans (q.mono B.out.size)); clear q)
        | (go_at_call 41; (with_reducible refine (Hadd6.out _ B.out).mono ?_); rintro e wx ⟨rfl, q⟩; replace B := Lib.hid (B.out.trans (q.mono B.out.size)); clear q)
        | (go_at_call 42; (with_reducible refine (Hsub1.out _ B.out).mono ?_); rintro e wx ⟨rfl, q⟩; replace B := Lib.hid (B.out.trans (q.mono B.out.size)); clear q)
        | (go_at_call 41; (with_reducible refine (Hadd7.out _ B.out).mono ?_); rintro e wx ⟨rfl, q⟩; replace B := Lib.hid (B.out.trans (q.mono B.out.size)); clear q)
        | (go_at_call 38; (with_reducible refine (Hmul7.out _ B.out).mono ?_); rintro e wx ⟨rfl, q⟩; replace B := Lib.hid (B.out.trans (q.mono B.out.size)); clear q)
        | (go_at_call 48; (with_reducible refine (Hmid.out _ B.out).mono ?_); rintro e wx ⟨rfl, q⟩; replace B := Lib.hid (B.out.trans (q.mono B.out.size)); clear q)
        | (go_at_call 50; (with_reducible refine (Hcmp1.out _ B.out).mono ?_); rintro e wx ⟨rfl, q⟩; replace B := Lib.hid (B.out.trans (q.mono B.out.size)); clear q)
        | (go_at_call 50; (with_reducible refine (Hcmp2.out _ B.out).mono ?_); rintro e wx ⟨rfl, q⟩; replace B := Lib.hid (B.out.trans (q.mono B.out.size)); clear q)
        | (go_at_call 50; (with_reducible refine (Hcmp3.out _ B.out).mono ?_); rintro e wx ⟨rfl, q⟩; replace B := Lib.hid (B.out.trans (q.mono B.out.size)); clear q)
        | (go_at_call 50; (with_reducible refine (Hcmp4.out _ B.out).mono ?_); rintro e wx ⟨rfl, q⟩; replace B := Lib.hid (B.out.trans (q.mono B.out.size)); clear q)
        | (go_at_call 50; (with_reducible refine (Hcmp5.out _ B.out).mono ?_); rintro e wx ⟨rfl, q⟩; replace B := Lib.hid (B.out.trans (q.mono B.out.size)); clear q)
        | (go_at_call_of 51 (Value.string TC); (with_reducible refine (HsgC.out _).mono ?_); rintro e wx ⟨rfl, rfl⟩)
        | (go_at_call 37; (with_reducible refine (HDV.out _ B.out).mono ?_); rintro e wx ⟨rfl, q⟩; replace B := Lib.hid (B.out.trans (q.mono B.out.size)); clear q)
        | (go_at_call 38; (with_reducible refine (HDM.out _ B.out).mono ?_); rintro e wx ⟨rfl, q⟩; replace B := Lib.hid (B.out.trans (q.mono B.out.size)); clear q)
        | fail "arm")
      go_ret
      exact ⟨by simp, B.out⟩

end Go.Proofs.YtjkbgjjfchhpfaaGreatDoor
