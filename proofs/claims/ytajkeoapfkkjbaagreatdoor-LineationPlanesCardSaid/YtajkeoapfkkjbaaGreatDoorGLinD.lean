/- The walks of lineation on texts: the downward form, CompareAngles. -/
import Derived.Test.YtajkeoapfkkjbaaGreatDoorGLinX
import Derived.Outline
/- The walk of lineation.down, over texts. -/
namespace Go.Proofs.YtajkeoapfkkjbaaGreatDoor
set_option linter.all false
open Go.RowKit

set_option maxRecDepth 100000 in
set_option maxHeartbeats 4000000 in
theorem ldown_down (X Y Z X1 Y1 Z1 X2 Y2 Z2 N0 N1 N2 D0 D1 D2 M0 M1 M2 G0 G1 G2 R0 R1 R2 T0 T1 T2 V0 V1 V2 E1 E2 E3 H1 H2 H3 W1 KK : ByteArray) (w : World)
    (p0 : ∀ W, Below w.heap.size w W → Calls Tryz.prog 53 #[.string X] W fun e w' => e = .returned (.tuple #[.string N0, .string D0]) ∧ Below W.heap.size W w')
    (a0 : ∀ W, Below w.heap.size w W → Calls Tryz.prog 55 #[.string ⟨#[49]⟩, .string D0] W fun e w' => e = .returned (.string M0) ∧ Below W.heap.size W w')
    (b0 : ∀ W, Below w.heap.size w W → Calls Tryz.prog 70 #[.string ⟨#[49]⟩, .string D0] W fun e w' => e = .returned (.string G0) ∧ Below W.heap.size W w')
    (d0 : ∀ W, Below w.heap.size w W → Calls Tryz.prog 69 #[.string M0, .string G0] W fun e w' => e = .returned (.tuple #[.string E1, .string R0, .int .i64 0]) ∧ Below W.heap.size W w')
    (p1 : ∀ W, Below w.heap.size w W → Calls Tryz.prog 53 #[.string Y] W fun e w' => e = .returned (.tuple #[.string N1, .string D1]) ∧ Below W.heap.size W w')
    (a1 : ∀ W, Below w.heap.size w W → Calls Tryz.prog 55 #[.string E1, .string D1] W fun e w' => e = .returned (.string M1) ∧ Below W.heap.size W w')
    (b1 : ∀ W, Below w.heap.size w W → Calls Tryz.prog 70 #[.string E1, .string D1] W fun e w' => e = .returned (.string G1) ∧ Below W.heap.size W w')
    (d1 : ∀ W, Below w.heap.size w W → Calls Tryz.prog 69 #[.string M1, .string G1] W fun e w' => e = .returned (.tuple #[.string E2, .string R1, .int .i64 0]) ∧ Below W.heap.size W w')
    (p2 : ∀ W, Below w.heap.size w W → Calls Tryz.prog 53 #[.string Z] W fun e w' => e = .returned (.tuple #[.string N2, .string D2]) ∧ Below W.heap.size W w')
    (a2 : ∀ W, Below w.heap.size w W → Calls Tryz.prog 55 #[.string E2, .string D2] W fun e w' => e = .returned (.string M2) ∧ Below W.heap.size W w')
    (b2 : ∀ W, Below w.heap.size w W → Calls Tryz.prog 70 #[.string E2, .string D2] W fun e w' => e = .returned (.string G2) ∧ Below W.heap.size W w')
    (d2 : ∀ W, Below w.heap.size w W → Calls Tryz.prog 69 #[.string M2, .string G2] W fun e w' => e = .returned (.tuple #[.string E3, .string R2, .int .i64 0]) ∧ Below W.heap.size W w')
    (n1 : ∀ W, Below w.heap.size w W → Calls Tryz.prog 67 #[.string E3, .string ⟨#[49]⟩] W fun e w' => e = .returned (.tuple #[.string W1, .int .i64 0]) ∧ Below W.heap.size W w')
    (c1 : ∀ W, Below w.heap.size w W → Calls Tryz.prog 71 #[.agg #[.string X, .string Y, .string Z], .string W1] W fun e w' => e = .returned (.agg #[.string X1, .string Y1, .string Z1]) ∧ Below W.heap.size W w')
    (q0 : ∀ W, Below w.heap.size w W → Calls Tryz.prog 53 #[.string X1] W fun e w' => e = .returned (.tuple #[.string T0, .string V0]) ∧ Below W.heap.size W w')
    (g0 : ∀ W, Below w.heap.size w W → Calls Tryz.prog 70 #[.string ⟨#[48]⟩, .string T0] W fun e w' => e = .returned (.string H1) ∧ Below W.heap.size W w')
    (q1 : ∀ W, Below w.heap.size w W → Calls Tryz.prog 53 #[.string Y1] W fun e w' => e = .returned (.tuple #[.string T1, .string V1]) ∧ Below W.heap.size W w')
    (g1 : ∀ W, Below w.heap.size w W → Calls Tryz.prog 70 #[.string H1, .string T1] W fun e w' => e = .returned (.string H2) ∧ Below W.heap.size W w')
    (q2 : ∀ W, Below w.heap.size w W → Calls Tryz.prog 53 #[.string Z1] W fun e w' => e = .returned (.tuple #[.string T2, .string V2]) ∧ Below W.heap.size W w')
    (g2 : ∀ W, Below w.heap.size w W → Calls Tryz.prog 70 #[.string H2, .string T2] W fun e w' => e = .returned (.string H3) ∧ Below W.heap.size W w')
    (n2 : ∀ W, Below w.heap.size w W → Calls Tryz.prog 67 #[.string ⟨#[49]⟩, .string H3] W fun e w' => e = .returned (.tuple #[.string KK, .int .i64 0]) ∧ Below W.heap.size W w')
    (u1 : ∀ W, Below w.heap.size w W → Calls Tryz.prog 72 #[.agg #[.string X1, .string Y1, .string Z1]] W fun e w' => e = .returned (.bool false) ∧ Below W.heap.size W w')
    (c2 : ∀ W, Below w.heap.size w W → Calls Tryz.prog 71 #[.agg #[.string X1, .string Y1, .string Z1], .string KK] W fun e w' => e = .returned (.agg #[.string X2, .string Y2, .string Z2]) ∧ Below W.heap.size W w') :
    Calls Tryz.prog 47 #[.agg #[.string X, .string Y, .string Z]] w fun e w' => e = .returned (.agg #[.string X2, .string Y2, .string Z2]) ∧ Below w.heap.size w w' := by
  have P0 := Lib.hid p0
  have A0 := Lib.hid a0
  have B0 := Lib.hid b0
  have D0_ := Lib.hid d0
  have P1 := Lib.hid p1
  have A1 := Lib.hid a1
  have B1 := Lib.hid b1
  have D1_ := Lib.hid d1
  have P2 := Lib.hid p2
  have A2 := Lib.hid a2
  have B2 := Lib.hid b2
  have D2_ := Lib.hid d2
  have N1_ := Lib.hid n1
  have C1_ := Lib.hid c1
  have Q0 := Lib.hid q0
  have G0_ := Lib.hid g0
  have Q1 := Lib.hid q1
  have G1_ := Lib.hid g1
  have Q2 := Lib.hid q2
  have G2_ := Lib.hid g2
  have N2_ := Lib.hid n2
  have U1 := Lib.hid u1
  have C2_ := Lib.hid c2
  clear p0 a0 b0 d0 p1 a1 b1 d1 p2 a2 b2 d2 n1 c1 q0 g0 q1 g1 q2 g2 n2 u1 c2
  have k0 := Blk.fresh w #[.string X, .string Y, .string Z] 34
  replace k0 := k0.alloc (Obj.cells #[.string ⟨#[]⟩, .string ⟨#[]⟩, .string ⟨#[]⟩] 34)
  have k1 := Blk.fresh (w.alloc (Obj.cells #[.string X, .string Y, .string Z] 34)) #[.string ⟨#[]⟩, .string ⟨#[]⟩, .string ⟨#[]⟩] 34
  rw [show (w.alloc (Obj.cells #[.string X, .string Y, .string Z] 34)).heap.size = w.heap.size + 1 from World.size_alloc ..] at k1
  have b0 : Below w.heap.size w ((w.alloc (Obj.cells #[.string X, .string Y, .string Z] 34)).alloc (Obj.cells #[.string ⟨#[]⟩, .string ⟨#[]⟩, .string ⟨#[]⟩] 34)) := (((Below.refl _ _).alloc (Nat.le_refl _) _).alloc (by simp; try omega) _)
  have K0 := Lib.hid k0
  have K1 := Lib.hid k1
  have B := Lib.hid b0
  clear b0 k0 k1
  go_enter Tryz.func47, Tryz.ntmps47
  go_upto_region 1 with (fail)
  generalize ((w.alloc (Obj.cells #[.string X, .string Y, .string Z] 34)).alloc (Obj.cells #[.string ⟨#[]⟩, .string ⟨#[]⟩, .string ⟨#[]⟩] 34)) = W0 at *
  have c00 := K0.out.at_ 0 _ rfl
  have c01 := K0.out.at_ 1 _ rfl
  have c02 := K0.out.at_ 2 _ rfl
  have c10 := K1.out.at_ 0 _ rfl
  have c11 := K1.out.at_ 1 _ rfl
  have c12 := K1.out.at_ 2 _ rfl
  have z10 := K1.out.free 0
  have z11 := K1.out.free 1
  have z12 := K1.out.free 2
  go_wp2
  have n2 := Blk.fresh W0 #[.string X, .string Y, .string Z] 32
  replace K0 := Lib.hid (K0.out.alloc (Obj.cells #[.string X, .string Y, .string Z] 32))
  replace K1 := Lib.hid (K1.out.alloc (Obj.cells #[.string X, .string Y, .string Z] 32))
  replace B := Lib.hid (B.out.trans ((below_new W0 (Obj.cells #[.string X, .string Y, .string Z] 32)).mono B.out.size))
  generalize W0.alloc (Obj.cells #[.string X, .string Y, .string Z] 32) = WS2 at *
  generalize W0.heap.size = g1 at *
  have K2 := Lib.hid n2
  clear n2
  clear c00 c01 c02 c10 c11 c12 z10 z11 z12
  go_loopw [3, 28] (fun v i wr => ((v = .string ⟨#[49]⟩ ∧ i = .int .i64 0) ∨ (v = .string E1 ∧ i = .int .i64 1) ∨ (v = .string E2 ∧ i = .int .i64 2) ∨ (v = .string E3 ∧ i = .int .i64 3)) ∧ Blk wr g1 #[.string X, .string Y, .string Z] 32 ∧ Blk wr w.heap.size #[.string X, .string Y, .string Z] 34 ∧ Blk wr (w.heap.size + 1) #[.string ⟨#[]⟩, .string ⟨#[]⟩, .string ⟨#[]⟩] 34 ∧ Below w.heap.size w wr) (fun _ i _ => 3 - (intOf i).toNat)
  case atStart => exact ⟨.inl ⟨rfl, rfl⟩, K2.out, K0.out, K1.out, B.out⟩
  case round =>
    clear K0 K1 K2 B
    obtain ⟨hcase, k2, k0, k1, b⟩ := hrel
    have K0 := Lib.hid k0
    have K1 := Lib.hid k1
    have K2 := Lib.hid k2
    have B := Lib.hid b
    clear k0 k1 k2 b
    have c20 := K2.out.at_ 0 _ rfl
    have c21 := K2.out.at_ 1 _ rfl
    have c22 := K2.out.at_ 2 _ rfl
    rcases hcase with ⟨rfl, rfl⟩ | ⟨rfl, rfl⟩ | ⟨rfl, rfl⟩ | ⟨rfl, rfl⟩
    · go_wp2_with (first
        | (go_at_call 53; (with_reducible refine (P0.out _ (Near.base (by first | exact Near.same _ | exact Near.one _) B.out)).mono ?_); rintro e wx ⟨rfl, q⟩; replace K0 := Lib.hid (K0.out.near (by first | exact Near.same _ | exact Near.one _) q); replace K1 := Lib.hid (K1.out.near (by first | exact Near.same _ | exact Near.one _) q); replace K2 := Lib.hid (K2.out.near (by first | exact Near.same _ | exact Near.one _) q); replace B := Lib.hid (Near.go (by first | exact Near.same _ | exact Near.one _) B.out q B.out.size); clear q; replace c20 := K2.out.at_ 0 _ rfl; replace c21 := K2.out.at_ 1 _ rfl; replace c22 := K2.out.at_ 2 _ rfl)
        | (go_at_call 55; (with_reducible refine (A0.out _ (Near.base (by first | exact Near.same _ | exact Near.one _) B.out)).mono ?_); rintro e wx ⟨rfl, q⟩; replace K0 := Lib.hid (K0.out.near (by first | exact Near.same _ | exact Near.one _) q); replace K1 := Lib.hid (K1.out.near (by first | exact Near.same _ | exact Near.one _) q); replace K2 := Lib.hid (K2.out.near (by first | exact Near.same _ | exact Near.one _) q); replace B := Lib.hid (Near.go (by first | exact Near.same _ | exact Near.one _) B.out q B.out.size); clear q; replace c20 := K2.out.at_ 0 _ rfl; replace c21 := K2.out.at_ 1 _ rfl; replace c22 := K2.out.at_ 2 _ rfl)
        | (go_at_call 70; (with_reducible refine (B0.out _ (Near.base (by first | exact Near.same _ | exact Near.one _) B.out)).mono ?_); rintro e wx ⟨rfl, q⟩; replace K0 := Lib.hid (K0.out.near (by first | exact Near.same _ | exact Near.one _) q); replace K1 := Lib.hid (K1.out.near (by first | exact Near.same _ | exact Near.one _) q); replace K2 := Lib.hid (K2.out.near (by first | exact Near.same _ | exact Near.one _) q); replace B := Lib.hid (Near.go (by first | exact Near.same _ | exact Near.one _) B.out q B.out.size); clear q; replace c20 := K2.out.at_ 0 _ rfl; replace c21 := K2.out.at_ 1 _ rfl; replace c22 := K2.out.at_ 2 _ rfl)
        | (go_at_call 69; (with_reducible refine (D0_.out _ (Near.base (by first | exact Near.same _ | exact Near.one _) B.out)).mono ?_); rintro e wx ⟨rfl, q⟩; replace K0 := Lib.hid (K0.out.near (by first | exact Near.same _ | exact Near.one _) q); replace K1 := Lib.hid (K1.out.near (by first | exact Near.same _ | exact Near.one _) q); replace K2 := Lib.hid (K2.out.near (by first | exact Near.same _ | exact Near.one _) q); replace B := Lib.hid (Near.go (by first | exact Near.same _ | exact Near.one _) B.out q B.out.size); clear q; replace c20 := K2.out.at_ 0 _ rfl; replace c21 := K2.out.at_ 1 _ rfl; replace c22 := K2.out.at_ 2 _ rfl)
        | fail "arm")
      go_roundw
      case rel => exact ⟨.inr (.inl ⟨rfl, rfl⟩), K2.out, K0.out, K1.out, B.out⟩
      case measure => simp [intOf]
    · go_wp2_with (first
        | (go_at_call 53; (with_reducible refine (P1.out _ (Near.base (by first | exact Near.same _ | exact Near.one _) B.out)).mono ?_); rintro e wx ⟨rfl, q⟩; replace K0 := Lib.hid (K0.out.near (by first | exact Near.same _ | exact Near.one _) q); replace K1 := Lib.hid (K1.out.near (by first | exact Near.same _ | exact Near.one _) q); replace K2 := Lib.hid (K2.out.near (by first | exact Near.same _ | exact Near.one _) q); replace B := Lib.hid (Near.go (by first | exact Near.same _ | exact Near.one _) B.out q B.out.size); clear q; replace c20 := K2.out.at_ 0 _ rfl; replace c21 := K2.out.at_ 1 _ rfl; replace c22 := K2.out.at_ 2 _ rfl)
        | (go_at_call 55; (with_reducible refine (A1.out _ (Near.base (by first | exact Near.same _ | exact Near.one _) B.out)).mono ?_); rintro e wx ⟨rfl, q⟩; replace K0 := Lib.hid (K0.out.near (by first | exact Near.same _ | exact Near.one _) q); replace K1 := Lib.hid (K1.out.near (by first | exact Near.same _ | exact Near.one _) q); replace K2 := Lib.hid (K2.out.near (by first | exact Near.same _ | exact Near.one _) q); replace B := Lib.hid (Near.go (by first | exact Near.same _ | exact Near.one _) B.out q B.out.size); clear q; replace c20 := K2.out.at_ 0 _ rfl; replace c21 := K2.out.at_ 1 _ rfl; replace c22 := K2.out.at_ 2 _ rfl)
        | (go_at_call 70; (with_reducible refine (B1.out _ (Near.base (by first | exact Near.same _ | exact Near.one _) B.out)).mono ?_); rintro e wx ⟨rfl, q⟩; replace K0 := Lib.hid (K0.out.near (by first | exact Near.same _ | exact Near.one _) q); replace K1 := Lib.hid (K1.out.near (by first | exact Near.same _ | exact Near.one _) q); replace K2 := Lib.hid (K2.out.near (by first | exact Near.same _ | exact Near.one _) q); replace B := Lib.hid (Near.go (by first | exact Near.same _ | exact Near.one _) B.out q B.out.size); clear q; replace c20 := K2.out.at_ 0 _ rfl; replace c21 := K2.out.at_ 1 _ rfl; replace c22 := K2.out.at_ 2 _ rfl)
        | (go_at_call 69; (with_reducible refine (D1_.out _ (Near.base (by first | exact Near.same _ | exact Near.one _) B.out)).mono ?_); rintro e wx ⟨rfl, q⟩; replace K0 := Lib.hid (K0.out.near (by first | exact Near.same _ | exact Near.one _) q); replace K1 := Lib.hid (K1.out.near (by first | exact Near.same _ | exact Near.one _) q); replace K2 := Lib.hid (K2.out.near (by first | exact Near.same _ | exact Near.one _) q); replace B := Lib.hid (Near.go (by first | exact Near.same _ | exact Near.one _) B.out q B.out.size); clear q; replace c20 := K2.out.at_ 0 _ rfl; replace c21 := K2.out.at_ 1 _ rfl; replace c22 := K2.out.at_ 2 _ rfl)
        | fail "arm")
      go_roundw
      case rel => exact ⟨.inr (.inr (.inl ⟨rfl, rfl⟩)), K2.out, K0.out, K1.out, B.out⟩
      case measure => simp [intOf]
    · go_wp2_with (first
        | (go_at_call 53; (with_reducible refine (P2.out _ (Near.base (by first | exact Near.same _ | exact Near.one _) B.out)).mono ?_); rintro e wx ⟨rfl, q⟩; replace K0 := Lib.hid (K0.out.near (by first | exact Near.same _ | exact Near.one _) q); replace K1 := Lib.hid (K1.out.near (by first | exact Near.same _ | exact Near.one _) q); replace K2 := Lib.hid (K2.out.near (by first | exact Near.same _ | exact Near.one _) q); replace B := Lib.hid (Near.go (by first | exact Near.same _ | exact Near.one _) B.out q B.out.size); clear q; replace c20 := K2.out.at_ 0 _ rfl; replace c21 := K2.out.at_ 1 _ rfl; replace c22 := K2.out.at_ 2 _ rfl)
        | (go_at_call 55; (with_reducible refine (A2.out _ (Near.base (by first | exact Near.same _ | exact Near.one _) B.out)).mono ?_); rintro e wx ⟨rfl, q⟩; replace K0 := Lib.hid (K0.out.near (by first | exact Near.same _ | exact Near.one _) q); replace K1 := Lib.hid (K1.out.near (by first | exact Near.same _ | exact Near.one _) q); replace K2 := Lib.hid (K2.out.near (by first | exact Near.same _ | exact Near.one _) q); replace B := Lib.hid (Near.go (by first | exact Near.same _ | exact Near.one _) B.out q B.out.size); clear q; replace c20 := K2.out.at_ 0 _ rfl; replace c21 := K2.out.at_ 1 _ rfl; replace c22 := K2.out.at_ 2 _ rfl)
        | (go_at_call 70; (with_reducible refine (B2.out _ (Near.base (by first | exact Near.same _ | exact Near.one _) B.out)).mono ?_); rintro e wx ⟨rfl, q⟩; replace K0 := Lib.hid (K0.out.near (by first | exact Near.same _ | exact Near.one _) q); replace K1 := Lib.hid (K1.out.near (by first | exact Near.same _ | exact Near.one _) q); replace K2 := Lib.hid (K2.out.near (by first | exact Near.same _ | exact Near.one _) q); replace B := Lib.hid (Near.go (by first | exact Near.same _ | exact Near.one _) B.out q B.out.size); clear q; replace c20 := K2.out.at_ 0 _ rfl; replace c21 := K2.out.at_ 1 _ rfl; replace c22 := K2.out.at_ 2 _ rfl)
        | (go_at_call 69; (with_reducible refine (D2_.out _ (Near.base (by first | exact Near.same _ | exact Near.one _) B.out)).mono ?_); rintro e wx ⟨rfl, q⟩; replace K0 := Lib.hid (K0.out.near (by first | exact Near.same _ | exact Near.one _) q); replace K1 := Lib.hid (K1.out.near (by first | exact Near.same _ | exact Near.one _) q); replace K2 := Lib.hid (K2.out.near (by first | exact Near.same _ | exact Near.one _) q); replace B := Lib.hid (Near.go (by first | exact Near.same _ | exact Near.one _) B.out q B.out.size); clear q; replace c20 := K2.out.at_ 0 _ rfl; replace c21 := K2.out.at_ 1 _ rfl; replace c22 := K2.out.at_ 2 _ rfl)
        | fail "arm")
      go_roundw
      case rel => exact ⟨.inr (.inr (.inr ⟨rfl, rfl⟩)), K2.out, K0.out, K1.out, B.out⟩
      case measure => simp [intOf]
    · clear K2 c20 c21 c22
      have c00 := K0.out.at_ 0 _ rfl
      have c01 := K0.out.at_ 1 _ rfl
      have c02 := K0.out.at_ 2 _ rfl
      have z00 := K0.out.free 0
      have z01 := K0.out.free 1
      have z02 := K0.out.free 2
      go_upto_region 11 with (first
        | (go_at_call 67; (with_reducible refine (N1_.out _ (Near.base (by first | exact Near.same _ | exact Near.one _) B.out)).mono ?_); rintro e wx ⟨rfl, q⟩; replace K0 := Lib.hid (K0.out.near (by first | exact Near.same _ | exact Near.one _) q); replace K1 := Lib.hid (K1.out.near (by first | exact Near.same _ | exact Near.one _) q); replace B := Lib.hid (Near.go (by first | exact Near.same _ | exact Near.one _) B.out q B.out.size); clear q; replace c00 := K0.out.at_ 0 _ rfl; replace c01 := K0.out.at_ 1 _ rfl; replace c02 := K0.out.at_ 2 _ rfl; replace z00 := K0.out.free 0; replace z01 := K0.out.free 1; replace z02 := K0.out.free 2)
        | (go_at_call 71; (with_reducible refine (C1_.out _ (Near.base (by first | exact Near.same _ | exact Near.one _) B.out)).mono ?_); rintro e wx ⟨rfl, q⟩; replace K0 := Lib.hid (K0.out.near (by first | exact Near.same _ | exact Near.one _) q); replace K1 := Lib.hid (K1.out.near (by first | exact Near.same _ | exact Near.one _) q); replace B := Lib.hid (Near.go (by first | exact Near.same _ | exact Near.one _) B.out q B.out.size); clear q; replace c00 := K0.out.at_ 0 _ rfl; replace c01 := K0.out.at_ 1 _ rfl; replace c02 := K0.out.at_ 2 _ rfl; replace z00 := K0.out.free 0; replace z01 := K0.out.free 1; replace z02 := K0.out.free 2)
        | fail "arm")
      replace B := Lib.hid (B.out.trans (below_else3 wx w.heap.size w.heap.size (Nat.le_refl _) (.string X1) (.string Y1) (.string Z1)))
      replace K1 := Lib.hid (K1.out.else3 (k := w.heap.size) (by omega) (.string X1) (.string Y1) (.string Z1))
      have k0 := K0.out.set3 (.string X1) (.string Y1) (.string Z1)
      clear K0
      have K0 := Lib.hid k0
      clear k0
      generalize (((wx.setCell ⟨w.heap.size, 0, none⟩ (.string X1)).setCell ⟨w.heap.size, 1, none⟩ (.string Y1)).setCell ⟨w.heap.size, 2, none⟩ (.string Z1)) = WB at *
      clear c00 c01 c02 z00 z01 z02
      have c00 := K0.out.at_ 0 _ rfl
      have c01 := K0.out.at_ 1 _ rfl
      have c02 := K0.out.at_ 2 _ rfl
      go_wp2
      have n2 := Blk.fresh WB #[.string X1, .string Y1, .string Z1] 32
      replace K0 := Lib.hid (K0.out.alloc (Obj.cells #[.string X1, .string Y1, .string Z1] 32))
      replace K1 := Lib.hid (K1.out.alloc (Obj.cells #[.string X1, .string Y1, .string Z1] 32))
      replace B := Lib.hid (B.out.trans ((below_new WB (Obj.cells #[.string X1, .string Y1, .string Z1] 32)).mono B.out.size))
      generalize WB.alloc (Obj.cells #[.string X1, .string Y1, .string Z1] 32) = WS2 at *
      generalize WB.heap.size = g2 at *
      have K2 := Lib.hid n2
      clear n2
      clear c00 c01 c02
      go_loopw [4, 66] (fun v i wr => ((v = .string ⟨#[48]⟩ ∧ i = .int .i64 0) ∨ (v = .string H1 ∧ i = .int .i64 1) ∨ (v = .string H2 ∧ i = .int .i64 2) ∨ (v = .string H3 ∧ i = .int .i64 3)) ∧ Blk wr g2 #[.string X1, .string Y1, .string Z1] 32 ∧ Blk wr w.heap.size #[.string X1, .string Y1, .string Z1] 34 ∧ Blk wr (w.heap.size + 1) #[.string ⟨#[]⟩, .string ⟨#[]⟩, .string ⟨#[]⟩] 34 ∧ Below w.heap.size w wr) (fun _ i _ => 3 - (intOf i).toNat)
      case atStart => exact ⟨.inl ⟨rfl, rfl⟩, K2.out, K0.out, K1.out, B.out⟩
      case round =>
        clear K0 K1 K2 B
        obtain ⟨hcase, k2, k0, k1, b⟩ := hrel
        have K0 := Lib.hid k0
        have K1 := Lib.hid k1
        have K2 := Lib.hid k2
        have B := Lib.hid b
        clear k0 k1 k2 b
        have c20 := K2.out.at_ 0 _ rfl
        have c21 := K2.out.at_ 1 _ rfl
        have c22 := K2.out.at_ 2 _ rfl
        rcases hcase with ⟨rfl, rfl⟩ | ⟨rfl, rfl⟩ | ⟨rfl, rfl⟩ | ⟨rfl, rfl⟩
        · go_wp2_with (first
            | (go_at_call 53; (with_reducible refine (Q0.out _ (Near.base (by first | exact Near.same _ | exact Near.one _) B.out)).mono ?_); rintro e wx ⟨rfl, q⟩; replace K0 := Lib.hid (K0.out.near (by first | exact Near.same _ | exact Near.one _) q); replace K1 := Lib.hid (K1.out.near (by first | exact Near.same _ | exact Near.one _) q); replace K2 := Lib.hid (K2.out.near (by first | exact Near.same _ | exact Near.one _) q); replace B := Lib.hid (Near.go (by first | exact Near.same _ | exact Near.one _) B.out q B.out.size); clear q; replace c20 := K2.out.at_ 0 _ rfl; replace c21 := K2.out.at_ 1 _ rfl; replace c22 := K2.out.at_ 2 _ rfl)
            | (go_at_call 70; (with_reducible refine (G0_.out _ (Near.base (by first | exact Near.same _ | exact Near.one _) B.out)).mono ?_); rintro e wx ⟨rfl, q⟩; replace K0 := Lib.hid (K0.out.near (by first | exact Near.same _ | exact Near.one _) q); replace K1 := Lib.hid (K1.out.near (by first | exact Near.same _ | exact Near.one _) q); replace K2 := Lib.hid (K2.out.near (by first | exact Near.same _ | exact Near.one _) q); replace B := Lib.hid (Near.go (by first | exact Near.same _ | exact Near.one _) B.out q B.out.size); clear q; replace c20 := K2.out.at_ 0 _ rfl; replace c21 := K2.out.at_ 1 _ rfl; replace c22 := K2.out.at_ 2 _ rfl)
            | fail "arm")
          go_roundw
          case rel => exact ⟨.inr (.inl ⟨rfl, rfl⟩), K2.out, K0.out, K1.out, B.out⟩
          case measure => simp [intOf]
        · go_wp2_with (first
            | (go_at_call 53; (with_reducible refine (Q1.out _ (Near.base (by first | exact Near.same _ | exact Near.one _) B.out)).mono ?_); rintro e wx ⟨rfl, q⟩; replace K0 := Lib.hid (K0.out.near (by first | exact Near.same _ | exact Near.one _) q); replace K1 := Lib.hid (K1.out.near (by first | exact Near.same _ | exact Near.one _) q); replace K2 := Lib.hid (K2.out.near (by first | exact Near.same _ | exact Near.one _) q); replace B := Lib.hid (Near.go (by first | exact Near.same _ | exact Near.one _) B.out q B.out.size); clear q; replace c20 := K2.out.at_ 0 _ rfl; replace c21 := K2.out.at_ 1 _ rfl; replace c22 := K2.out.at_ 2 _ rfl)
            | (go_at_call 70; (with_reducible refine (G1_.out _ (Near.base (by first | exact Near.same _ | exact Near.one _) B.out)).mono ?_); rintro e wx ⟨rfl, q⟩; replace K0 := Lib.hid (K0.out.near (by first | exact Near.same _ | exact Near.one _) q); replace K1 := Lib.hid (K1.out.near (by first | exact Near.same _ | exact Near.one _) q); replace K2 := Lib.hid (K2.out.near (by first | exact Near.same _ | exact Near.one _) q); replace B := Lib.hid (Near.go (by first | exact Near.same _ | exact Near.one _) B.out q B.out.size); clear q; replace c20 := K2.out.at_ 0 _ rfl; replace c21 := K2.out.at_ 1 _ rfl; replace c22 := K2.out.at_ 2 _ rfl)
            | fail "arm")
          go_roundw
          case rel => exact ⟨.inr (.inr (.inl ⟨rfl, rfl⟩)), K2.out, K0.out, K1.out, B.out⟩
          case measure => simp [intOf]
        · go_wp2_with (first
            | (go_at_call 53; (with_reducible refine (Q2.out _ (Near.base (by first | exact Near.same _ | exact Near.one _) B.out)).mono ?_); rintro e wx ⟨rfl, q⟩; replace K0 := Lib.hid (K0.out.near (by first | exact Near.same _ | exact Near.one _) q); replace K1 := Lib.hid (K1.out.near (by first | exact Near.same _ | exact Near.one _) q); replace K2 := Lib.hid (K2.out.near (by first | exact Near.same _ | exact Near.one _) q); replace B := Lib.hid (Near.go (by first | exact Near.same _ | exact Near.one _) B.out q B.out.size); clear q; replace c20 := K2.out.at_ 0 _ rfl; replace c21 := K2.out.at_ 1 _ rfl; replace c22 := K2.out.at_ 2 _ rfl)
            | (go_at_call 70; (with_reducible refine (G2_.out _ (Near.base (by first | exact Near.same _ | exact Near.one _) B.out)).mono ?_); rintro e wx ⟨rfl, q⟩; replace K0 := Lib.hid (K0.out.near (by first | exact Near.same _ | exact Near.one _) q); replace K1 := Lib.hid (K1.out.near (by first | exact Near.same _ | exact Near.one _) q); replace K2 := Lib.hid (K2.out.near (by first | exact Near.same _ | exact Near.one _) q); replace B := Lib.hid (Near.go (by first | exact Near.same _ | exact Near.one _) B.out q B.out.size); clear q; replace c20 := K2.out.at_ 0 _ rfl; replace c21 := K2.out.at_ 1 _ rfl; replace c22 := K2.out.at_ 2 _ rfl)
            | fail "arm")
          go_roundw
          case rel => exact ⟨.inr (.inr (.inr ⟨rfl, rfl⟩)), K2.out, K0.out, K1.out, B.out⟩
          case measure => simp [intOf]
        · clear K2 c20 c21 c22
          have c00 := K0.out.at_ 0 _ rfl
          have c01 := K0.out.at_ 1 _ rfl
          have c02 := K0.out.at_ 2 _ rfl
          have c10 := K1.out.at_ 0 _ rfl
          have c11 := K1.out.at_ 1 _ rfl
          have c12 := K1.out.at_ 2 _ rfl
          have z10 := K1.out.free 0
          have z11 := K1.out.free 1
          have z12 := K1.out.free 2
          go_wp2_with (first
            | (go_at_call 67; (with_reducible refine (N2_.out _ (Near.base (by first | exact Near.same _ | exact Near.one _) B.out)).mono ?_); rintro e wx ⟨rfl, q⟩; replace K0 := Lib.hid (K0.out.near (by first | exact Near.same _ | exact Near.one _) q); replace K1 := Lib.hid (K1.out.near (by first | exact Near.same _ | exact Near.one _) q); replace B := Lib.hid (Near.go (by first | exact Near.same _ | exact Near.one _) B.out q B.out.size); clear q; replace c00 := K0.out.at_ 0 _ rfl; replace c01 := K0.out.at_ 1 _ rfl; replace c02 := K0.out.at_ 2 _ rfl; replace c10 := K1.out.at_ 0 _ rfl; replace c11 := K1.out.at_ 1 _ rfl; replace c12 := K1.out.at_ 2 _ rfl; replace z10 := K1.out.free 0; replace z11 := K1.out.free 1; replace z12 := K1.out.free 2)
            | (go_at_call 72; (with_reducible refine (U1.out _ (Near.base (by first | exact Near.same _ | exact Near.one _) B.out)).mono ?_); rintro e wx ⟨rfl, q⟩; replace K0 := Lib.hid (K0.out.near (by first | exact Near.same _ | exact Near.one _) q); replace K1 := Lib.hid (K1.out.near (by first | exact Near.same _ | exact Near.one _) q); replace B := Lib.hid (Near.go (by first | exact Near.same _ | exact Near.one _) B.out q B.out.size); clear q; replace c00 := K0.out.at_ 0 _ rfl; replace c01 := K0.out.at_ 1 _ rfl; replace c02 := K0.out.at_ 2 _ rfl; replace c10 := K1.out.at_ 0 _ rfl; replace c11 := K1.out.at_ 1 _ rfl; replace c12 := K1.out.at_ 2 _ rfl; replace z10 := K1.out.free 0; replace z11 := K1.out.free 1; replace z12 := K1.out.free 2)
            | (go_at_call 71; (with_reducible refine (C2_.out _ (Near.base (by first | exact Near.same _ | exact Near.one _) B.out)).mono ?_); rintro e wx ⟨rfl, q⟩; replace K0 := Lib.hid (K0.out.near (by first | exact Near.same _ | exact Near.one _) q); replace K1 := Lib.hid (K1.out.near (by first | exact Near.same _ | exact Near.one _) q); replace B := Lib.hid (Near.go (by first | exact Near.same _ | exact Near.one _) B.out q B.out.size); clear q; replace c00 := K0.out.at_ 0 _ rfl; replace c01 := K0.out.at_ 1 _ rfl; replace c02 := K0.out.at_ 2 _ rfl; replace c10 := K1.out.at_ 0 _ rfl; replace c11 := K1.out.at_ 1 _ rfl; replace c12 := K1.out.at_ 2 _ rfl; replace z10 := K1.out.free 0; replace z11 := K1.out.free 1; replace z12 := K1.out.free 2)
            | fail "arm")
          have R3 := K1.out.set3 (.string X2) (.string Y2) (.string Z2)
          have B3 := Lib.hid (B.out.trans (below_else3 wx w.heap.size (w.heap.size + 1) (by omega) (.string X2) (.string Y2) (.string Z2)))
          generalize (((wx.setCell ⟨w.heap.size + 1, 0, none⟩ (.string X2)).setCell ⟨w.heap.size + 1, 1, none⟩ (.string Y2)).setCell ⟨w.heap.size + 1, 2, none⟩ (.string Z2)) = W3 at *
          have e0 := R3.at_ 0 _ rfl
          have e1 := R3.at_ 1 _ rfl
          have e2 := R3.at_ 2 _ rfl
          clear R3
          exact bodyPost_ret (v := .agg #[.string X2, .string Y2, .string Z2]) (by simp [results, Tryz.results47, go_sem, e0, e1, e2]) rfl ⟨rfl, B3.out⟩

set_option maxRecDepth 100000 in
set_option maxHeartbeats 4000000 in
theorem ldown_up (X Y Z X1 Y1 Z1 X2 Y2 Z2 N0 N1 N2 D0 D1 D2 M0 M1 M2 G0 G1 G2 R0 R1 R2 T0 T1 T2 V0 V1 V2 E1 E2 E3 H1 H2 H3 W1 KK KN : ByteArray) (w : World)
    (p0 : ∀ W, Below w.heap.size w W → Calls Tryz.prog 53 #[.string X] W fun e w' => e = .returned (.tuple #[.string N0, .string D0]) ∧ Below W.heap.size W w')
    (a0 : ∀ W, Below w.heap.size w W → Calls Tryz.prog 55 #[.string ⟨#[49]⟩, .string D0] W fun e w' => e = .returned (.string M0) ∧ Below W.heap.size W w')
    (b0 : ∀ W, Below w.heap.size w W → Calls Tryz.prog 70 #[.string ⟨#[49]⟩, .string D0] W fun e w' => e = .returned (.string G0) ∧ Below W.heap.size W w')
    (d0 : ∀ W, Below w.heap.size w W → Calls Tryz.prog 69 #[.string M0, .string G0] W fun e w' => e = .returned (.tuple #[.string E1, .string R0, .int .i64 0]) ∧ Below W.heap.size W w')
    (p1 : ∀ W, Below w.heap.size w W → Calls Tryz.prog 53 #[.string Y] W fun e w' => e = .returned (.tuple #[.string N1, .string D1]) ∧ Below W.heap.size W w')
    (a1 : ∀ W, Below w.heap.size w W → Calls Tryz.prog 55 #[.string E1, .string D1] W fun e w' => e = .returned (.string M1) ∧ Below W.heap.size W w')
    (b1 : ∀ W, Below w.heap.size w W → Calls Tryz.prog 70 #[.string E1, .string D1] W fun e w' => e = .returned (.string G1) ∧ Below W.heap.size W w')
    (d1 : ∀ W, Below w.heap.size w W → Calls Tryz.prog 69 #[.string M1, .string G1] W fun e w' => e = .returned (.tuple #[.string E2, .string R1, .int .i64 0]) ∧ Below W.heap.size W w')
    (p2 : ∀ W, Below w.heap.size w W → Calls Tryz.prog 53 #[.string Z] W fun e w' => e = .returned (.tuple #[.string N2, .string D2]) ∧ Below W.heap.size W w')
    (a2 : ∀ W, Below w.heap.size w W → Calls Tryz.prog 55 #[.string E2, .string D2] W fun e w' => e = .returned (.string M2) ∧ Below W.heap.size W w')
    (b2 : ∀ W, Below w.heap.size w W → Calls Tryz.prog 70 #[.string E2, .string D2] W fun e w' => e = .returned (.string G2) ∧ Below W.heap.size W w')
    (d2 : ∀ W, Below w.heap.size w W → Calls Tryz.prog 69 #[.string M2, .string G2] W fun e w' => e = .returned (.tuple #[.string E3, .string R2, .int .i64 0]) ∧ Below W.heap.size W w')
    (n1 : ∀ W, Below w.heap.size w W → Calls Tryz.prog 67 #[.string E3, .string ⟨#[49]⟩] W fun e w' => e = .returned (.tuple #[.string W1, .int .i64 0]) ∧ Below W.heap.size W w')
    (c1 : ∀ W, Below w.heap.size w W → Calls Tryz.prog 71 #[.agg #[.string X, .string Y, .string Z], .string W1] W fun e w' => e = .returned (.agg #[.string X1, .string Y1, .string Z1]) ∧ Below W.heap.size W w')
    (q0 : ∀ W, Below w.heap.size w W → Calls Tryz.prog 53 #[.string X1] W fun e w' => e = .returned (.tuple #[.string T0, .string V0]) ∧ Below W.heap.size W w')
    (g0 : ∀ W, Below w.heap.size w W → Calls Tryz.prog 70 #[.string ⟨#[48]⟩, .string T0] W fun e w' => e = .returned (.string H1) ∧ Below W.heap.size W w')
    (q1 : ∀ W, Below w.heap.size w W → Calls Tryz.prog 53 #[.string Y1] W fun e w' => e = .returned (.tuple #[.string T1, .string V1]) ∧ Below W.heap.size W w')
    (g1 : ∀ W, Below w.heap.size w W → Calls Tryz.prog 70 #[.string H1, .string T1] W fun e w' => e = .returned (.string H2) ∧ Below W.heap.size W w')
    (q2 : ∀ W, Below w.heap.size w W → Calls Tryz.prog 53 #[.string Z1] W fun e w' => e = .returned (.tuple #[.string T2, .string V2]) ∧ Below W.heap.size W w')
    (g2 : ∀ W, Below w.heap.size w W → Calls Tryz.prog 70 #[.string H2, .string T2] W fun e w' => e = .returned (.string H3) ∧ Below W.heap.size W w')
    (n2 : ∀ W, Below w.heap.size w W → Calls Tryz.prog 67 #[.string ⟨#[49]⟩, .string H3] W fun e w' => e = .returned (.tuple #[.string KK, .int .i64 0]) ∧ Below W.heap.size W w')
    (u1 : ∀ W, Below w.heap.size w W → Calls Tryz.prog 72 #[.agg #[.string X1, .string Y1, .string Z1]] W fun e w' => e = .returned (.bool true) ∧ Below W.heap.size W w')
    (e1 : ∀ W, Calls Tryz.prog 30 #[.string KK] W fun e w' => e = .returned (.string KN) ∧ Below W.heap.size W w')
    (c2 : ∀ W, Below w.heap.size w W → Calls Tryz.prog 71 #[.agg #[.string X1, .string Y1, .string Z1], .string KN] W fun e w' => e = .returned (.agg #[.string X2, .string Y2, .string Z2]) ∧ Below W.heap.size W w') :
    Calls Tryz.prog 47 #[.agg #[.string X, .string Y, .string Z]] w fun e w' => e = .returned (.agg #[.string X2, .string Y2, .string Z2]) ∧ Below w.heap.size w w' := by
  have P0 := Lib.hid p0
  have A0 := Lib.hid a0
  have B0 := Lib.hid b0
  have D0_ := Lib.hid d0
  have P1 := Lib.hid p1
  have A1 := Lib.hid a1
  have B1 := Lib.hid b1
  have D1_ := Lib.hid d1
  have P2 := Lib.hid p2
  have A2 := Lib.hid a2
  have B2 := Lib.hid b2
  have D2_ := Lib.hid d2
  have N1_ := Lib.hid n1
  have C1_ := Lib.hid c1
  have Q0 := Lib.hid q0
  have G0_ := Lib.hid g0
  have Q1 := Lib.hid q1
  have G1_ := Lib.hid g1
  have Q2 := Lib.hid q2
  have G2_ := Lib.hid g2
  have N2_ := Lib.hid n2
  have U1 := Lib.hid u1
  have E1_ := Lib.hid e1
  have C2_ := Lib.hid c2
  clear p0 a0 b0 d0 p1 a1 b1 d1 p2 a2 b2 d2 n1 c1 q0 g0 q1 g1 q2 g2 n2 u1 e1 c2
  have k0 := Blk.fresh w #[.string X, .string Y, .string Z] 34
  replace k0 := k0.alloc (Obj.cells #[.string ⟨#[]⟩, .string ⟨#[]⟩, .string ⟨#[]⟩] 34)
  have k1 := Blk.fresh (w.alloc (Obj.cells #[.string X, .string Y, .string Z] 34)) #[.string ⟨#[]⟩, .string ⟨#[]⟩, .string ⟨#[]⟩] 34
  rw [show (w.alloc (Obj.cells #[.string X, .string Y, .string Z] 34)).heap.size = w.heap.size + 1 from World.size_alloc ..] at k1
  have b0 : Below w.heap.size w ((w.alloc (Obj.cells #[.string X, .string Y, .string Z] 34)).alloc (Obj.cells #[.string ⟨#[]⟩, .string ⟨#[]⟩, .string ⟨#[]⟩] 34)) := (((Below.refl _ _).alloc (Nat.le_refl _) _).alloc (by simp; try omega) _)
  have K0 := Lib.hid k0
  have K1 := Lib.hid k1
  have B := Lib.hid b0
  clear b0 k0 k1
  go_enter Tryz.func47, Tryz.ntmps47
  go_upto_region 1 with (fail)
  generalize ((w.alloc (Obj.cells #[.string X, .string Y, .string Z] 34)).alloc (Obj.cells #[.string ⟨#[]⟩, .string ⟨#[]⟩, .string ⟨#[]⟩] 34)) = W0 at *
  have c00 := K0.out.at_ 0 _ rfl
  have c01 := K0.out.at_ 1 _ rfl
  have c02 := K0.out.at_ 2 _ rfl
  have c10 := K1.out.at_ 0 _ rfl
  have c11 := K1.out.at_ 1 _ rfl
  have c12 := K1.out.at_ 2 _ rfl
  have z10 := K1.out.free 0
  have z11 := K1.out.free 1
  have z12 := K1.out.free 2
  go_wp2
  have n2 := Blk.fresh W0 #[.string X, .string Y, .string Z] 32
  replace K0 := Lib.hid (K0.out.alloc (Obj.cells #[.string X, .string Y, .string Z] 32))
  replace K1 := Lib.hid (K1.out.alloc (Obj.cells #[.string X, .string Y, .string Z] 32))
  replace B := Lib.hid (B.out.trans ((below_new W0 (Obj.cells #[.string X, .string Y, .string Z] 32)).mono B.out.size))
  generalize W0.alloc (Obj.cells #[.string X, .string Y, .string Z] 32) = WS2 at *
  generalize W0.heap.size = g1 at *
  have K2 := Lib.hid n2
  clear n2
  clear c00 c01 c02 c10 c11 c12 z10 z11 z12
  go_loopw [3, 28] (fun v i wr => ((v = .string ⟨#[49]⟩ ∧ i = .int .i64 0) ∨ (v = .string E1 ∧ i = .int .i64 1) ∨ (v = .string E2 ∧ i = .int .i64 2) ∨ (v = .string E3 ∧ i = .int .i64 3)) ∧ Blk wr g1 #[.string X, .string Y, .string Z] 32 ∧ Blk wr w.heap.size #[.string X, .string Y, .string Z] 34 ∧ Blk wr (w.heap.size + 1) #[.string ⟨#[]⟩, .string ⟨#[]⟩, .string ⟨#[]⟩] 34 ∧ Below w.heap.size w wr) (fun _ i _ => 3 - (intOf i).toNat)
  case atStart => exact ⟨.inl ⟨rfl, rfl⟩, K2.out, K0.out, K1.out, B.out⟩
  case round =>
    clear K0 K1 K2 B
    obtain ⟨hcase, k2, k0, k1, b⟩ := hrel
    have K0 := Lib.hid k0
    have K1 := Lib.hid k1
    have K2 := Lib.hid k2
    have B := Lib.hid b
    clear k0 k1 k2 b
    have c20 := K2.out.at_ 0 _ rfl
    have c21 := K2.out.at_ 1 _ rfl
    have c22 := K2.out.at_ 2 _ rfl
    rcases hcase with ⟨rfl, rfl⟩ | ⟨rfl, rfl⟩ | ⟨rfl, rfl⟩ | ⟨rfl, rfl⟩
    · go_wp2_with (first
        | (go_at_call 53; (with_reducible refine (P0.out _ (Near.base (by first | exact Near.same _ | exact Near.one _) B.out)).mono ?_); rintro e wx ⟨rfl, q⟩; replace K0 := Lib.hid (K0.out.near (by first | exact Near.same _ | exact Near.one _) q); replace K1 := Lib.hid (K1.out.near (by first | exact Near.same _ | exact Near.one _) q); replace K2 := Lib.hid (K2.out.near (by first | exact Near.same _ | exact Near.one _) q); replace B := Lib.hid (Near.go (by first | exact Near.same _ | exact Near.one _) B.out q B.out.size); clear q; replace c20 := K2.out.at_ 0 _ rfl; replace c21 := K2.out.at_ 1 _ rfl; replace c22 := K2.out.at_ 2 _ rfl)
        | (go_at_call 55; (with_reducible refine (A0.out _ (Near.base (by first | exact Near.same _ | exact Near.one _) B.out)).mono ?_); rintro e wx ⟨rfl, q⟩; replace K0 := Lib.hid (K0.out.near (by first | exact Near.same _ | exact Near.one _) q); replace K1 := Lib.hid (K1.out.near (by first | exact Near.same _ | exact Near.one _) q); replace K2 := Lib.hid (K2.out.near (by first | exact Near.same _ | exact Near.one _) q); replace B := Lib.hid (Near.go (by first | exact Near.same _ | exact Near.one _) B.out q B.out.size); clear q; replace c20 := K2.out.at_ 0 _ rfl; replace c21 := K2.out.at_ 1 _ rfl; replace c22 := K2.out.at_ 2 _ rfl)
        | (go_at_call 70; (with_reducible refine (B0.out _ (Near.base (by first | exact Near.same _ | exact Near.one _) B.out)).mono ?_); rintro e wx ⟨rfl, q⟩; replace K0 := Lib.hid (K0.out.near (by first | exact Near.same _ | exact Near.one _) q); replace K1 := Lib.hid (K1.out.near (by first | exact Near.same _ | exact Near.one _) q); replace K2 := Lib.hid (K2.out.near (by first | exact Near.same _ | exact Near.one _) q); replace B := Lib.hid (Near.go (by first | exact Near.same _ | exact Near.one _) B.out q B.out.size); clear q; replace c20 := K2.out.at_ 0 _ rfl; replace c21 := K2.out.at_ 1 _ rfl; replace c22 := K2.out.at_ 2 _ rfl)
        | (go_at_call 69; (with_reducible refine (D0_.out _ (Near.base (by first | exact Near.same _ | exact Near.one _) B.out)).mono ?_); rintro e wx ⟨rfl, q⟩; replace K0 := Lib.hid (K0.out.near (by first | exact Near.same _ | exact Near.one _) q); replace K1 := Lib.hid (K1.out.near (by first | exact Near.same _ | exact Near.one _) q); replace K2 := Lib.hid (K2.out.near (by first | exact Near.same _ | exact Near.one _) q); replace B := Lib.hid (Near.go (by first | exact Near.same _ | exact Near.one _) B.out q B.out.size); clear q; replace c20 := K2.out.at_ 0 _ rfl; replace c21 := K2.out.at_ 1 _ rfl; replace c22 := K2.out.at_ 2 _ rfl)
        | fail "arm")
      go_roundw
      case rel => exact ⟨.inr (.inl ⟨rfl, rfl⟩), K2.out, K0.out, K1.out, B.out⟩
      case measure => simp [intOf]
    · go_wp2_with (first
        | (go_at_call 53; (with_reducible refine (P1.out _ (Near.base (by first | exact Near.same _ | exact Near.one _) B.out)).mono ?_); rintro e wx ⟨rfl, q⟩; replace K0 := Lib.hid (K0.out.near (by first | exact Near.same _ | exact Near.one _) q); replace K1 := Lib.hid (K1.out.near (by first | exact Near.same _ | exact Near.one _) q); replace K2 := Lib.hid (K2.out.near (by first | exact Near.same _ | exact Near.one _) q); replace B := Lib.hid (Near.go (by first | exact Near.same _ | exact Near.one _) B.out q B.out.size); clear q; replace c20 := K2.out.at_ 0 _ rfl; replace c21 := K2.out.at_ 1 _ rfl; replace c22 := K2.out.at_ 2 _ rfl)
        | (go_at_call 55; (with_reducible refine (A1.out _ (Near.base (by first | exact Near.same _ | exact Near.one _) B.out)).mono ?_); rintro e wx ⟨rfl, q⟩; replace K0 := Lib.hid (K0.out.near (by first | exact Near.same _ | exact Near.one _) q); replace K1 := Lib.hid (K1.out.near (by first | exact Near.same _ | exact Near.one _) q); replace K2 := Lib.hid (K2.out.near (by first | exact Near.same _ | exact Near.one _) q); replace B := Lib.hid (Near.go (by first | exact Near.same _ | exact Near.one _) B.out q B.out.size); clear q; replace c20 := K2.out.at_ 0 _ rfl; replace c21 := K2.out.at_ 1 _ rfl; replace c22 := K2.out.at_ 2 _ rfl)
        | (go_at_call 70; (with_reducible refine (B1.out _ (Near.base (by first | exact Near.same _ | exact Near.one _) B.out)).mono ?_); rintro e wx ⟨rfl, q⟩; replace K0 := Lib.hid (K0.out.near (by first | exact Near.same _ | exact Near.one _) q); replace K1 := Lib.hid (K1.out.near (by first | exact Near.same _ | exact Near.one _) q); replace K2 := Lib.hid (K2.out.near (by first | exact Near.same _ | exact Near.one _) q); replace B := Lib.hid (Near.go (by first | exact Near.same _ | exact Near.one _) B.out q B.out.size); clear q; replace c20 := K2.out.at_ 0 _ rfl; replace c21 := K2.out.at_ 1 _ rfl; replace c22 := K2.out.at_ 2 _ rfl)
        | (go_at_call 69; (with_reducible refine (D1_.out _ (Near.base (by first | exact Near.same _ | exact Near.one _) B.out)).mono ?_); rintro e wx ⟨rfl, q⟩; replace K0 := Lib.hid (K0.out.near (by first | exact Near.same _ | exact Near.one _) q); replace K1 := Lib.hid (K1.out.near (by first | exact Near.same _ | exact Near.one _) q); replace K2 := Lib.hid (K2.out.near (by first | exact Near.same _ | exact Near.one _) q); replace B := Lib.hid (Near.go (by first | exact Near.same _ | exact Near.one _) B.out q B.out.size); clear q; replace c20 := K2.out.at_ 0 _ rfl; replace c21 := K2.out.at_ 1 _ rfl; replace c22 := K2.out.at_ 2 _ rfl)
        | fail "arm")
      go_roundw
      case rel => exact ⟨.inr (.inr (.inl ⟨rfl, rfl⟩)), K2.out, K0.out, K1.out, B.out⟩
      case measure => simp [intOf]
    · go_wp2_with (first
        | (go_at_call 53; (with_reducible refine (P2.out _ (Near.base (by first | exact Near.same _ | exact Near.one _) B.out)).mono ?_); rintro e wx ⟨rfl, q⟩; replace K0 := Lib.hid (K0.out.near (by first | exact Near.same _ | exact Near.one _) q); replace K1 := Lib.hid (K1.out.near (by first | exact Near.same _ | exact Near.one _) q); replace K2 := Lib.hid (K2.out.near (by first | exact Near.same _ | exact Near.one _) q); replace B := Lib.hid (Near.go (by first | exact Near.same _ | exact Near.one _) B.out q B.out.size); clear q; replace c20 := K2.out.at_ 0 _ rfl; replace c21 := K2.out.at_ 1 _ rfl; replace c22 := K2.out.at_ 2 _ rfl)
        | (go_at_call 55; (with_reducible refine (A2.out _ (Near.base (by first | exact Near.same _ | exact Near.one _) B.out)).mono ?_); rintro e wx ⟨rfl, q⟩; replace K0 := Lib.hid (K0.out.near (by first | exact Near.same _ | exact Near.one _) q); replace K1 := Lib.hid (K1.out.near (by first | exact Near.same _ | exact Near.one _) q); replace K2 := Lib.hid (K2.out.near (by first | exact Near.same _ | exact Near.one _) q); replace B := Lib.hid (Near.go (by first | exact Near.same _ | exact Near.one _) B.out q B.out.size); clear q; replace c20 := K2.out.at_ 0 _ rfl; replace c21 := K2.out.at_ 1 _ rfl; replace c22 := K2.out.at_ 2 _ rfl)
        | (go_at_call 70; (with_reducible refine (B2.out _ (Near.base (by first | exact Near.same _ | exact Near.one _) B.out)).mono ?_); rintro e wx ⟨rfl, q⟩; replace K0 := Lib.hid (K0.out.near (by first | exact Near.same _ | exact Near.one _) q); replace K1 := Lib.hid (K1.out.near (by first | exact Near.same _ | exact Near.one _) q); replace K2 := Lib.hid (K2.out.near (by first | exact Near.same _ | exact Near.one _) q); replace B := Lib.hid (Near.go (by first | exact Near.same _ | exact Near.one _) B.out q B.out.size); clear q; replace c20 := K2.out.at_ 0 _ rfl; replace c21 := K2.out.at_ 1 _ rfl; replace c22 := K2.out.at_ 2 _ rfl)
        | (go_at_call 69; (with_reducible refine (D2_.out _ (Near.base (by first | exact Near.same _ | exact Near.one _) B.out)).mono ?_); rintro e wx ⟨rfl, q⟩; replace K0 := Lib.hid (K0.out.near (by first | exact Near.same _ | exact Near.one _) q); replace K1 := Lib.hid (K1.out.near (by first | exact Near.same _ | exact Near.one _) q); replace K2 := Lib.hid (K2.out.near (by first | exact Near.same _ | exact Near.one _) q); replace B := Lib.hid (Near.go (by first | exact Near.same _ | exact Near.one _) B.out q B.out.size); clear q; replace c20 := K2.out.at_ 0 _ rfl; replace c21 := K2.out.at_ 1 _ rfl; replace c22 := K2.out.at_ 2 _ rfl)
        | fail "arm")
      go_roundw
      case rel => exact ⟨.inr (.inr (.inr ⟨rfl, rfl⟩)), K2.out, K0.out, K1.out, B.out⟩
      case measure => simp [intOf]
    · clear K2 c20 c21 c22
      have c00 := K0.out.at_ 0 _ rfl
      have c01 := K0.out.at_ 1 _ rfl
      have c02 := K0.out.at_ 2 _ rfl
      have z00 := K0.out.free 0
      have z01 := K0.out.free 1
      have z02 := K0.out.free 2
      go_upto_region 11 with (first
        | (go_at_call 67; (with_reducible refine (N1_.out _ (Near.base (by first | exact Near.same _ | exact Near.one _) B.out)).mono ?_); rintro e wx ⟨rfl, q⟩; replace K0 := Lib.hid (K0.out.near (by first | exact Near.same _ | exact Near.one _) q); replace K1 := Lib.hid (K1.out.near (by first | exact Near.same _ | exact Near.one _) q); replace B := Lib.hid (Near.go (by first | exact Near.same _ | exact Near.one _) B.out q B.out.size); clear q; replace c00 := K0.out.at_ 0 _ rfl; replace c01 := K0.out.at_ 1 _ rfl; replace c02 := K0.out.at_ 2 _ rfl; replace z00 := K0.out.free 0; replace z01 := K0.out.free 1; replace z02 := K0.out.free 2)
        | (go_at_call 71; (with_reducible refine (C1_.out _ (Near.base (by first | exact Near.same _ | exact Near.one _) B.out)).mono ?_); rintro e wx ⟨rfl, q⟩; replace K0 := Lib.hid (K0.out.near (by first | exact Near.same _ | exact Near.one _) q); replace K1 := Lib.hid (K1.out.near (by first | exact Near.same _ | exact Near.one _) q); replace B := Lib.hid (Near.go (by first | exact Near.same _ | exact Near.one _) B.out q B.out.size); clear q; replace c00 := K0.out.at_ 0 _ rfl; replace c01 := K0.out.at_ 1 _ rfl; replace c02 := K0.out.at_ 2 _ rfl; replace z00 := K0.out.free 0; replace z01 := K0.out.free 1; replace z02 := K0.out.free 2)
        | fail "arm")
      replace B := Lib.hid (B.out.trans (below_else3 wx w.heap.size w.heap.size (Nat.le_refl _) (.string X1) (.string Y1) (.string Z1)))
      replace K1 := Lib.hid (K1.out.else3 (k := w.heap.size) (by omega) (.string X1) (.string Y1) (.string Z1))
      have k0 := K0.out.set3 (.string X1) (.string Y1) (.string Z1)
      clear K0
      have K0 := Lib.hid k0
      clear k0
      generalize (((wx.setCell ⟨w.heap.size, 0, none⟩ (.string X1)).setCell ⟨w.heap.size, 1, none⟩ (.string Y1)).setCell ⟨w.heap.size, 2, none⟩ (.string Z1)) = WB at *
      clear c00 c01 c02 z00 z01 z02
      have c00 := K0.out.at_ 0 _ rfl
      have c01 := K0.out.at_ 1 _ rfl
      have c02 := K0.out.at_ 2 _ rfl
      go_wp2
      have n2 := Blk.fresh WB #[.string X1, .string Y1, .string Z1] 32
      replace K0 := Lib.hid (K0.out.alloc (Obj.cells #[.string X1, .string Y1, .string Z1] 32))
      replace K1 := Lib.hid (K1.out.alloc (Obj.cells #[.string X1, .string Y1, .string Z1] 32))
      replace B := Lib.hid (B.out.trans ((below_new WB (Obj.cells #[.string X1, .string Y1, .string Z1] 32)).mono B.out.size))
      generalize WB.alloc (Obj.cells #[.string X1, .string Y1, .string Z1] 32) = WS2 at *
      generalize WB.heap.size = g2 at *
      have K2 := Lib.hid n2
      clear n2
      clear c00 c01 c02
      go_loopw [4, 66] (fun v i wr => ((v = .string ⟨#[48]⟩ ∧ i = .int .i64 0) ∨ (v = .string H1 ∧ i = .int .i64 1) ∨ (v = .string H2 ∧ i = .int .i64 2) ∨ (v = .string H3 ∧ i = .int .i64 3)) ∧ Blk wr g2 #[.string X1, .string Y1, .string Z1] 32 ∧ Blk wr w.heap.size #[.string X1, .string Y1, .string Z1] 34 ∧ Blk wr (w.heap.size + 1) #[.string ⟨#[]⟩, .string ⟨#[]⟩, .string ⟨#[]⟩] 34 ∧ Below w.heap.size w wr) (fun _ i _ => 3 - (intOf i).toNat)
      case atStart => exact ⟨.inl ⟨rfl, rfl⟩, K2.out, K0.out, K1.out, B.out⟩
      case round =>
        clear K0 K1 K2 B
        obtain ⟨hcase, k2, k0, k1, b⟩ := hrel
        have K0 := Lib.hid k0
        have K1 := Lib.hid k1
        have K2 := Lib.hid k2
        have B := Lib.hid b
        clear k0 k1 k2 b
        have c20 := K2.out.at_ 0 _ rfl
        have c21 := K2.out.at_ 1 _ rfl
        have c22 := K2.out.at_ 2 _ rfl
        rcases hcase with ⟨rfl, rfl⟩ | ⟨rfl, rfl⟩ | ⟨rfl, rfl⟩ | ⟨rfl, rfl⟩
        · go_wp2_with (first
            | (go_at_call 53; (with_reducible refine (Q0.out _ (Near.base (by first | exact Near.same _ | exact Near.one _) B.out)).mono ?_); rintro e wx ⟨rfl, q⟩; replace K0 := Lib.hid (K0.out.near (by first | exact Near.same _ | exact Near.one _) q); replace K1 := Lib.hid (K1.out.near (by first | exact Near.same _ | exact Near.one _) q); replace K2 := Lib.hid (K2.out.near (by first | exact Near.same _ | exact Near.one _) q); replace B := Lib.hid (Near.go (by first | exact Near.same _ | exact Near.one _) B.out q B.out.size); clear q; replace c20 := K2.out.at_ 0 _ rfl; replace c21 := K2.out.at_ 1 _ rfl; replace c22 := K2.out.at_ 2 _ rfl)
            | (go_at_call 70; (with_reducible refine (G0_.out _ (Near.base (by first | exact Near.same _ | exact Near.one _) B.out)).mono ?_); rintro e wx ⟨rfl, q⟩; replace K0 := Lib.hid (K0.out.near (by first | exact Near.same _ | exact Near.one _) q); replace K1 := Lib.hid (K1.out.near (by first | exact Near.same _ | exact Near.one _) q); replace K2 := Lib.hid (K2.out.near (by first | exact Near.same _ | exact Near.one _) q); replace B := Lib.hid (Near.go (by first | exact Near.same _ | exact Near.one _) B.out q B.out.size); clear q; replace c20 := K2.out.at_ 0 _ rfl; replace c21 := K2.out.at_ 1 _ rfl; replace c22 := K2.out.at_ 2 _ rfl)
            | fail "arm")
          go_roundw
          case rel => exact ⟨.inr (.inl ⟨rfl, rfl⟩), K2.out, K0.out, K1.out, B.out⟩
          case measure => simp [intOf]
        · go_wp2_with (first
            | (go_at_call 53; (with_reducible refine (Q1.out _ (Near.base (by first | exact Near.same _ | exact Near.one _) B.out)).mono ?_); rintro e wx ⟨rfl, q⟩; replace K0 := Lib.hid (K0.out.near (by first | exact Near.same _ | exact Near.one _) q); replace K1 := Lib.hid (K1.out.near (by first | exact Near.same _ | exact Near.one _) q); replace K2 := Lib.hid (K2.out.near (by first | exact Near.same _ | exact Near.one _) q); replace B := Lib.hid (Near.go (by first | exact Near.same _ | exact Near.one _) B.out q B.out.size); clear q; replace c20 := K2.out.at_ 0 _ rfl; replace c21 := K2.out.at_ 1 _ rfl; replace c22 := K2.out.at_ 2 _ rfl)
            | (go_at_call 70; (with_reducible refine (G1_.out _ (Near.base (by first | exact Near.same _ | exact Near.one _) B.out)).mono ?_); rintro e wx ⟨rfl, q⟩; replace K0 := Lib.hid (K0.out.near (by first | exact Near.same _ | exact Near.one _) q); replace K1 := Lib.hid (K1.out.near (by first | exact Near.same _ | exact Near.one _) q); replace K2 := Lib.hid (K2.out.near (by first | exact Near.same _ | exact Near.one _) q); replace B := Lib.hid (Near.go (by first | exact Near.same _ | exact Near.one _) B.out q B.out.size); clear q; replace c20 := K2.out.at_ 0 _ rfl; replace c21 := K2.out.at_ 1 _ rfl; replace c22 := K2.out.at_ 2 _ rfl)
            | fail "arm")
          go_roundw
          case rel => exact ⟨.inr (.inr (.inl ⟨rfl, rfl⟩)), K2.out, K0.out, K1.out, B.out⟩
          case measure => simp [intOf]
        · go_wp2_with (first
            | (go_at_call 53; (with_reducible refine (Q2.out _ (Near.base (by first | exact Near.same _ | exact Near.one _) B.out)).mono ?_); rintro e wx ⟨rfl, q⟩; replace K0 := Lib.hid (K0.out.near (by first | exact Near.same _ | exact Near.one _) q); replace K1 := Lib.hid (K1.out.near (by first | exact Near.same _ | exact Near.one _) q); replace K2 := Lib.hid (K2.out.near (by first | exact Near.same _ | exact Near.one _) q); replace B := Lib.hid (Near.go (by first | exact Near.same _ | exact Near.one _) B.out q B.out.size); clear q; replace c20 := K2.out.at_ 0 _ rfl; replace c21 := K2.out.at_ 1 _ rfl; replace c22 := K2.out.at_ 2 _ rfl)
            | (go_at_call 70; (with_reducible refine (G2_.out _ (Near.base (by first | exact Near.same _ | exact Near.one _) B.out)).mono ?_); rintro e wx ⟨rfl, q⟩; replace K0 := Lib.hid (K0.out.near (by first | exact Near.same _ | exact Near.one _) q); replace K1 := Lib.hid (K1.out.near (by first | exact Near.same _ | exact Near.one _) q); replace K2 := Lib.hid (K2.out.near (by first | exact Near.same _ | exact Near.one _) q); replace B := Lib.hid (Near.go (by first | exact Near.same _ | exact Near.one _) B.out q B.out.size); clear q; replace c20 := K2.out.at_ 0 _ rfl; replace c21 := K2.out.at_ 1 _ rfl; replace c22 := K2.out.at_ 2 _ rfl)
            | fail "arm")
          go_roundw
          case rel => exact ⟨.inr (.inr (.inr ⟨rfl, rfl⟩)), K2.out, K0.out, K1.out, B.out⟩
          case measure => simp [intOf]
        · clear K2 c20 c21 c22
          have c00 := K0.out.at_ 0 _ rfl
          have c01 := K0.out.at_ 1 _ rfl
          have c02 := K0.out.at_ 2 _ rfl
          have c10 := K1.out.at_ 0 _ rfl
          have c11 := K1.out.at_ 1 _ rfl
          have c12 := K1.out.at_ 2 _ rfl
          have z10 := K1.out.free 0
          have z11 := K1.out.free 1
          have z12 := K1.out.free 2
          go_wp2_with (first
            | (go_at_call 67; (with_reducible refine (N2_.out _ (Near.base (by first | exact Near.same _ | exact Near.one _) B.out)).mono ?_); rintro e wx ⟨rfl, q⟩; replace K0 := Lib.hid (K0.out.near (by first | exact Near.same _ | exact Near.one _) q); replace K1 := Lib.hid (K1.out.near (by first | exact Near.same _ | exact Near.one _) q); replace B := Lib.hid (Near.go (by first | exact Near.same _ | exact Near.one _) B.out q B.out.size); clear q; replace c00 := K0.out.at_ 0 _ rfl; replace c01 := K0.out.at_ 1 _ rfl; replace c02 := K0.out.at_ 2 _ rfl; replace c10 := K1.out.at_ 0 _ rfl; replace c11 := K1.out.at_ 1 _ rfl; replace c12 := K1.out.at_ 2 _ rfl; replace z10 := K1.out.free 0; replace z11 := K1.out.free 1; replace z12 := K1.out.free 2)
            | (go_at_call 72; (with_reducible refine (U1.out _ (Near.base (by first | exact Near.same _ | exact Near.one _) B.out)).mono ?_); rintro e wx ⟨rfl, q⟩; replace K0 := Lib.hid (K0.out.near (by first | exact Near.same _ | exact Near.one _) q); replace K1 := Lib.hid (K1.out.near (by first | exact Near.same _ | exact Near.one _) q); replace B := Lib.hid (Near.go (by first | exact Near.same _ | exact Near.one _) B.out q B.out.size); clear q; replace c00 := K0.out.at_ 0 _ rfl; replace c01 := K0.out.at_ 1 _ rfl; replace c02 := K0.out.at_ 2 _ rfl; replace c10 := K1.out.at_ 0 _ rfl; replace c11 := K1.out.at_ 1 _ rfl; replace c12 := K1.out.at_ 2 _ rfl; replace z10 := K1.out.free 0; replace z11 := K1.out.free 1; replace z12 := K1.out.free 2)
            | (go_at_call 30; (with_reducible refine (E1_.out _).mono ?_); rintro e wx ⟨rfl, q⟩; replace K0 := Lib.hid (K0.out.near (by first | exact Near.same _ | exact Near.one _) q); replace K1 := Lib.hid (K1.out.near (by first | exact Near.same _ | exact Near.one _) q); replace B := Lib.hid (Near.go (by first | exact Near.same _ | exact Near.one _) B.out q B.out.size); clear q; replace c00 := K0.out.at_ 0 _ rfl; replace c01 := K0.out.at_ 1 _ rfl; replace c02 := K0.out.at_ 2 _ rfl; replace c10 := K1.out.at_ 0 _ rfl; replace c11 := K1.out.at_ 1 _ rfl; replace c12 := K1.out.at_ 2 _ rfl; replace z10 := K1.out.free 0; replace z11 := K1.out.free 1; replace z12 := K1.out.free 2)
            | (go_at_call 71; (with_reducible refine (C2_.out _ (Near.base (by first | exact Near.same _ | exact Near.one _) B.out)).mono ?_); rintro e wx ⟨rfl, q⟩; replace K0 := Lib.hid (K0.out.near (by first | exact Near.same _ | exact Near.one _) q); replace K1 := Lib.hid (K1.out.near (by first | exact Near.same _ | exact Near.one _) q); replace B := Lib.hid (Near.go (by first | exact Near.same _ | exact Near.one _) B.out q B.out.size); clear q; replace c00 := K0.out.at_ 0 _ rfl; replace c01 := K0.out.at_ 1 _ rfl; replace c02 := K0.out.at_ 2 _ rfl; replace c10 := K1.out.at_ 0 _ rfl; replace c11 := K1.out.at_ 1 _ rfl; replace c12 := K1.out.at_ 2 _ rfl; replace z10 := K1.out.free 0; replace z11 := K1.out.free 1; replace z12 := K1.out.free 2)
            | fail "arm")
          have R3 := K1.out.set3 (.string X2) (.string Y2) (.string Z2)
          have B3 := Lib.hid (B.out.trans (below_else3 wx w.heap.size (w.heap.size + 1) (by omega) (.string X2) (.string Y2) (.string Z2)))
          generalize (((wx.setCell ⟨w.heap.size + 1, 0, none⟩ (.string X2)).setCell ⟨w.heap.size + 1, 1, none⟩ (.string Y2)).setCell ⟨w.heap.size + 1, 2, none⟩ (.string Z2)) = W3 at *
          have e0 := R3.at_ 0 _ rfl
          have e1 := R3.at_ 1 _ rfl
          have e2 := R3.at_ 2 _ rfl
          clear R3
          exact bodyPost_ret (v := .agg #[.string X2, .string Y2, .string Z2]) (by simp [results, Tryz.results47, go_sem, e0, e1, e2]) rfl ⟨rfl, B3.out⟩

end Go.Proofs.YtajkeoapfkkjbaaGreatDoor

/- The walk of lineation.CompareAngles, over texts. -/
namespace Go.Proofs.YtajkeoapfkkjbaaGreatDoor
open Go.RowKit

set_option maxRecDepth 100000 in
set_option maxHeartbeats 4000000 in
theorem lcang_bad1 (X1 Y1 Z1 X2 Y2 Z2 X3 Y3 Z3 X4 Y4 Z4 : ByteArray) (k : Int) (w : World)
    (hk : (k != 0) = true)
    (s0 : ∀ W, Below w.heap.size w W → Calls Tryz.prog 39 #[.agg #[.string X1, .string Y1, .string Z1]] W fun e w' => e = .returned (.int .i64 k) ∧ Below W.heap.size W w') :
    Calls Tryz.prog 28 #[.agg #[.string X1, .string Y1, .string Z1, .string X2, .string Y2, .string Z2], .agg #[.string X3, .string Y3, .string Z3, .string X4, .string Y4, .string Z4]] w fun e w' => e = .returned (.tuple #[.int .i64 0, .int .i64 k]) ∧ Below w.heap.size w w' := by
  have S0 := Lib.hid s0
  clear s0
  have k0 := Blk.fresh w #[.string X1, .string Y1, .string Z1, .string X2, .string Y2, .string Z2] 52
  replace k0 := k0.alloc (Obj.cells #[.string X3, .string Y3, .string Z3, .string X4, .string Y4, .string Z4] 52)
  have k1 := Blk.fresh (w.alloc (Obj.cells #[.string X1, .string Y1, .string Z1, .string X2, .string Y2, .string Z2] 52)) #[.string X3, .string Y3, .string Z3, .string X4, .string Y4, .string Z4] 52
  rw [show (w.alloc (Obj.cells #[.string X1, .string Y1, .string Z1, .string X2, .string Y2, .string Z2] 52)).heap.size = w.heap.size + 1 from World.size_alloc ..] at k1
  have b0 : Below w.heap.size w ((w.alloc (Obj.cells #[.string X1, .string Y1, .string Z1, .string X2, .string Y2, .string Z2] 52)).alloc (Obj.cells #[.string X3, .string Y3, .string Z3, .string X4, .string Y4, .string Z4] 52)) := (((Below.refl _ _).alloc (Nat.le_refl _) _).alloc (by simp; try omega) _)
  have K0 := Lib.hid k0
  have K1 := Lib.hid k1
  have B := Lib.hid b0
  clear b0 k0 k1
  go_enter Tryz.func28, Tryz.ntmps28
  go_upto_region 1 with (fail)
  generalize ((w.alloc (Obj.cells #[.string X1, .string Y1, .string Z1, .string X2, .string Y2, .string Z2] 52)).alloc (Obj.cells #[.string X3, .string Y3, .string Z3, .string X4, .string Y4, .string Z4] 52)) = W0 at *
  have c00 := K0.out.at_ 0 _ rfl
  have c01 := K0.out.at_ 1 _ rfl
  have c02 := K0.out.at_ 2 _ rfl
  have c03 := K0.out.at_ 3 _ rfl
  have c04 := K0.out.at_ 4 _ rfl
  have c05 := K0.out.at_ 5 _ rfl
  have c10 := K1.out.at_ 0 _ rfl
  have c11 := K1.out.at_ 1 _ rfl
  have c12 := K1.out.at_ 2 _ rfl
  have c13 := K1.out.at_ 3 _ rfl
  have c14 := K1.out.at_ 4 _ rfl
  have c15 := K1.out.at_ 5 _ rfl
  go_wp2
  clear c00 c01 c02 c03 c04 c05 c10 c11 c12 c13 c14 c15
  have n2 := Blk.fresh W0 #[.string X1, .string Y1, .string Z1, .string X2, .string Y2, .string Z2, .string X3, .string Y3, .string Z3, .string X4, .string Y4, .string Z4] 34
  replace K0 := Lib.hid (K0.out.alloc (Obj.cells #[.string X1, .string Y1, .string Z1, .string X2, .string Y2, .string Z2, .string X3, .string Y3, .string Z3, .string X4, .string Y4, .string Z4] 34))
  replace K1 := Lib.hid (K1.out.alloc (Obj.cells #[.string X1, .string Y1, .string Z1, .string X2, .string Y2, .string Z2, .string X3, .string Y3, .string Z3, .string X4, .string Y4, .string Z4] 34))
  replace B := Lib.hid (B.out.trans ((below_new W0 (Obj.cells #[.string X1, .string Y1, .string Z1, .string X2, .string Y2, .string Z2, .string X3, .string Y3, .string Z3, .string X4, .string Y4, .string Z4] 34)).mono B.out.size))
  generalize W0.alloc (Obj.cells #[.string X1, .string Y1, .string Z1, .string X2, .string Y2, .string Z2, .string X3, .string Y3, .string Z3, .string X4, .string Y4, .string Z4] 34) = W1 at *
  generalize W0.heap.size = g at *
  have K2 := Lib.hid n2
  clear n2
  go_loopw [19] (fun i wr => (i = .int .i64 0) ∧ Blk wr g #[.string X1, .string Y1, .string Z1, .string X2, .string Y2, .string Z2, .string X3, .string Y3, .string Z3, .string X4, .string Y4, .string Z4] 34 ∧ Blk wr w.heap.size #[.string X1, .string Y1, .string Z1, .string X2, .string Y2, .string Z2] 52 ∧ Blk wr (w.heap.size + 1) #[.string X3, .string Y3, .string Z3, .string X4, .string Y4, .string Z4] 52 ∧ Below w.heap.size w wr) (fun i _ => 4 - (intOf i).toNat)
  case atStart => exact ⟨rfl, K2.out, K0.out, K1.out, B.out⟩
  case round =>
    clear K0 K1 K2 B
    obtain ⟨hcase, k2, k0, k1, b⟩ := hrel
    have K0 := Lib.hid k0
    have K1 := Lib.hid k1
    have K2 := Lib.hid k2
    have B := Lib.hid b
    clear k0 k1 k2 b
    rcases hcase with rfl
    · have c20 := K2.out.at_ 0 _ rfl
      have c21 := K2.out.at_ 1 _ rfl
      have c22 := K2.out.at_ 2 _ rfl
      go_wp2_with (first
        | (go_at_call 39; (with_reducible refine (S0.out _ (B.out.trans ((below_new wr (Obj.cells #[.string X1, .string Y1, .string Z1] 34)).mono B.out.size))).mono ?_); rintro e wx ⟨rfl, q⟩; have q2 := (below_new wr (Obj.cells #[.string X1, .string Y1, .string Z1] 34)).trans (q.mono (below_new wr (Obj.cells #[.string X1, .string Y1, .string Z1] 34)).size); replace K0 := Lib.hid (K0.out.below q2); replace K1 := Lib.hid (K1.out.below q2); replace K2 := Lib.hid (K2.out.below q2); replace B := Lib.hid (B.out.trans (q2.mono B.out.size)); clear q q2)
        | fail "arm")
      go_ret2
      exact ⟨rfl, B.out⟩

set_option maxRecDepth 100000 in
set_option maxHeartbeats 4000000 in
theorem lcang_bad2 (X1 Y1 Z1 X2 Y2 Z2 X3 Y3 Z3 X4 Y4 Z4 : ByteArray) (k : Int) (w : World)
    (hk : (k != 0) = true)
    (s0 : ∀ W, Below w.heap.size w W → Calls Tryz.prog 39 #[.agg #[.string X1, .string Y1, .string Z1]] W fun e w' => e = .returned (.int .i64 0) ∧ Below W.heap.size W w')
    (s1 : ∀ W, Below w.heap.size w W → Calls Tryz.prog 39 #[.agg #[.string X2, .string Y2, .string Z2]] W fun e w' => e = .returned (.int .i64 k) ∧ Below W.heap.size W w') :
    Calls Tryz.prog 28 #[.agg #[.string X1, .string Y1, .string Z1, .string X2, .string Y2, .string Z2], .agg #[.string X3, .string Y3, .string Z3, .string X4, .string Y4, .string Z4]] w fun e w' => e = .returned (.tuple #[.int .i64 0, .int .i64 k]) ∧ Below w.heap.size w w' := by
  have S0 := Lib.hid s0
  have S1 := Lib.hid s1
  clear s0 s1
  have k0 := Blk.fresh w #[.string X1, .string Y1, .string Z1, .string X2, .string Y2, .string Z2] 52
  replace k0 := k0.alloc (Obj.cells #[.string X3, .string Y3, .string Z3, .string X4, .string Y4, .string Z4] 52)
  have k1 := Blk.fresh (w.alloc (Obj.cells #[.string X1, .string Y1, .string Z1, .string X2, .string Y2, .string Z2] 52)) #[.string X3, .string Y3, .string Z3, .string X4, .string Y4, .string Z4] 52
  rw [show (w.alloc (Obj.cells #[.string X1, .string Y1, .string Z1, .string X2, .string Y2, .string Z2] 52)).heap.size = w.heap.size + 1 from World.size_alloc ..] at k1
  have b0 : Below w.heap.size w ((w.alloc (Obj.cells #[.string X1, .string Y1, .string Z1, .string X2, .string Y2, .string Z2] 52)).alloc (Obj.cells #[.string X3, .string Y3, .string Z3, .string X4, .string Y4, .string Z4] 52)) := (((Below.refl _ _).alloc (Nat.le_refl _) _).alloc (by simp; try omega) _)
  have K0 := Lib.hid k0
  have K1 := Lib.hid k1
  have B := Lib.hid b0
  clear b0 k0 k1
  go_enter Tryz.func28, Tryz.ntmps28
  go_upto_region 1 with (fail)
  generalize ((w.alloc (Obj.cells #[.string X1, .string Y1, .string Z1, .string X2, .string Y2, .string Z2] 52)).alloc (Obj.cells #[.string X3, .string Y3, .string Z3, .string X4, .string Y4, .string Z4] 52)) = W0 at *
  have c00 := K0.out.at_ 0 _ rfl
  have c01 := K0.out.at_ 1 _ rfl
  have c02 := K0.out.at_ 2 _ rfl
  have c03 := K0.out.at_ 3 _ rfl
  have c04 := K0.out.at_ 4 _ rfl
  have c05 := K0.out.at_ 5 _ rfl
  have c10 := K1.out.at_ 0 _ rfl
  have c11 := K1.out.at_ 1 _ rfl
  have c12 := K1.out.at_ 2 _ rfl
  have c13 := K1.out.at_ 3 _ rfl
  have c14 := K1.out.at_ 4 _ rfl
  have c15 := K1.out.at_ 5 _ rfl
  go_wp2
  clear c00 c01 c02 c03 c04 c05 c10 c11 c12 c13 c14 c15
  have n2 := Blk.fresh W0 #[.string X1, .string Y1, .string Z1, .string X2, .string Y2, .string Z2, .string X3, .string Y3, .string Z3, .string X4, .string Y4, .string Z4] 34
  replace K0 := Lib.hid (K0.out.alloc (Obj.cells #[.string X1, .string Y1, .string Z1, .string X2, .string Y2, .string Z2, .string X3, .string Y3, .string Z3, .string X4, .string Y4, .string Z4] 34))
  replace K1 := Lib.hid (K1.out.alloc (Obj.cells #[.string X1, .string Y1, .string Z1, .string X2, .string Y2, .string Z2, .string X3, .string Y3, .string Z3, .string X4, .string Y4, .string Z4] 34))
  replace B := Lib.hid (B.out.trans ((below_new W0 (Obj.cells #[.string X1, .string Y1, .string Z1, .string X2, .string Y2, .string Z2, .string X3, .string Y3, .string Z3, .string X4, .string Y4, .string Z4] 34)).mono B.out.size))
  generalize W0.alloc (Obj.cells #[.string X1, .string Y1, .string Z1, .string X2, .string Y2, .string Z2, .string X3, .string Y3, .string Z3, .string X4, .string Y4, .string Z4] 34) = W1 at *
  generalize W0.heap.size = g at *
  have K2 := Lib.hid n2
  clear n2
  go_loopw [19] (fun i wr => (i = .int .i64 0 ∨ i = .int .i64 1) ∧ Blk wr g #[.string X1, .string Y1, .string Z1, .string X2, .string Y2, .string Z2, .string X3, .string Y3, .string Z3, .string X4, .string Y4, .string Z4] 34 ∧ Blk wr w.heap.size #[.string X1, .string Y1, .string Z1, .string X2, .string Y2, .string Z2] 52 ∧ Blk wr (w.heap.size + 1) #[.string X3, .string Y3, .string Z3, .string X4, .string Y4, .string Z4] 52 ∧ Below w.heap.size w wr) (fun i _ => 4 - (intOf i).toNat)
  case atStart => exact ⟨.inl rfl, K2.out, K0.out, K1.out, B.out⟩
  case round =>
    clear K0 K1 K2 B
    obtain ⟨hcase, k2, k0, k1, b⟩ := hrel
    have K0 := Lib.hid k0
    have K1 := Lib.hid k1
    have K2 := Lib.hid k2
    have B := Lib.hid b
    clear k0 k1 k2 b
    rcases hcase with rfl | rfl
    · have c20 := K2.out.at_ 0 _ rfl
      have c21 := K2.out.at_ 1 _ rfl
      have c22 := K2.out.at_ 2 _ rfl
      go_wp2_with (first
        | (go_at_call 39; (with_reducible refine (S0.out _ (B.out.trans ((below_new wr (Obj.cells #[.string X1, .string Y1, .string Z1] 34)).mono B.out.size))).mono ?_); rintro e wx ⟨rfl, q⟩; have q2 := (below_new wr (Obj.cells #[.string X1, .string Y1, .string Z1] 34)).trans (q.mono (below_new wr (Obj.cells #[.string X1, .string Y1, .string Z1] 34)).size); replace K0 := Lib.hid (K0.out.below q2); replace K1 := Lib.hid (K1.out.below q2); replace K2 := Lib.hid (K2.out.below q2); replace B := Lib.hid (B.out.trans (q2.mono B.out.size)); clear q q2)
        | fail "arm")
      go_roundw
      case rel => exact ⟨.inr rfl, K2.out, K0.out, K1.out, B.out⟩
      case measure => simp [intOf]
    · have c23 := K2.out.at_ 3 _ rfl
      have c24 := K2.out.at_ 4 _ rfl
      have c25 := K2.out.at_ 5 _ rfl
      go_wp2_with (first
        | (go_at_call 39; (with_reducible refine (S1.out _ (B.out.trans ((below_new wr (Obj.cells #[.string X2, .string Y2, .string Z2] 34)).mono B.out.size))).mono ?_); rintro e wx ⟨rfl, q⟩; have q2 := (below_new wr (Obj.cells #[.string X2, .string Y2, .string Z2] 34)).trans (q.mono (below_new wr (Obj.cells #[.string X2, .string Y2, .string Z2] 34)).size); replace K0 := Lib.hid (K0.out.below q2); replace K1 := Lib.hid (K1.out.below q2); replace K2 := Lib.hid (K2.out.below q2); replace B := Lib.hid (B.out.trans (q2.mono B.out.size)); clear q q2)
        | fail "arm")
      go_ret2
      exact ⟨rfl, B.out⟩

set_option maxRecDepth 100000 in
set_option maxHeartbeats 4000000 in
theorem lcang_ok (X1 Y1 Z1 X2 Y2 Z2 X3 Y3 Z3 X4 Y4 Z4 R1 R2 : ByteArray) (s : Int) (w : World)
    (s0 : ∀ W, Below w.heap.size w W → Calls Tryz.prog 39 #[.agg #[.string X1, .string Y1, .string Z1]] W fun e w' => e = .returned (.int .i64 0) ∧ Below W.heap.size W w')
    (s1 : ∀ W, Below w.heap.size w W → Calls Tryz.prog 39 #[.agg #[.string X2, .string Y2, .string Z2]] W fun e w' => e = .returned (.int .i64 0) ∧ Below W.heap.size W w')
    (s2 : ∀ W, Below w.heap.size w W → Calls Tryz.prog 39 #[.agg #[.string X3, .string Y3, .string Z3]] W fun e w' => e = .returned (.int .i64 0) ∧ Below W.heap.size W w')
    (s3 : ∀ W, Below w.heap.size w W → Calls Tryz.prog 39 #[.agg #[.string X4, .string Y4, .string Z4]] W fun e w' => e = .returned (.int .i64 0) ∧ Below W.heap.size W w')
    (t1 : ∀ W, Below w.heap.size w W → Calls Tryz.prog 42 #[.agg #[.string X3, .string Y3, .string Z3], .agg #[.string X4, .string Y4, .string Z4]] W fun e w' => e = .returned (.string R1) ∧ Below W.heap.size W w')
    (t2 : ∀ W, Below w.heap.size w W → Calls Tryz.prog 42 #[.agg #[.string X1, .string Y1, .string Z1], .agg #[.string X2, .string Y2, .string Z2]] W fun e w' => e = .returned (.string R2) ∧ Below W.heap.size W w')
    (t3 : ∀ W, Below w.heap.size w W → Calls Tryz.prog 29 #[.string R1, .string R2] W fun e w' => e = .returned (.int .i64 s) ∧ Below W.heap.size W w') :
    Calls Tryz.prog 28 #[.agg #[.string X1, .string Y1, .string Z1, .string X2, .string Y2, .string Z2], .agg #[.string X3, .string Y3, .string Z3, .string X4, .string Y4, .string Z4]] w fun e w' => e = .returned (.tuple #[.int .i64 s, .int .i64 0]) ∧ Below w.heap.size w w' := by
  have S0 := Lib.hid s0
  have S1 := Lib.hid s1
  have S2 := Lib.hid s2
  have S3 := Lib.hid s3
  have T1 := Lib.hid t1
  have T2 := Lib.hid t2
  have T3 := Lib.hid t3
  clear s0 s1 s2 s3 t1 t2 t3
  have k0 := Blk.fresh w #[.string X1, .string Y1, .string Z1, .string X2, .string Y2, .string Z2] 52
  replace k0 := k0.alloc (Obj.cells #[.string X3, .string Y3, .string Z3, .string X4, .string Y4, .string Z4] 52)
  have k1 := Blk.fresh (w.alloc (Obj.cells #[.string X1, .string Y1, .string Z1, .string X2, .string Y2, .string Z2] 52)) #[.string X3, .string Y3, .string Z3, .string X4, .string Y4, .string Z4] 52
  rw [show (w.alloc (Obj.cells #[.string X1, .string Y1, .string Z1, .string X2, .string Y2, .string Z2] 52)).heap.size = w.heap.size + 1 from World.size_alloc ..] at k1
  have b0 : Below w.heap.size w ((w.alloc (Obj.cells #[.string X1, .string Y1, .string Z1, .string X2, .string Y2, .string Z2] 52)).alloc (Obj.cells #[.string X3, .string Y3, .string Z3, .string X4, .string Y4, .string Z4] 52)) := (((Below.refl _ _).alloc (Nat.le_refl _) _).alloc (by simp; try omega) _)
  have K0 := Lib.hid k0
  have K1 := Lib.hid k1
  have B := Lib.hid b0
  clear b0 k0 k1
  go_enter Tryz.func28, Tryz.ntmps28
  go_upto_region 1 with (fail)
  generalize ((w.alloc (Obj.cells #[.string X1, .string Y1, .string Z1, .string X2, .string Y2, .string Z2] 52)).alloc (Obj.cells #[.string X3, .string Y3, .string Z3, .string X4, .string Y4, .string Z4] 52)) = W0 at *
  have c00 := K0.out.at_ 0 _ rfl
  have c01 := K0.out.at_ 1 _ rfl
  have c02 := K0.out.at_ 2 _ rfl
  have c03 := K0.out.at_ 3 _ rfl
  have c04 := K0.out.at_ 4 _ rfl
  have c05 := K0.out.at_ 5 _ rfl
  have c10 := K1.out.at_ 0 _ rfl
  have c11 := K1.out.at_ 1 _ rfl
  have c12 := K1.out.at_ 2 _ rfl
  have c13 := K1.out.at_ 3 _ rfl
  have c14 := K1.out.at_ 4 _ rfl
  have c15 := K1.out.at_ 5 _ rfl
  go_wp2
  clear c00 c01 c02 c03 c04 c05 c10 c11 c12 c13 c14 c15
  have n2 := Blk.fresh W0 #[.string X1, .string Y1, .string Z1, .string X2, .string Y2, .string Z2, .string X3, .string Y3, .string Z3, .string X4, .string Y4, .string Z4] 34
  replace K0 := Lib.hid (K0.out.alloc (Obj.cells #[.string X1, .string Y1, .string Z1, .string X2, .string Y2, .string Z2, .string X3, .string Y3, .string Z3, .string X4, .string Y4, .string Z4] 34))
  replace K1 := Lib.hid (K1.out.alloc (Obj.cells #[.string X1, .string Y1, .string Z1, .string X2, .string Y2, .string Z2, .string X3, .string Y3, .string Z3, .string X4, .string Y4, .string Z4] 34))
  replace B := Lib.hid (B.out.trans ((below_new W0 (Obj.cells #[.string X1, .string Y1, .string Z1, .string X2, .string Y2, .string Z2, .string X3, .string Y3, .string Z3, .string X4, .string Y4, .string Z4] 34)).mono B.out.size))
  generalize W0.alloc (Obj.cells #[.string X1, .string Y1, .string Z1, .string X2, .string Y2, .string Z2, .string X3, .string Y3, .string Z3, .string X4, .string Y4, .string Z4] 34) = W1 at *
  generalize W0.heap.size = g at *
  have K2 := Lib.hid n2
  clear n2
  go_loopw [19] (fun i wr => (i = .int .i64 0 ∨ i = .int .i64 1 ∨ i = .int .i64 2 ∨ i = .int .i64 3 ∨ i = .int .i64 4) ∧ Blk wr g #[.string X1, .string Y1, .string Z1, .string X2, .string Y2, .string Z2, .string X3, .string Y3, .string Z3, .string X4, .string Y4, .string Z4] 34 ∧ Blk wr w.heap.size #[.string X1, .string Y1, .string Z1, .string X2, .string Y2, .string Z2] 52 ∧ Blk wr (w.heap.size + 1) #[.string X3, .string Y3, .string Z3, .string X4, .string Y4, .string Z4] 52 ∧ Below w.heap.size w wr) (fun i _ => 4 - (intOf i).toNat)
  case atStart => exact ⟨.inl rfl, K2.out, K0.out, K1.out, B.out⟩
  case round =>
    clear K0 K1 K2 B
    obtain ⟨hcase, k2, k0, k1, b⟩ := hrel
    have K0 := Lib.hid k0
    have K1 := Lib.hid k1
    have K2 := Lib.hid k2
    have B := Lib.hid b
    clear k0 k1 k2 b
    rcases hcase with rfl | rfl | rfl | rfl | rfl
    · have c20 := K2.out.at_ 0 _ rfl
      have c21 := K2.out.at_ 1 _ rfl
      have c22 := K2.out.at_ 2 _ rfl
      go_wp2_with (first
        | (go_at_call 39; (with_reducible refine (S0.out _ (B.out.trans ((below_new wr (Obj.cells #[.string X1, .string Y1, .string Z1] 34)).mono B.out.size))).mono ?_); rintro e wx ⟨rfl, q⟩; have q2 := (below_new wr (Obj.cells #[.string X1, .string Y1, .string Z1] 34)).trans (q.mono (below_new wr (Obj.cells #[.string X1, .string Y1, .string Z1] 34)).size); replace K0 := Lib.hid (K0.out.below q2); replace K1 := Lib.hid (K1.out.below q2); replace K2 := Lib.hid (K2.out.below q2); replace B := Lib.hid (B.out.trans (q2.mono B.out.size)); clear q q2)
        | fail "arm")
      go_roundw
      case rel => exact ⟨.inr (.inl rfl), K2.out, K0.out, K1.out, B.out⟩
      case measure => simp [intOf]
    · have c23 := K2.out.at_ 3 _ rfl
      have c24 := K2.out.at_ 4 _ rfl
      have c25 := K2.out.at_ 5 _ rfl
      go_wp2_with (first
        | (go_at_call 39; (with_reducible refine (S1.out _ (B.out.trans ((below_new wr (Obj.cells #[.string X2, .string Y2, .string Z2] 34)).mono B.out.size))).mono ?_); rintro e wx ⟨rfl, q⟩; have q2 := (below_new wr (Obj.cells #[.string X2, .string Y2, .string Z2] 34)).trans (q.mono (below_new wr (Obj.cells #[.string X2, .string Y2, .string Z2] 34)).size); replace K0 := Lib.hid (K0.out.below q2); replace K1 := Lib.hid (K1.out.below q2); replace K2 := Lib.hid (K2.out.below q2); replace B := Lib.hid (B.out.trans (q2.mono B.out.size)); clear q q2)
        | fail "arm")
      go_roundw
      case rel => exact ⟨.inr (.inr (.inl rfl)), K2.out, K0.out, K1.out, B.out⟩
      case measure => simp [intOf]
    · have c26 := K2.out.at_ 6 _ rfl
      have c27 := K2.out.at_ 7 _ rfl
      have c28 := K2.out.at_ 8 _ rfl
      go_wp2_with (first
        | (go_at_call 39; (with_reducible refine (S2.out _ (B.out.trans ((below_new wr (Obj.cells #[.string X3, .string Y3, .string Z3] 34)).mono B.out.size))).mono ?_); rintro e wx ⟨rfl, q⟩; have q2 := (below_new wr (Obj.cells #[.string X3, .string Y3, .string Z3] 34)).trans (q.mono (below_new wr (Obj.cells #[.string X3, .string Y3, .string Z3] 34)).size); replace K0 := Lib.hid (K0.out.below q2); replace K1 := Lib.hid (K1.out.below q2); replace K2 := Lib.hid (K2.out.below q2); replace B := Lib.hid (B.out.trans (q2.mono B.out.size)); clear q q2)
        | fail "arm")
      go_roundw
      case rel => exact ⟨.inr (.inr (.inr (.inl rfl))), K2.out, K0.out, K1.out, B.out⟩
      case measure => simp [intOf]
    · have c29 := K2.out.at_ 9 _ rfl
      have c210 := K2.out.at_ 10 _ rfl
      have c211 := K2.out.at_ 11 _ rfl
      go_wp2_with (first
        | (go_at_call 39; (with_reducible refine (S3.out _ (B.out.trans ((below_new wr (Obj.cells #[.string X4, .string Y4, .string Z4] 34)).mono B.out.size))).mono ?_); rintro e wx ⟨rfl, q⟩; have q2 := (below_new wr (Obj.cells #[.string X4, .string Y4, .string Z4] 34)).trans (q.mono (below_new wr (Obj.cells #[.string X4, .string Y4, .string Z4] 34)).size); replace K0 := Lib.hid (K0.out.below q2); replace K1 := Lib.hid (K1.out.below q2); replace K2 := Lib.hid (K2.out.below q2); replace B := Lib.hid (B.out.trans (q2.mono B.out.size)); clear q q2)
        | fail "arm")
      go_roundw
      case rel => exact ⟨.inr (.inr (.inr (.inr rfl))), K2.out, K0.out, K1.out, B.out⟩
      case measure => simp [intOf]
    · clear K2
      have c00 := K0.out.at_ 0 _ rfl
      have c01 := K0.out.at_ 1 _ rfl
      have c02 := K0.out.at_ 2 _ rfl
      have c03 := K0.out.at_ 3 _ rfl
      have c04 := K0.out.at_ 4 _ rfl
      have c05 := K0.out.at_ 5 _ rfl
      have c10 := K1.out.at_ 0 _ rfl
      have c11 := K1.out.at_ 1 _ rfl
      have c12 := K1.out.at_ 2 _ rfl
      have c13 := K1.out.at_ 3 _ rfl
      have c14 := K1.out.at_ 4 _ rfl
      have c15 := K1.out.at_ 5 _ rfl
      go_upto_region 8 with (fail)
      go_region_held3 (fun w' => w'.cell? ⟨w.heap.size, 0, none⟩ = some (.string X1) ∧ w'.cell? ⟨w.heap.size, 1, none⟩ = some (.string Y1) ∧ w'.cell? ⟨w.heap.size, 2, none⟩ = some (.string Z1) ∧ w'.cell? ⟨w.heap.size, 3, none⟩ = some (.string X2) ∧ w'.cell? ⟨w.heap.size, 4, none⟩ = some (.string Y2) ∧ w'.cell? ⟨w.heap.size, 5, none⟩ = some (.string Z2) ∧ w'.cell? ⟨w.heap.size + 1, 0, none⟩ = some (.string X3) ∧ w'.cell? ⟨w.heap.size + 1, 1, none⟩ = some (.string Y3) ∧ w'.cell? ⟨w.heap.size + 1, 2, none⟩ = some (.string Z3) ∧ w'.cell? ⟨w.heap.size + 1, 3, none⟩ = some (.string X4) ∧ w'.cell? ⟨w.heap.size + 1, 4, none⟩ = some (.string Y4) ∧ w'.cell? ⟨w.heap.size + 1, 5, none⟩ = some (.string Z4))
        (first | exact ⟨c00, c01, c02, c03, c04, c05, c10, c11, c12, c13, c14, c15⟩ | exact ⟨(K0.out.alloc _).at_ 0 _ rfl, (K0.out.alloc _).at_ 1 _ rfl, (K0.out.alloc _).at_ 2 _ rfl, (K0.out.alloc _).at_ 3 _ rfl, (K0.out.alloc _).at_ 4 _ rfl, (K0.out.alloc _).at_ 5 _ rfl, (K1.out.alloc _).at_ 0 _ rfl, (K1.out.alloc _).at_ 1 _ rfl, (K1.out.alloc _).at_ 2 _ rfl, (K1.out.alloc _).at_ 3 _ rfl, (K1.out.alloc _).at_ 4 _ rfl, (K1.out.alloc _).at_ 5 _ rfl⟩)
        (first
          | (go_at_call 42; (with_reducible refine (T1.out _ (Near.base (by first | exact Near.same _ | exact Near.one _) B.out)).mono ?_); rintro e wx ⟨rfl, q⟩; replace K0 := Lib.hid (K0.out.near (by first | exact Near.same _ | exact Near.one _) q); replace K1 := Lib.hid (K1.out.near (by first | exact Near.same _ | exact Near.one _) q); replace B := Lib.hid (Near.go (by first | exact Near.same _ | exact Near.one _) B.out q B.out.size); clear q; replace c00 := K0.out.at_ 0 _ rfl; replace c01 := K0.out.at_ 1 _ rfl; replace c02 := K0.out.at_ 2 _ rfl; replace c03 := K0.out.at_ 3 _ rfl; replace c04 := K0.out.at_ 4 _ rfl; replace c05 := K0.out.at_ 5 _ rfl; replace c10 := K1.out.at_ 0 _ rfl; replace c11 := K1.out.at_ 1 _ rfl; replace c12 := K1.out.at_ 2 _ rfl; replace c13 := K1.out.at_ 3 _ rfl; replace c14 := K1.out.at_ 4 _ rfl; replace c15 := K1.out.at_ 5 _ rfl)
          | (go_at_call 42; (with_reducible refine (T2.out _ (Near.base (by first | exact Near.same _ | exact Near.one _) B.out)).mono ?_); rintro e wx ⟨rfl, q⟩; replace K0 := Lib.hid (K0.out.near (by first | exact Near.same _ | exact Near.one _) q); replace K1 := Lib.hid (K1.out.near (by first | exact Near.same _ | exact Near.one _) q); replace B := Lib.hid (Near.go (by first | exact Near.same _ | exact Near.one _) B.out q B.out.size); clear q; replace c00 := K0.out.at_ 0 _ rfl; replace c01 := K0.out.at_ 1 _ rfl; replace c02 := K0.out.at_ 2 _ rfl; replace c03 := K0.out.at_ 3 _ rfl; replace c04 := K0.out.at_ 4 _ rfl; replace c05 := K0.out.at_ 5 _ rfl; replace c10 := K1.out.at_ 0 _ rfl; replace c11 := K1.out.at_ 1 _ rfl; replace c12 := K1.out.at_ 2 _ rfl; replace c13 := K1.out.at_ 3 _ rfl; replace c14 := K1.out.at_ 4 _ rfl; replace c15 := K1.out.at_ 5 _ rfl)
          | (go_at_call 29; (with_reducible refine (T3.out _ (Near.base (by first | exact Near.same _ | exact Near.one _) B.out)).mono ?_); rintro e wx ⟨rfl, q⟩; replace K0 := Lib.hid (K0.out.near (by first | exact Near.same _ | exact Near.one _) q); replace K1 := Lib.hid (K1.out.near (by first | exact Near.same _ | exact Near.one _) q); replace B := Lib.hid (Near.go (by first | exact Near.same _ | exact Near.one _) B.out q B.out.size); clear q; replace c00 := K0.out.at_ 0 _ rfl; replace c01 := K0.out.at_ 1 _ rfl; replace c02 := K0.out.at_ 2 _ rfl; replace c03 := K0.out.at_ 3 _ rfl; replace c04 := K0.out.at_ 4 _ rfl; replace c05 := K0.out.at_ 5 _ rfl; replace c10 := K1.out.at_ 0 _ rfl; replace c11 := K1.out.at_ 1 _ rfl; replace c12 := K1.out.at_ 2 _ rfl; replace c13 := K1.out.at_ 3 _ rfl; replace c14 := K1.out.at_ 4 _ rfl; replace c15 := K1.out.at_ 5 _ rfl)
          | fail "arm")
      go_wp2
      go_ret2
      exact ⟨rfl, B.out⟩

end Go.Proofs.YtajkeoapfkkjbaaGreatDoor
