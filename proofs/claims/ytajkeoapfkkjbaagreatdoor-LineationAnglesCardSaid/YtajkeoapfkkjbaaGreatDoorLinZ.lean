/- The walks of lineation's functions with vectors of their own. -/
import Derived.Test.YtajkeoapfkkjbaaGreatDoorLinY
import Derived.Outline
namespace Go.Proofs.YtajkeoapfkkjbaaGreatDoor
set_option linter.all false
open Go.RowKit

set_option maxRecDepth 100000 in
set_option maxHeartbeats 2000000 in
theorem lisect_dep (A C D F G H Q1 Q2 Q3 : ByteArray) (w : World)
    (s1 : ∀ W, Below w.heap.size w W → Calls Tryz.prog 41 #[.agg #[.string A, .string C, .string D], .agg #[.string F, .string G, .string H]] W fun e w' => e = .returned (.int .i64 0) ∧ Below W.heap.size W w')
    (s2 : ∀ W, Below w.heap.size w W → Calls Tryz.prog 49 #[.agg #[.string A, .string C, .string D], .agg #[.string F, .string G, .string H]] W fun e w' => e = .returned (.agg #[.string Q1, .string Q2, .string Q3]) ∧ Below W.heap.size W w')
    (s3 : ∀ W, Below w.heap.size w W → Calls Tryz.prog 48 #[.agg #[.string Q1, .string Q2, .string Q3]] W fun e w' => e = .returned (.bool true) ∧ Below W.heap.size W w') :
    Calls Tryz.prog 23 #[.agg #[.string A, .string C, .string D], .agg #[.string F, .string G, .string H]] w fun e w' => e = .returned (.tuple #[.agg #[.string ⟨#[]⟩, .string ⟨#[]⟩, .string ⟨#[]⟩], .int .i64 18]) ∧ Below w.heap.size w w' := by
  have S1 := Lib.hid s1
  have S2 := Lib.hid s2
  have S3 := Lib.hid s3
  clear s1 s2 s3
  have k0 := Blk.fresh w #[.string A, .string C, .string D] 34
  replace k0 := k0.alloc (Obj.cells #[.string F, .string G, .string H] 34)
  replace k0 := k0.alloc (Obj.cells #[.string ⟨#[]⟩, .string ⟨#[]⟩, .string ⟨#[]⟩] 34)
  have k1 := Blk.fresh (w.alloc (Obj.cells #[.string A, .string C, .string D] 34)) #[.string F, .string G, .string H] 34
  rw [show (w.alloc (Obj.cells #[.string A, .string C, .string D] 34)).heap.size = w.heap.size + 1 from World.size_alloc ..] at k1
  replace k1 := k1.alloc (Obj.cells #[.string ⟨#[]⟩, .string ⟨#[]⟩, .string ⟨#[]⟩] 34)
  have k2 := Blk.fresh ((w.alloc (Obj.cells #[.string A, .string C, .string D] 34)).alloc (Obj.cells #[.string F, .string G, .string H] 34)) #[.string ⟨#[]⟩, .string ⟨#[]⟩, .string ⟨#[]⟩] 34
  rw [show ((w.alloc (Obj.cells #[.string A, .string C, .string D] 34)).alloc (Obj.cells #[.string F, .string G, .string H] 34)).heap.size = w.heap.size + 2 from by simp] at k2
  have b0 : Below w.heap.size w (((w.alloc (Obj.cells #[.string A, .string C, .string D] 34)).alloc (Obj.cells #[.string F, .string G, .string H] 34)).alloc (Obj.cells #[.string ⟨#[]⟩, .string ⟨#[]⟩, .string ⟨#[]⟩] 34)) := ((((Below.refl _ _).alloc (Nat.le_refl _) _).alloc (by simp; try omega) _).alloc (by simp; try omega) _)
  have K0 := Lib.hid k0
  have K1 := Lib.hid k1
  have K2 := Lib.hid k2
  have B := Lib.hid b0
  clear b0 k0 k1 k2
  go_enter Tryz.func23, Tryz.ntmps23
  go_upto_region 1 with (fail)
  generalize (((w.alloc (Obj.cells #[.string A, .string C, .string D] 34)).alloc (Obj.cells #[.string F, .string G, .string H] 34)).alloc (Obj.cells #[.string ⟨#[]⟩, .string ⟨#[]⟩, .string ⟨#[]⟩] 34)) = W0 at *
  have c00 := K0.out.at_ 0 _ rfl
  have c01 := K0.out.at_ 1 _ rfl
  have c02 := K0.out.at_ 2 _ rfl
  have c10 := K1.out.at_ 0 _ rfl
  have c11 := K1.out.at_ 1 _ rfl
  have c12 := K1.out.at_ 2 _ rfl
  have c20 := K2.out.at_ 0 _ rfl
  have c21 := K2.out.at_ 1 _ rfl
  have c22 := K2.out.at_ 2 _ rfl
  have z20 := K2.out.free 0
  have z21 := K2.out.free 1
  have z22 := K2.out.free 2
  have c30 : True := trivial
  have c31 : True := trivial
  have c32 : True := trivial
  go_upto_region 5 with (first
    | (go_at_call 41; (with_reducible refine (S1.out _ (Near.base (by first | exact Near.same _ | exact Near.one _) B.out)).mono ?_); rintro e wx ⟨rfl, q⟩; replace K0 := Lib.hid (K0.out.near (by first | exact Near.same _ | exact Near.one _) q); replace K1 := Lib.hid (K1.out.near (by first | exact Near.same _ | exact Near.one _) q); replace K2 := Lib.hid (K2.out.near (by first | exact Near.same _ | exact Near.one _) q); replace B := Lib.hid (Near.go (by first | exact Near.same _ | exact Near.one _) B.out q B.out.size); clear q; replace c00 := K0.out.at_ 0 _ rfl; replace c01 := K0.out.at_ 1 _ rfl; replace c02 := K0.out.at_ 2 _ rfl; replace c10 := K1.out.at_ 0 _ rfl; replace c11 := K1.out.at_ 1 _ rfl; replace c12 := K1.out.at_ 2 _ rfl; replace c20 := K2.out.at_ 0 _ rfl; replace c21 := K2.out.at_ 1 _ rfl; replace c22 := K2.out.at_ 2 _ rfl; replace z20 := K2.out.free 0; replace z21 := K2.out.free 1; replace z22 := K2.out.free 2)
    | (go_at_call 49; (with_reducible refine (S2.out _ (Near.base (by first | exact Near.same _ | exact Near.one _) B.out)).mono ?_); rintro e wx ⟨rfl, q⟩; replace K0 := Lib.hid (K0.out.near (by first | exact Near.same _ | exact Near.one _) q); replace K1 := Lib.hid (K1.out.near (by first | exact Near.same _ | exact Near.one _) q); replace K2 := Lib.hid (K2.out.near (by first | exact Near.same _ | exact Near.one _) q); replace B := Lib.hid (Near.go (by first | exact Near.same _ | exact Near.one _) B.out q B.out.size); clear q; replace c00 := K0.out.at_ 0 _ rfl; replace c01 := K0.out.at_ 1 _ rfl; replace c02 := K0.out.at_ 2 _ rfl; replace c10 := K1.out.at_ 0 _ rfl; replace c11 := K1.out.at_ 1 _ rfl; replace c12 := K1.out.at_ 2 _ rfl; replace c20 := K2.out.at_ 0 _ rfl; replace c21 := K2.out.at_ 1 _ rfl; replace c22 := K2.out.at_ 2 _ rfl; replace z20 := K2.out.free 0; replace z21 := K2.out.free 1; replace z22 := K2.out.free 2)
    | fail "arm")
  have n3 := Blk.fresh wx #[.string Q1, .string Q2, .string Q3] 34
  replace K0 := Lib.hid (K0.out.alloc (Obj.cells #[.string Q1, .string Q2, .string Q3] 34))
  replace K1 := Lib.hid (K1.out.alloc (Obj.cells #[.string Q1, .string Q2, .string Q3] 34))
  replace K2 := Lib.hid (K2.out.alloc (Obj.cells #[.string Q1, .string Q2, .string Q3] 34))
  replace B := Lib.hid (B.out.trans ((below_new wx (Obj.cells #[.string Q1, .string Q2, .string Q3] 34)).mono B.out.size))
  generalize wx.alloc (Obj.cells #[.string Q1, .string Q2, .string Q3] 34) = W5 at *
  generalize wx.heap.size = g at *
  have K3 := Lib.hid n3
  clear n3
  replace c00 := K0.out.at_ 0 _ rfl
  replace c01 := K0.out.at_ 1 _ rfl
  replace c02 := K0.out.at_ 2 _ rfl
  replace c10 := K1.out.at_ 0 _ rfl
  replace c11 := K1.out.at_ 1 _ rfl
  replace c12 := K1.out.at_ 2 _ rfl
  replace c20 := K2.out.at_ 0 _ rfl
  replace c21 := K2.out.at_ 1 _ rfl
  replace c22 := K2.out.at_ 2 _ rfl
  replace c30 := K3.out.at_ 0 _ rfl
  replace c31 := K3.out.at_ 1 _ rfl
  replace c32 := K3.out.at_ 2 _ rfl
  replace z20 := K2.out.free 0
  replace z21 := K2.out.free 1
  replace z22 := K2.out.free 2
  go_wp2_with (first
    | (go_at_call 48; (with_reducible refine (S3.out _ (Near.base (by first | exact Near.same _ | exact Near.one _) B.out)).mono ?_); rintro e wx ⟨rfl, q⟩; replace K0 := Lib.hid (K0.out.near (by first | exact Near.same _ | exact Near.one _) q); replace K1 := Lib.hid (K1.out.near (by first | exact Near.same _ | exact Near.one _) q); replace K2 := Lib.hid (K2.out.near (by first | exact Near.same _ | exact Near.one _) q); replace K3 := Lib.hid (K3.out.near (by first | exact Near.same _ | exact Near.one _) q); replace B := Lib.hid (Near.go (by first | exact Near.same _ | exact Near.one _) B.out q B.out.size); clear q; replace c00 := K0.out.at_ 0 _ rfl; replace c01 := K0.out.at_ 1 _ rfl; replace c02 := K0.out.at_ 2 _ rfl; replace c10 := K1.out.at_ 0 _ rfl; replace c11 := K1.out.at_ 1 _ rfl; replace c12 := K1.out.at_ 2 _ rfl; replace c20 := K2.out.at_ 0 _ rfl; replace c21 := K2.out.at_ 1 _ rfl; replace c22 := K2.out.at_ 2 _ rfl; replace c30 := K3.out.at_ 0 _ rfl; replace c31 := K3.out.at_ 1 _ rfl; replace c32 := K3.out.at_ 2 _ rfl; replace z20 := K2.out.free 0; replace z21 := K2.out.free 1; replace z22 := K2.out.free 2)
    | fail "arm")
  have R3 := K2.out.set3 (.string ⟨#[]⟩) (.string ⟨#[]⟩) (.string ⟨#[]⟩)
  have B3 := Lib.hid (B.out.trans (below_else3 wx w.heap.size (w.heap.size + 2) (by omega) (.string ⟨#[]⟩) (.string ⟨#[]⟩) (.string ⟨#[]⟩)))
  generalize (((wx.setCell ⟨w.heap.size + 2, 0, none⟩ (.string ⟨#[]⟩)).setCell ⟨w.heap.size + 2, 1, none⟩ (.string ⟨#[]⟩)).setCell ⟨w.heap.size + 2, 2, none⟩ (.string ⟨#[]⟩)) = W3 at *
  have e0 := R3.at_ 0 _ rfl
  have e1 := R3.at_ 1 _ rfl
  have e2 := R3.at_ 2 _ rfl
  clear R3
  exact bodyPost_ret (v := .tuple #[.agg #[.string ⟨#[]⟩, .string ⟨#[]⟩, .string ⟨#[]⟩], .int .i64 18]) (by rw [results_cell_tmp Tryz.results23]; simp [go_sem, e0, e1, e2]) rfl ⟨rfl, B3.out⟩

set_option maxRecDepth 100000 in
set_option maxHeartbeats 2000000 in
theorem lisect_ok (A C D F G H Q1 Q2 Q3 P1 P2 P3 : ByteArray) (w : World)
    (s1 : ∀ W, Below w.heap.size w W → Calls Tryz.prog 41 #[.agg #[.string A, .string C, .string D], .agg #[.string F, .string G, .string H]] W fun e w' => e = .returned (.int .i64 0) ∧ Below W.heap.size W w')
    (s2 : ∀ W, Below w.heap.size w W → Calls Tryz.prog 49 #[.agg #[.string A, .string C, .string D], .agg #[.string F, .string G, .string H]] W fun e w' => e = .returned (.agg #[.string Q1, .string Q2, .string Q3]) ∧ Below W.heap.size W w')
    (s3 : ∀ W, Below w.heap.size w W → Calls Tryz.prog 48 #[.agg #[.string Q1, .string Q2, .string Q3]] W fun e w' => e = .returned (.bool false) ∧ Below W.heap.size W w')
    (s4 : ∀ W, Below w.heap.size w W → Calls Tryz.prog 47 #[.agg #[.string Q1, .string Q2, .string Q3]] W fun e w' => e = .returned (.agg #[.string P1, .string P2, .string P3]) ∧ Below W.heap.size W w')
    (s5 : ∀ W, Below w.heap.size w W → Calls Tryz.prog 46 #[.agg #[.string P1, .string P2, .string P3]] W fun e w' => e = .returned (.tuple #[.agg #[.string P1, .string P2, .string P3], .int .i64 0]) ∧ Below W.heap.size W w') :
    Calls Tryz.prog 23 #[.agg #[.string A, .string C, .string D], .agg #[.string F, .string G, .string H]] w fun e w' => e = .returned (.tuple #[.agg #[.string P1, .string P2, .string P3], .int .i64 0]) ∧ Below w.heap.size w w' := by
  have S1 := Lib.hid s1
  have S2 := Lib.hid s2
  have S3 := Lib.hid s3
  have S4 := Lib.hid s4
  have S5 := Lib.hid s5
  clear s1 s2 s3 s4 s5
  have k0 := Blk.fresh w #[.string A, .string C, .string D] 34
  replace k0 := k0.alloc (Obj.cells #[.string F, .string G, .string H] 34)
  replace k0 := k0.alloc (Obj.cells #[.string ⟨#[]⟩, .string ⟨#[]⟩, .string ⟨#[]⟩] 34)
  have k1 := Blk.fresh (w.alloc (Obj.cells #[.string A, .string C, .string D] 34)) #[.string F, .string G, .string H] 34
  rw [show (w.alloc (Obj.cells #[.string A, .string C, .string D] 34)).heap.size = w.heap.size + 1 from World.size_alloc ..] at k1
  replace k1 := k1.alloc (Obj.cells #[.string ⟨#[]⟩, .string ⟨#[]⟩, .string ⟨#[]⟩] 34)
  have k2 := Blk.fresh ((w.alloc (Obj.cells #[.string A, .string C, .string D] 34)).alloc (Obj.cells #[.string F, .string G, .string H] 34)) #[.string ⟨#[]⟩, .string ⟨#[]⟩, .string ⟨#[]⟩] 34
  rw [show ((w.alloc (Obj.cells #[.string A, .string C, .string D] 34)).alloc (Obj.cells #[.string F, .string G, .string H] 34)).heap.size = w.heap.size + 2 from by simp] at k2
  have b0 : Below w.heap.size w (((w.alloc (Obj.cells #[.string A, .string C, .string D] 34)).alloc (Obj.cells #[.string F, .string G, .string H] 34)).alloc (Obj.cells #[.string ⟨#[]⟩, .string ⟨#[]⟩, .string ⟨#[]⟩] 34)) := ((((Below.refl _ _).alloc (Nat.le_refl _) _).alloc (by simp; try omega) _).alloc (by simp; try omega) _)
  have K0 := Lib.hid k0
  have K1 := Lib.hid k1
  have K2 := Lib.hid k2
  have B := Lib.hid b0
  clear b0 k0 k1 k2
  go_enter Tryz.func23, Tryz.ntmps23
  go_upto_region 1 with (fail)
  generalize (((w.alloc (Obj.cells #[.string A, .string C, .string D] 34)).alloc (Obj.cells #[.string F, .string G, .string H] 34)).alloc (Obj.cells #[.string ⟨#[]⟩, .string ⟨#[]⟩, .string ⟨#[]⟩] 34)) = W0 at *
  have c00 := K0.out.at_ 0 _ rfl
  have c01 := K0.out.at_ 1 _ rfl
  have c02 := K0.out.at_ 2 _ rfl
  have c10 := K1.out.at_ 0 _ rfl
  have c11 := K1.out.at_ 1 _ rfl
  have c12 := K1.out.at_ 2 _ rfl
  have c20 := K2.out.at_ 0 _ rfl
  have c21 := K2.out.at_ 1 _ rfl
  have c22 := K2.out.at_ 2 _ rfl
  have z20 := K2.out.free 0
  have z21 := K2.out.free 1
  have z22 := K2.out.free 2
  have c30 : True := trivial
  have c31 : True := trivial
  have c32 : True := trivial
  go_upto_region 5 with (first
    | (go_at_call 41; (with_reducible refine (S1.out _ (Near.base (by first | exact Near.same _ | exact Near.one _) B.out)).mono ?_); rintro e wx ⟨rfl, q⟩; replace K0 := Lib.hid (K0.out.near (by first | exact Near.same _ | exact Near.one _) q); replace K1 := Lib.hid (K1.out.near (by first | exact Near.same _ | exact Near.one _) q); replace K2 := Lib.hid (K2.out.near (by first | exact Near.same _ | exact Near.one _) q); replace B := Lib.hid (Near.go (by first | exact Near.same _ | exact Near.one _) B.out q B.out.size); clear q; replace c00 := K0.out.at_ 0 _ rfl; replace c01 := K0.out.at_ 1 _ rfl; replace c02 := K0.out.at_ 2 _ rfl; replace c10 := K1.out.at_ 0 _ rfl; replace c11 := K1.out.at_ 1 _ rfl; replace c12 := K1.out.at_ 2 _ rfl; replace c20 := K2.out.at_ 0 _ rfl; replace c21 := K2.out.at_ 1 _ rfl; replace c22 := K2.out.at_ 2 _ rfl; replace z20 := K2.out.free 0; replace z21 := K2.out.free 1; replace z22 := K2.out.free 2)
    | (go_at_call 49; (with_reducible refine (S2.out _ (Near.base (by first | exact Near.same _ | exact Near.one _) B.out)).mono ?_); rintro e wx ⟨rfl, q⟩; replace K0 := Lib.hid (K0.out.near (by first | exact Near.same _ | exact Near.one _) q); replace K1 := Lib.hid (K1.out.near (by first | exact Near.same _ | exact Near.one _) q); replace K2 := Lib.hid (K2.out.near (by first | exact Near.same _ | exact Near.one _) q); replace B := Lib.hid (Near.go (by first | exact Near.same _ | exact Near.one _) B.out q B.out.size); clear q; replace c00 := K0.out.at_ 0 _ rfl; replace c01 := K0.out.at_ 1 _ rfl; replace c02 := K0.out.at_ 2 _ rfl; replace c10 := K1.out.at_ 0 _ rfl; replace c11 := K1.out.at_ 1 _ rfl; replace c12 := K1.out.at_ 2 _ rfl; replace c20 := K2.out.at_ 0 _ rfl; replace c21 := K2.out.at_ 1 _ rfl; replace c22 := K2.out.at_ 2 _ rfl; replace z20 := K2.out.free 0; replace z21 := K2.out.free 1; replace z22 := K2.out.free 2)
    | fail "arm")
  have n3 := Blk.fresh wx #[.string Q1, .string Q2, .string Q3] 34
  replace K0 := Lib.hid (K0.out.alloc (Obj.cells #[.string Q1, .string Q2, .string Q3] 34))
  replace K1 := Lib.hid (K1.out.alloc (Obj.cells #[.string Q1, .string Q2, .string Q3] 34))
  replace K2 := Lib.hid (K2.out.alloc (Obj.cells #[.string Q1, .string Q2, .string Q3] 34))
  replace B := Lib.hid (B.out.trans ((below_new wx (Obj.cells #[.string Q1, .string Q2, .string Q3] 34)).mono B.out.size))
  generalize wx.alloc (Obj.cells #[.string Q1, .string Q2, .string Q3] 34) = W5 at *
  generalize wx.heap.size = g at *
  have K3 := Lib.hid n3
  clear n3
  replace c00 := K0.out.at_ 0 _ rfl
  replace c01 := K0.out.at_ 1 _ rfl
  replace c02 := K0.out.at_ 2 _ rfl
  replace c10 := K1.out.at_ 0 _ rfl
  replace c11 := K1.out.at_ 1 _ rfl
  replace c12 := K1.out.at_ 2 _ rfl
  replace c20 := K2.out.at_ 0 _ rfl
  replace c21 := K2.out.at_ 1 _ rfl
  replace c22 := K2.out.at_ 2 _ rfl
  replace c30 := K3.out.at_ 0 _ rfl
  replace c31 := K3.out.at_ 1 _ rfl
  replace c32 := K3.out.at_ 2 _ rfl
  replace z20 := K2.out.free 0
  replace z21 := K2.out.free 1
  replace z22 := K2.out.free 2
  go_wp2_with (first
    | (go_at_call 48; (with_reducible refine (S3.out _ (Near.base (by first | exact Near.same _ | exact Near.one _) B.out)).mono ?_); rintro e wx ⟨rfl, q⟩; replace K0 := Lib.hid (K0.out.near (by first | exact Near.same _ | exact Near.one _) q); replace K1 := Lib.hid (K1.out.near (by first | exact Near.same _ | exact Near.one _) q); replace K2 := Lib.hid (K2.out.near (by first | exact Near.same _ | exact Near.one _) q); replace K3 := Lib.hid (K3.out.near (by first | exact Near.same _ | exact Near.one _) q); replace B := Lib.hid (Near.go (by first | exact Near.same _ | exact Near.one _) B.out q B.out.size); clear q; replace c00 := K0.out.at_ 0 _ rfl; replace c01 := K0.out.at_ 1 _ rfl; replace c02 := K0.out.at_ 2 _ rfl; replace c10 := K1.out.at_ 0 _ rfl; replace c11 := K1.out.at_ 1 _ rfl; replace c12 := K1.out.at_ 2 _ rfl; replace c20 := K2.out.at_ 0 _ rfl; replace c21 := K2.out.at_ 1 _ rfl; replace c22 := K2.out.at_ 2 _ rfl; replace c30 := K3.out.at_ 0 _ rfl; replace c31 := K3.out.at_ 1 _ rfl; replace c32 := K3.out.at_ 2 _ rfl; replace z20 := K2.out.free 0; replace z21 := K2.out.free 1; replace z22 := K2.out.free 2)
    | (go_at_call 47; (with_reducible refine (S4.out _ (Near.base (by first | exact Near.same _ | exact Near.one _) B.out)).mono ?_); rintro e wx ⟨rfl, q⟩; replace K0 := Lib.hid (K0.out.near (by first | exact Near.same _ | exact Near.one _) q); replace K1 := Lib.hid (K1.out.near (by first | exact Near.same _ | exact Near.one _) q); replace K2 := Lib.hid (K2.out.near (by first | exact Near.same _ | exact Near.one _) q); replace K3 := Lib.hid (K3.out.near (by first | exact Near.same _ | exact Near.one _) q); replace B := Lib.hid (Near.go (by first | exact Near.same _ | exact Near.one _) B.out q B.out.size); clear q; replace c00 := K0.out.at_ 0 _ rfl; replace c01 := K0.out.at_ 1 _ rfl; replace c02 := K0.out.at_ 2 _ rfl; replace c10 := K1.out.at_ 0 _ rfl; replace c11 := K1.out.at_ 1 _ rfl; replace c12 := K1.out.at_ 2 _ rfl; replace c20 := K2.out.at_ 0 _ rfl; replace c21 := K2.out.at_ 1 _ rfl; replace c22 := K2.out.at_ 2 _ rfl; replace c30 := K3.out.at_ 0 _ rfl; replace c31 := K3.out.at_ 1 _ rfl; replace c32 := K3.out.at_ 2 _ rfl; replace z20 := K2.out.free 0; replace z21 := K2.out.free 1; replace z22 := K2.out.free 2)
    | (go_at_call 46; (with_reducible refine (S5.out _ (Near.base (by first | exact Near.same _ | exact Near.one _) B.out)).mono ?_); rintro e wx ⟨rfl, q⟩; replace K0 := Lib.hid (K0.out.near (by first | exact Near.same _ | exact Near.one _) q); replace K1 := Lib.hid (K1.out.near (by first | exact Near.same _ | exact Near.one _) q); replace K2 := Lib.hid (K2.out.near (by first | exact Near.same _ | exact Near.one _) q); replace K3 := Lib.hid (K3.out.near (by first | exact Near.same _ | exact Near.one _) q); replace B := Lib.hid (Near.go (by first | exact Near.same _ | exact Near.one _) B.out q B.out.size); clear q; replace c00 := K0.out.at_ 0 _ rfl; replace c01 := K0.out.at_ 1 _ rfl; replace c02 := K0.out.at_ 2 _ rfl; replace c10 := K1.out.at_ 0 _ rfl; replace c11 := K1.out.at_ 1 _ rfl; replace c12 := K1.out.at_ 2 _ rfl; replace c20 := K2.out.at_ 0 _ rfl; replace c21 := K2.out.at_ 1 _ rfl; replace c22 := K2.out.at_ 2 _ rfl; replace c30 := K3.out.at_ 0 _ rfl; replace c31 := K3.out.at_ 1 _ rfl; replace c32 := K3.out.at_ 2 _ rfl; replace z20 := K2.out.free 0; replace z21 := K2.out.free 1; replace z22 := K2.out.free 2)
    | fail "arm")
  have R3 := K2.out.set3 (.string P1) (.string P2) (.string P3)
  have B3 := Lib.hid (B.out.trans (below_else3 wx w.heap.size (w.heap.size + 2) (by omega) (.string P1) (.string P2) (.string P3)))
  generalize (((wx.setCell ⟨w.heap.size + 2, 0, none⟩ (.string P1)).setCell ⟨w.heap.size + 2, 1, none⟩ (.string P2)).setCell ⟨w.heap.size + 2, 2, none⟩ (.string P3)) = W3 at *
  have e0 := R3.at_ 0 _ rfl
  have e1 := R3.at_ 1 _ rfl
  have e2 := R3.at_ 2 _ rfl
  clear R3
  exact bodyPost_ret (v := .tuple #[.agg #[.string P1, .string P2, .string P3], .int .i64 0]) (by rw [results_cell_tmp Tryz.results23]; simp [go_sem, e0, e1, e2]) rfl ⟨rfl, B3.out⟩

set_option maxRecDepth 100000 in
set_option maxHeartbeats 2000000 in
theorem lpitch_none (A C D F G H NC : ByteArray) (w : World)
    (s1 : ∀ W, Below w.heap.size w W → Calls Tryz.prog 41 #[.agg #[.string A, .string C, .string D], .agg #[.string F, .string G, .string H]] W fun e w' => e = .returned (.int .i64 0) ∧ Below W.heap.size W w')
    (s2 : ∀ W, Calls Tryz.prog 30 #[.string C] W fun e w' => e = .returned (.string NC) ∧ Below W.heap.size W w')
    (s3 : ∀ W, Below w.heap.size w W → Calls Tryz.prog 48 #[.agg #[.string NC, .string A, .string ⟨#[48]⟩]] W fun e w' => e = .returned (.bool true) ∧ Below W.heap.size W w') :
    Calls Tryz.prog 24 #[.agg #[.string A, .string C, .string D], .agg #[.string F, .string G, .string H]] w fun e w' => e = .returned (.tuple #[.string ⟨#[]⟩, .int .i64 19]) ∧ Below w.heap.size w w' := by
  have S1 := Lib.hid s1
  have S2 := Lib.hid s2
  have S3 := Lib.hid s3
  clear s1 s2 s3
  have k0 := Blk.fresh w #[.string A, .string C, .string D] 34
  replace k0 := k0.alloc (Obj.cells #[.string F, .string G, .string H] 34)
  have k1 := Blk.fresh (w.alloc (Obj.cells #[.string A, .string C, .string D] 34)) #[.string F, .string G, .string H] 34
  rw [show (w.alloc (Obj.cells #[.string A, .string C, .string D] 34)).heap.size = w.heap.size + 1 from World.size_alloc ..] at k1
  have b0 : Below w.heap.size w ((w.alloc (Obj.cells #[.string A, .string C, .string D] 34)).alloc (Obj.cells #[.string F, .string G, .string H] 34)) := (((Below.refl _ _).alloc (Nat.le_refl _) _).alloc (by simp; try omega) _)
  have K0 := Lib.hid k0
  have K1 := Lib.hid k1
  have B := Lib.hid b0
  clear b0 k0 k1
  go_enter Tryz.func24, Tryz.ntmps24
  go_upto_region 1 with (fail)
  generalize ((w.alloc (Obj.cells #[.string A, .string C, .string D] 34)).alloc (Obj.cells #[.string F, .string G, .string H] 34)) = W0 at *
  have c00 := K0.out.at_ 0 _ rfl
  have c01 := K0.out.at_ 1 _ rfl
  have c02 := K0.out.at_ 2 _ rfl
  have c10 := K1.out.at_ 0 _ rfl
  have c11 := K1.out.at_ 1 _ rfl
  have c12 := K1.out.at_ 2 _ rfl
  have c20 : True := trivial
  have c21 : True := trivial
  have c22 : True := trivial
  go_upto_region 4 with (first
    | (go_at_call 41; (with_reducible refine (S1.out _ (Near.base (by first | exact Near.same _ | exact Near.one _) B.out)).mono ?_); rintro e wx ⟨rfl, q⟩; replace K0 := Lib.hid (K0.out.near (by first | exact Near.same _ | exact Near.one _) q); replace K1 := Lib.hid (K1.out.near (by first | exact Near.same _ | exact Near.one _) q); replace B := Lib.hid (Near.go (by first | exact Near.same _ | exact Near.one _) B.out q B.out.size); clear q; replace c00 := K0.out.at_ 0 _ rfl; replace c01 := K0.out.at_ 1 _ rfl; replace c02 := K0.out.at_ 2 _ rfl; replace c10 := K1.out.at_ 0 _ rfl; replace c11 := K1.out.at_ 1 _ rfl; replace c12 := K1.out.at_ 2 _ rfl)
    | fail "arm")
  have g0 := K0.out.lt
  have g1 := K1.out.lt
  have L0 := Lib.hid g0
  have L1 := Lib.hid g1
  clear g0 g1
  go_cut [7] from 14 to 19 (fun x wc => ∃ g : Nat, x = .pointer (some ⟨g, 0, none⟩) ∧ Blk wc g #[.string NC, .string A, .string ⟨#[48]⟩] 34 ∧ Blk wc w.heap.size #[.string A, .string C, .string D] 34 ∧ Blk wc (w.heap.size + 1) #[.string F, .string G, .string H] 34 ∧ Below w.heap.size w wc)
  case first =>
    go_region_held3 (fun w' => w'.cell? ⟨w.heap.size, 0, none⟩ = some (.string A) ∧ w'.cell? ⟨w.heap.size, 1, none⟩ = some (.string C))
      (first | exact ⟨c00, c01⟩ | exact ⟨(K0.out.alloc _).at_ 0 _ rfl, (K0.out.alloc _).at_ 1 _ rfl⟩ | exact ⟨(K0.out.else3 (Nat.ne_of_lt L0.out) _ _ _).at_ 0 _ rfl, (K0.out.else3 (Nat.ne_of_lt L0.out) _ _ _).at_ 1 _ rfl⟩)
      (first
        | (go_at_call 30; (with_reducible refine (S2.out (World.drew wx)).mono ?_); rintro e wy ⟨rfl, q⟩; replace K0 := Lib.hid ((K0.out).near (Near.one wx) q); replace K1 := Lib.hid ((K1.out).near (Near.one wx) q); replace B := Lib.hid (Near.go (Near.one wx) (B.out) q (B.out.size)); clear q; replace c00 := K0.out.at_ 0 _ rfl; replace c01 := K0.out.at_ 1 _ rfl; replace c02 := K0.out.at_ 2 _ rfl; replace c10 := K1.out.at_ 0 _ rfl; replace c11 := K1.out.at_ 1 _ rfl; replace c12 := K1.out.at_ 2 _ rfl)
        | (go_at_call 30; (with_reducible refine (S2.out (World.drew (World.alloc wx (Obj.cells #[.string ⟨#[]⟩, .string ⟨#[]⟩, .string ⟨#[]⟩] 34)))).mono ?_); rintro e wy ⟨rfl, q⟩; have K2 := Lib.hid ((Blk.fresh wx #[.string ⟨#[]⟩, .string ⟨#[]⟩, .string ⟨#[]⟩] 34).near (Near.one _) q); replace K0 := Lib.hid ((K0.out.alloc (Obj.cells #[.string ⟨#[]⟩, .string ⟨#[]⟩, .string ⟨#[]⟩] 34)).near (Near.one (World.alloc wx (Obj.cells #[.string ⟨#[]⟩, .string ⟨#[]⟩, .string ⟨#[]⟩] 34))) q); replace K1 := Lib.hid ((K1.out.alloc (Obj.cells #[.string ⟨#[]⟩, .string ⟨#[]⟩, .string ⟨#[]⟩] 34)).near (Near.one (World.alloc wx (Obj.cells #[.string ⟨#[]⟩, .string ⟨#[]⟩, .string ⟨#[]⟩] 34))) q); replace B := Lib.hid (Near.go (Near.one (World.alloc wx (Obj.cells #[.string ⟨#[]⟩, .string ⟨#[]⟩, .string ⟨#[]⟩] 34))) (B.out.trans ((below_new wx (Obj.cells #[.string ⟨#[]⟩, .string ⟨#[]⟩, .string ⟨#[]⟩] 34)).mono B.out.size)) q (Nat.le_trans B.out.size (below_new wx (Obj.cells #[.string ⟨#[]⟩, .string ⟨#[]⟩, .string ⟨#[]⟩] 34)).size)); clear q; replace c00 := K0.out.at_ 0 _ rfl; replace c01 := K0.out.at_ 1 _ rfl; replace c02 := K0.out.at_ 2 _ rfl; replace c10 := K1.out.at_ 0 _ rfl; replace c11 := K1.out.at_ 1 _ rfl; replace c12 := K1.out.at_ 2 _ rfl; have d0 := K2.out.at_ 0 _ rfl; have d1 := K2.out.at_ 1 _ rfl; have d2 := K2.out.at_ 2 _ rfl; have z0 := K2.out.free 0; have z1 := K2.out.free 1; have z2 := K2.out.free 2)
        | fail "arm")
    all_goals
      go_wp2_with fail
      go_meet
      first
        | (with_reducible refine ⟨_, rfl, Blk.fresh _ _ _, ?_, ?_, ?_⟩; exact K0.out.alloc _; exact K1.out.alloc _; exact B.out.trans ((below_new _ _).mono B.out.size))
        | exact ⟨_, rfl, K2.out.set3 _ _ _, K0.out.else3 (Nat.ne_of_lt L0.out) _ _ _, K1.out.else3 (Nat.ne_of_lt L1.out) _ _ _, B.out.trans (below_else3 _ _ _ (Nat.le_of_lt L0.out) _ _ _)⟩
  case rest =>
    obtain ⟨g, rfl, k2, k0, k1, b⟩ := hcut
    replace K0 := Lib.hid k0
    replace K1 := Lib.hid k1
    have K2 := Lib.hid k2
    replace B := Lib.hid b
    clear k0 k1 k2 b L0 L1
    replace c00 := K0.out.at_ 0 _ rfl
    replace c01 := K0.out.at_ 1 _ rfl
    replace c02 := K0.out.at_ 2 _ rfl
    replace c10 := K1.out.at_ 0 _ rfl
    replace c11 := K1.out.at_ 1 _ rfl
    replace c12 := K1.out.at_ 2 _ rfl
    replace c20 := K2.out.at_ 0 _ rfl
    replace c21 := K2.out.at_ 1 _ rfl
    replace c22 := K2.out.at_ 2 _ rfl
    go_wp2_with (first
      | (go_at_call 48; (with_reducible refine (S3.out _ (Near.base (by first | exact Near.same _ | exact Near.one _) B.out)).mono ?_); rintro e wx ⟨rfl, q⟩; replace K0 := Lib.hid (K0.out.near (by first | exact Near.same _ | exact Near.one _) q); replace K1 := Lib.hid (K1.out.near (by first | exact Near.same _ | exact Near.one _) q); replace K2 := Lib.hid (K2.out.near (by first | exact Near.same _ | exact Near.one _) q); replace B := Lib.hid (Near.go (by first | exact Near.same _ | exact Near.one _) B.out q B.out.size); clear q; replace c00 := K0.out.at_ 0 _ rfl; replace c01 := K0.out.at_ 1 _ rfl; replace c02 := K0.out.at_ 2 _ rfl; replace c10 := K1.out.at_ 0 _ rfl; replace c11 := K1.out.at_ 1 _ rfl; replace c12 := K1.out.at_ 2 _ rfl; replace c20 := K2.out.at_ 0 _ rfl; replace c21 := K2.out.at_ 1 _ rfl; replace c22 := K2.out.at_ 2 _ rfl)
      | fail "arm")
    go_ret2
    exact ⟨rfl, B.out⟩

set_option maxRecDepth 100000 in
set_option maxHeartbeats 2000000 in
theorem lpitch_form (A C D F G H NC R : ByteArray) (w : World)
    (s1 : ∀ W, Below w.heap.size w W → Calls Tryz.prog 41 #[.agg #[.string A, .string C, .string D], .agg #[.string F, .string G, .string H]] W fun e w' => e = .returned (.int .i64 0) ∧ Below W.heap.size W w')
    (s2 : ∀ W, Calls Tryz.prog 30 #[.string C] W fun e w' => e = .returned (.string NC) ∧ Below W.heap.size W w')
    (s3 : ∀ W, Below w.heap.size w W → Calls Tryz.prog 48 #[.agg #[.string NC, .string A, .string ⟨#[48]⟩]] W fun e w' => e = .returned (.bool false) ∧ Below W.heap.size W w')
    (s4 : ∀ W, Below w.heap.size w W → Calls Tryz.prog 44 #[.agg #[.string A, .string C, .string D], .agg #[.string F, .string G, .string H]] W fun e w' => e = .returned (.string R) ∧ Below W.heap.size W w')
    (hd : (R.toList == [48]) = false) :
    Calls Tryz.prog 24 #[.agg #[.string A, .string C, .string D], .agg #[.string F, .string G, .string H]] w fun e w' => e = .returned (.tuple #[.string ⟨#[]⟩, .int .i64 7]) ∧ Below w.heap.size w w' := by
  obtain ⟨d1, d2⟩ := zero_eq R _ hd
  clear hd
  have S1 := Lib.hid s1
  have S2 := Lib.hid s2
  have S3 := Lib.hid s3
  have S4 := Lib.hid s4
  clear s1 s2 s3 s4
  have k0 := Blk.fresh w #[.string A, .string C, .string D] 34
  replace k0 := k0.alloc (Obj.cells #[.string F, .string G, .string H] 34)
  have k1 := Blk.fresh (w.alloc (Obj.cells #[.string A, .string C, .string D] 34)) #[.string F, .string G, .string H] 34
  rw [show (w.alloc (Obj.cells #[.string A, .string C, .string D] 34)).heap.size = w.heap.size + 1 from World.size_alloc ..] at k1
  have b0 : Below w.heap.size w ((w.alloc (Obj.cells #[.string A, .string C, .string D] 34)).alloc (Obj.cells #[.string F, .string G, .string H] 34)) := (((Below.refl _ _).alloc (Nat.le_refl _) _).alloc (by simp; try omega) _)
  have K0 := Lib.hid k0
  have K1 := Lib.hid k1
  have B := Lib.hid b0
  clear b0 k0 k1
  go_enter Tryz.func24, Tryz.ntmps24
  go_upto_region 1 with (fail)
  generalize ((w.alloc (Obj.cells #[.string A, .string C, .string D] 34)).alloc (Obj.cells #[.string F, .string G, .string H] 34)) = W0 at *
  have c00 := K0.out.at_ 0 _ rfl
  have c01 := K0.out.at_ 1 _ rfl
  have c02 := K0.out.at_ 2 _ rfl
  have c10 := K1.out.at_ 0 _ rfl
  have c11 := K1.out.at_ 1 _ rfl
  have c12 := K1.out.at_ 2 _ rfl
  have c20 : True := trivial
  have c21 : True := trivial
  have c22 : True := trivial
  go_upto_region 4 with (first
    | (go_at_call 41; (with_reducible refine (S1.out _ (Near.base (by first | exact Near.same _ | exact Near.one _) B.out)).mono ?_); rintro e wx ⟨rfl, q⟩; replace K0 := Lib.hid (K0.out.near (by first | exact Near.same _ | exact Near.one _) q); replace K1 := Lib.hid (K1.out.near (by first | exact Near.same _ | exact Near.one _) q); replace B := Lib.hid (Near.go (by first | exact Near.same _ | exact Near.one _) B.out q B.out.size); clear q; replace c00 := K0.out.at_ 0 _ rfl; replace c01 := K0.out.at_ 1 _ rfl; replace c02 := K0.out.at_ 2 _ rfl; replace c10 := K1.out.at_ 0 _ rfl; replace c11 := K1.out.at_ 1 _ rfl; replace c12 := K1.out.at_ 2 _ rfl)
    | fail "arm")
  have g0 := K0.out.lt
  have g1 := K1.out.lt
  have L0 := Lib.hid g0
  have L1 := Lib.hid g1
  clear g0 g1
  go_cut [7] from 14 to 19 (fun x wc => ∃ g : Nat, x = .pointer (some ⟨g, 0, none⟩) ∧ Blk wc g #[.string NC, .string A, .string ⟨#[48]⟩] 34 ∧ Blk wc w.heap.size #[.string A, .string C, .string D] 34 ∧ Blk wc (w.heap.size + 1) #[.string F, .string G, .string H] 34 ∧ Below w.heap.size w wc)
  case first =>
    go_region_held3 (fun w' => w'.cell? ⟨w.heap.size, 0, none⟩ = some (.string A) ∧ w'.cell? ⟨w.heap.size, 1, none⟩ = some (.string C))
      (first | exact ⟨c00, c01⟩ | exact ⟨(K0.out.alloc _).at_ 0 _ rfl, (K0.out.alloc _).at_ 1 _ rfl⟩ | exact ⟨(K0.out.else3 (Nat.ne_of_lt L0.out) _ _ _).at_ 0 _ rfl, (K0.out.else3 (Nat.ne_of_lt L0.out) _ _ _).at_ 1 _ rfl⟩)
      (first
        | (go_at_call 30; (with_reducible refine (S2.out (World.drew wx)).mono ?_); rintro e wy ⟨rfl, q⟩; replace K0 := Lib.hid ((K0.out).near (Near.one wx) q); replace K1 := Lib.hid ((K1.out).near (Near.one wx) q); replace B := Lib.hid (Near.go (Near.one wx) (B.out) q (B.out.size)); clear q; replace c00 := K0.out.at_ 0 _ rfl; replace c01 := K0.out.at_ 1 _ rfl; replace c02 := K0.out.at_ 2 _ rfl; replace c10 := K1.out.at_ 0 _ rfl; replace c11 := K1.out.at_ 1 _ rfl; replace c12 := K1.out.at_ 2 _ rfl)
        | (go_at_call 30; (with_reducible refine (S2.out (World.drew (World.alloc wx (Obj.cells #[.string ⟨#[]⟩, .string ⟨#[]⟩, .string ⟨#[]⟩] 34)))).mono ?_); rintro e wy ⟨rfl, q⟩; have K2 := Lib.hid ((Blk.fresh wx #[.string ⟨#[]⟩, .string ⟨#[]⟩, .string ⟨#[]⟩] 34).near (Near.one _) q); replace K0 := Lib.hid ((K0.out.alloc (Obj.cells #[.string ⟨#[]⟩, .string ⟨#[]⟩, .string ⟨#[]⟩] 34)).near (Near.one (World.alloc wx (Obj.cells #[.string ⟨#[]⟩, .string ⟨#[]⟩, .string ⟨#[]⟩] 34))) q); replace K1 := Lib.hid ((K1.out.alloc (Obj.cells #[.string ⟨#[]⟩, .string ⟨#[]⟩, .string ⟨#[]⟩] 34)).near (Near.one (World.alloc wx (Obj.cells #[.string ⟨#[]⟩, .string ⟨#[]⟩, .string ⟨#[]⟩] 34))) q); replace B := Lib.hid (Near.go (Near.one (World.alloc wx (Obj.cells #[.string ⟨#[]⟩, .string ⟨#[]⟩, .string ⟨#[]⟩] 34))) (B.out.trans ((below_new wx (Obj.cells #[.string ⟨#[]⟩, .string ⟨#[]⟩, .string ⟨#[]⟩] 34)).mono B.out.size)) q (Nat.le_trans B.out.size (below_new wx (Obj.cells #[.string ⟨#[]⟩, .string ⟨#[]⟩, .string ⟨#[]⟩] 34)).size)); clear q; replace c00 := K0.out.at_ 0 _ rfl; replace c01 := K0.out.at_ 1 _ rfl; replace c02 := K0.out.at_ 2 _ rfl; replace c10 := K1.out.at_ 0 _ rfl; replace c11 := K1.out.at_ 1 _ rfl; replace c12 := K1.out.at_ 2 _ rfl; have d0 := K2.out.at_ 0 _ rfl; have d1 := K2.out.at_ 1 _ rfl; have d2 := K2.out.at_ 2 _ rfl; have z0 := K2.out.free 0; have z1 := K2.out.free 1; have z2 := K2.out.free 2)
        | fail "arm")
    all_goals
      go_wp2_with fail
      go_meet
      first
        | (with_reducible refine ⟨_, rfl, Blk.fresh _ _ _, ?_, ?_, ?_⟩; exact K0.out.alloc _; exact K1.out.alloc _; exact B.out.trans ((below_new _ _).mono B.out.size))
        | exact ⟨_, rfl, K2.out.set3 _ _ _, K0.out.else3 (Nat.ne_of_lt L0.out) _ _ _, K1.out.else3 (Nat.ne_of_lt L1.out) _ _ _, B.out.trans (below_else3 _ _ _ (Nat.le_of_lt L0.out) _ _ _)⟩
  case rest =>
    obtain ⟨g, rfl, k2, k0, k1, b⟩ := hcut
    replace K0 := Lib.hid k0
    replace K1 := Lib.hid k1
    have K2 := Lib.hid k2
    replace B := Lib.hid b
    clear k0 k1 k2 b L0 L1
    replace c00 := K0.out.at_ 0 _ rfl
    replace c01 := K0.out.at_ 1 _ rfl
    replace c02 := K0.out.at_ 2 _ rfl
    replace c10 := K1.out.at_ 0 _ rfl
    replace c11 := K1.out.at_ 1 _ rfl
    replace c12 := K1.out.at_ 2 _ rfl
    replace c20 := K2.out.at_ 0 _ rfl
    replace c21 := K2.out.at_ 1 _ rfl
    replace c22 := K2.out.at_ 2 _ rfl
    go_wp2_with (first
      | (go_at_call 48; (with_reducible refine (S3.out _ (Near.base (by first | exact Near.same _ | exact Near.one _) B.out)).mono ?_); rintro e wx ⟨rfl, q⟩; replace K0 := Lib.hid (K0.out.near (by first | exact Near.same _ | exact Near.one _) q); replace K1 := Lib.hid (K1.out.near (by first | exact Near.same _ | exact Near.one _) q); replace K2 := Lib.hid (K2.out.near (by first | exact Near.same _ | exact Near.one _) q); replace B := Lib.hid (Near.go (by first | exact Near.same _ | exact Near.one _) B.out q B.out.size); clear q; replace c00 := K0.out.at_ 0 _ rfl; replace c01 := K0.out.at_ 1 _ rfl; replace c02 := K0.out.at_ 2 _ rfl; replace c10 := K1.out.at_ 0 _ rfl; replace c11 := K1.out.at_ 1 _ rfl; replace c12 := K1.out.at_ 2 _ rfl; replace c20 := K2.out.at_ 0 _ rfl; replace c21 := K2.out.at_ 1 _ rfl; replace c22 := K2.out.at_ 2 _ rfl)
      | (go_at_call 44; (with_reducible refine (S4.out _ (Near.base (by first | exact Near.same _ | exact Near.one _) B.out)).mono ?_); rintro e wx ⟨rfl, q⟩; replace K0 := Lib.hid (K0.out.near (by first | exact Near.same _ | exact Near.one _) q); replace K1 := Lib.hid (K1.out.near (by first | exact Near.same _ | exact Near.one _) q); replace K2 := Lib.hid (K2.out.near (by first | exact Near.same _ | exact Near.one _) q); replace B := Lib.hid (Near.go (by first | exact Near.same _ | exact Near.one _) B.out q B.out.size); clear q; replace c00 := K0.out.at_ 0 _ rfl; replace c01 := K0.out.at_ 1 _ rfl; replace c02 := K0.out.at_ 2 _ rfl; replace c10 := K1.out.at_ 0 _ rfl; replace c11 := K1.out.at_ 1 _ rfl; replace c12 := K1.out.at_ 2 _ rfl; replace c20 := K2.out.at_ 0 _ rfl; replace c21 := K2.out.at_ 1 _ rfl; replace c22 := K2.out.at_ 2 _ rfl)
      | fail "arm")
    go_ret2
    exact ⟨rfl, B.out⟩

set_option maxRecDepth 100000 in
set_option maxHeartbeats 2000000 in
theorem lpitch_ok (A C D F G H NC R N : ByteArray) (w : World)
    (s1 : ∀ W, Below w.heap.size w W → Calls Tryz.prog 41 #[.agg #[.string A, .string C, .string D], .agg #[.string F, .string G, .string H]] W fun e w' => e = .returned (.int .i64 0) ∧ Below W.heap.size W w')
    (s2 : ∀ W, Calls Tryz.prog 30 #[.string C] W fun e w' => e = .returned (.string NC) ∧ Below W.heap.size W w')
    (s3 : ∀ W, Below w.heap.size w W → Calls Tryz.prog 48 #[.agg #[.string NC, .string A, .string ⟨#[48]⟩]] W fun e w' => e = .returned (.bool false) ∧ Below W.heap.size W w')
    (s4 : ∀ W, Below w.heap.size w W → Calls Tryz.prog 44 #[.agg #[.string A, .string C, .string D], .agg #[.string F, .string G, .string H]] W fun e w' => e = .returned (.string R) ∧ Below W.heap.size W w')
    (hd : (R.toList == [48]) = true)
    (s5 : ∀ W, Below w.heap.size w W → Calls Tryz.prog 42 #[.agg #[.string NC, .string A, .string ⟨#[48]⟩], .agg #[.string F, .string G, .string H]] W fun e w' => e = .returned (.string N) ∧ Below W.heap.size W w')
    (s6 : ∀ W, Below w.heap.size w W → Calls Tryz.prog 51 #[.string N] W fun e w' => e = .returned (.tuple #[.string N, .int .i64 0]) ∧ Below W.heap.size W w') :
    Calls Tryz.prog 24 #[.agg #[.string A, .string C, .string D], .agg #[.string F, .string G, .string H]] w fun e w' => e = .returned (.tuple #[.string N, .int .i64 0]) ∧ Below w.heap.size w w' := by
  obtain ⟨d1, d2⟩ := zero_eq R _ hd
  clear hd
  have S1 := Lib.hid s1
  have S2 := Lib.hid s2
  have S3 := Lib.hid s3
  have S4 := Lib.hid s4
  have S5 := Lib.hid s5
  have S6 := Lib.hid s6
  clear s1 s2 s3 s4 s5 s6
  have k0 := Blk.fresh w #[.string A, .string C, .string D] 34
  replace k0 := k0.alloc (Obj.cells #[.string F, .string G, .string H] 34)
  have k1 := Blk.fresh (w.alloc (Obj.cells #[.string A, .string C, .string D] 34)) #[.string F, .string G, .string H] 34
  rw [show (w.alloc (Obj.cells #[.string A, .string C, .string D] 34)).heap.size = w.heap.size + 1 from World.size_alloc ..] at k1
  have b0 : Below w.heap.size w ((w.alloc (Obj.cells #[.string A, .string C, .string D] 34)).alloc (Obj.cells #[.string F, .string G, .string H] 34)) := (((Below.refl _ _).alloc (Nat.le_refl _) _).alloc (by simp; try omega) _)
  have K0 := Lib.hid k0
  have K1 := Lib.hid k1
  have B := Lib.hid b0
  clear b0 k0 k1
  go_enter Tryz.func24, Tryz.ntmps24
  go_upto_region 1 with (fail)
  generalize ((w.alloc (Obj.cells #[.string A, .string C, .string D] 34)).alloc (Obj.cells #[.string F, .string G, .string H] 34)) = W0 at *
  have c00 := K0.out.at_ 0 _ rfl
  have c01 := K0.out.at_ 1 _ rfl
  have c02 := K0.out.at_ 2 _ rfl
  have c10 := K1.out.at_ 0 _ rfl
  have c11 := K1.out.at_ 1 _ rfl
  have c12 := K1.out.at_ 2 _ rfl
  have c20 : True := trivial
  have c21 : True := trivial
  have c22 : True := trivial
  go_upto_region 4 with (first
    | (go_at_call 41; (with_reducible refine (S1.out _ (Near.base (by first | exact Near.same _ | exact Near.one _) B.out)).mono ?_); rintro e wx ⟨rfl, q⟩; replace K0 := Lib.hid (K0.out.near (by first | exact Near.same _ | exact Near.one _) q); replace K1 := Lib.hid (K1.out.near (by first | exact Near.same _ | exact Near.one _) q); replace B := Lib.hid (Near.go (by first | exact Near.same _ | exact Near.one _) B.out q B.out.size); clear q; replace c00 := K0.out.at_ 0 _ rfl; replace c01 := K0.out.at_ 1 _ rfl; replace c02 := K0.out.at_ 2 _ rfl; replace c10 := K1.out.at_ 0 _ rfl; replace c11 := K1.out.at_ 1 _ rfl; replace c12 := K1.out.at_ 2 _ rfl)
    | fail "arm")
  have g0 := K0.out.lt
  have g1 := K1.out.lt
  have L0 := Lib.hid g0
  have L1 := Lib.hid g1
  clear g0 g1
  go_cut [7] from 14 to 19 (fun x wc => ∃ g : Nat, x = .pointer (some ⟨g, 0, none⟩) ∧ Blk wc g #[.string NC, .string A, .string ⟨#[48]⟩] 34 ∧ Blk wc w.heap.size #[.string A, .string C, .string D] 34 ∧ Blk wc (w.heap.size + 1) #[.string F, .string G, .string H] 34 ∧ Below w.heap.size w wc)
  case first =>
    go_region_held3 (fun w' => w'.cell? ⟨w.heap.size, 0, none⟩ = some (.string A) ∧ w'.cell? ⟨w.heap.size, 1, none⟩ = some (.string C))
      (first | exact ⟨c00, c01⟩ | exact ⟨(K0.out.alloc _).at_ 0 _ rfl, (K0.out.alloc _).at_ 1 _ rfl⟩ | exact ⟨(K0.out.else3 (Nat.ne_of_lt L0.out) _ _ _).at_ 0 _ rfl, (K0.out.else3 (Nat.ne_of_lt L0.out) _ _ _).at_ 1 _ rfl⟩)
      (first
        | (go_at_call 30; (with_reducible refine (S2.out (World.drew wx)).mono ?_); rintro e wy ⟨rfl, q⟩; replace K0 := Lib.hid ((K0.out).near (Near.one wx) q); replace K1 := Lib.hid ((K1.out).near (Near.one wx) q); replace B := Lib.hid (Near.go (Near.one wx) (B.out) q (B.out.size)); clear q; replace c00 := K0.out.at_ 0 _ rfl; replace c01 := K0.out.at_ 1 _ rfl; replace c02 := K0.out.at_ 2 _ rfl; replace c10 := K1.out.at_ 0 _ rfl; replace c11 := K1.out.at_ 1 _ rfl; replace c12 := K1.out.at_ 2 _ rfl)
        | (go_at_call 30; (with_reducible refine (S2.out (World.drew (World.alloc wx (Obj.cells #[.string ⟨#[]⟩, .string ⟨#[]⟩, .string ⟨#[]⟩] 34)))).mono ?_); rintro e wy ⟨rfl, q⟩; have K2 := Lib.hid ((Blk.fresh wx #[.string ⟨#[]⟩, .string ⟨#[]⟩, .string ⟨#[]⟩] 34).near (Near.one _) q); replace K0 := Lib.hid ((K0.out.alloc (Obj.cells #[.string ⟨#[]⟩, .string ⟨#[]⟩, .string ⟨#[]⟩] 34)).near (Near.one (World.alloc wx (Obj.cells #[.string ⟨#[]⟩, .string ⟨#[]⟩, .string ⟨#[]⟩] 34))) q); replace K1 := Lib.hid ((K1.out.alloc (Obj.cells #[.string ⟨#[]⟩, .string ⟨#[]⟩, .string ⟨#[]⟩] 34)).near (Near.one (World.alloc wx (Obj.cells #[.string ⟨#[]⟩, .string ⟨#[]⟩, .string ⟨#[]⟩] 34))) q); replace B := Lib.hid (Near.go (Near.one (World.alloc wx (Obj.cells #[.string ⟨#[]⟩, .string ⟨#[]⟩, .string ⟨#[]⟩] 34))) (B.out.trans ((below_new wx (Obj.cells #[.string ⟨#[]⟩, .string ⟨#[]⟩, .string ⟨#[]⟩] 34)).mono B.out.size)) q (Nat.le_trans B.out.size (below_new wx (Obj.cells #[.string ⟨#[]⟩, .string ⟨#[]⟩, .string ⟨#[]⟩] 34)).size)); clear q; replace c00 := K0.out.at_ 0 _ rfl; replace c01 := K0.out.at_ 1 _ rfl; replace c02 := K0.out.at_ 2 _ rfl; replace c10 := K1.out.at_ 0 _ rfl; replace c11 := K1.out.at_ 1 _ rfl; replace c12 := K1.out.at_ 2 _ rfl; have d0 := K2.out.at_ 0 _ rfl; have d1 := K2.out.at_ 1 _ rfl; have d2 := K2.out.at_ 2 _ rfl; have z0 := K2.out.free 0; have z1 := K2.out.free 1; have z2 := K2.out.free 2)
        | fail "arm")
    all_goals
      go_wp2_with fail
      go_meet
      first
        | (with_reducible refine ⟨_, rfl, Blk.fresh _ _ _, ?_, ?_, ?_⟩; exact K0.out.alloc _; exact K1.out.alloc _; exact B.out.trans ((below_new _ _).mono B.out.size))
        | exact ⟨_, rfl, K2.out.set3 _ _ _, K0.out.else3 (Nat.ne_of_lt L0.out) _ _ _, K1.out.else3 (Nat.ne_of_lt L1.out) _ _ _, B.out.trans (below_else3 _ _ _ (Nat.le_of_lt L0.out) _ _ _)⟩
  case rest =>
    obtain ⟨g, rfl, k2, k0, k1, b⟩ := hcut
    replace K0 := Lib.hid k0
    replace K1 := Lib.hid k1
    have K2 := Lib.hid k2
    replace B := Lib.hid b
    clear k0 k1 k2 b L0 L1
    replace c00 := K0.out.at_ 0 _ rfl
    replace c01 := K0.out.at_ 1 _ rfl
    replace c02 := K0.out.at_ 2 _ rfl
    replace c10 := K1.out.at_ 0 _ rfl
    replace c11 := K1.out.at_ 1 _ rfl
    replace c12 := K1.out.at_ 2 _ rfl
    replace c20 := K2.out.at_ 0 _ rfl
    replace c21 := K2.out.at_ 1 _ rfl
    replace c22 := K2.out.at_ 2 _ rfl
    go_wp2_with (first
      | (go_at_call 48; (with_reducible refine (S3.out _ (Near.base (by first | exact Near.same _ | exact Near.one _) B.out)).mono ?_); rintro e wx ⟨rfl, q⟩; replace K0 := Lib.hid (K0.out.near (by first | exact Near.same _ | exact Near.one _) q); replace K1 := Lib.hid (K1.out.near (by first | exact Near.same _ | exact Near.one _) q); replace K2 := Lib.hid (K2.out.near (by first | exact Near.same _ | exact Near.one _) q); replace B := Lib.hid (Near.go (by first | exact Near.same _ | exact Near.one _) B.out q B.out.size); clear q; replace c00 := K0.out.at_ 0 _ rfl; replace c01 := K0.out.at_ 1 _ rfl; replace c02 := K0.out.at_ 2 _ rfl; replace c10 := K1.out.at_ 0 _ rfl; replace c11 := K1.out.at_ 1 _ rfl; replace c12 := K1.out.at_ 2 _ rfl; replace c20 := K2.out.at_ 0 _ rfl; replace c21 := K2.out.at_ 1 _ rfl; replace c22 := K2.out.at_ 2 _ rfl)
      | (go_at_call 44; (with_reducible refine (S4.out _ (Near.base (by first | exact Near.same _ | exact Near.one _) B.out)).mono ?_); rintro e wx ⟨rfl, q⟩; replace K0 := Lib.hid (K0.out.near (by first | exact Near.same _ | exact Near.one _) q); replace K1 := Lib.hid (K1.out.near (by first | exact Near.same _ | exact Near.one _) q); replace K2 := Lib.hid (K2.out.near (by first | exact Near.same _ | exact Near.one _) q); replace B := Lib.hid (Near.go (by first | exact Near.same _ | exact Near.one _) B.out q B.out.size); clear q; replace c00 := K0.out.at_ 0 _ rfl; replace c01 := K0.out.at_ 1 _ rfl; replace c02 := K0.out.at_ 2 _ rfl; replace c10 := K1.out.at_ 0 _ rfl; replace c11 := K1.out.at_ 1 _ rfl; replace c12 := K1.out.at_ 2 _ rfl; replace c20 := K2.out.at_ 0 _ rfl; replace c21 := K2.out.at_ 1 _ rfl; replace c22 := K2.out.at_ 2 _ rfl)
      | (go_at_call 42; (with_reducible refine (S5.out _ (Near.base (by first | exact Near.same _ | exact Near.one _) B.out)).mono ?_); rintro e wx ⟨rfl, q⟩; replace K0 := Lib.hid (K0.out.near (by first | exact Near.same _ | exact Near.one _) q); replace K1 := Lib.hid (K1.out.near (by first | exact Near.same _ | exact Near.one _) q); replace K2 := Lib.hid (K2.out.near (by first | exact Near.same _ | exact Near.one _) q); replace B := Lib.hid (Near.go (by first | exact Near.same _ | exact Near.one _) B.out q B.out.size); clear q; replace c00 := K0.out.at_ 0 _ rfl; replace c01 := K0.out.at_ 1 _ rfl; replace c02 := K0.out.at_ 2 _ rfl; replace c10 := K1.out.at_ 0 _ rfl; replace c11 := K1.out.at_ 1 _ rfl; replace c12 := K1.out.at_ 2 _ rfl; replace c20 := K2.out.at_ 0 _ rfl; replace c21 := K2.out.at_ 1 _ rfl; replace c22 := K2.out.at_ 2 _ rfl)
      | (go_at_call 51; (with_reducible refine (S6.out _ (Near.base (by first | exact Near.same _ | exact Near.one _) B.out)).mono ?_); rintro e wx ⟨rfl, q⟩; replace K0 := Lib.hid (K0.out.near (by first | exact Near.same _ | exact Near.one _) q); replace K1 := Lib.hid (K1.out.near (by first | exact Near.same _ | exact Near.one _) q); replace K2 := Lib.hid (K2.out.near (by first | exact Near.same _ | exact Near.one _) q); replace B := Lib.hid (Near.go (by first | exact Near.same _ | exact Near.one _) B.out q B.out.size); clear q; replace c00 := K0.out.at_ 0 _ rfl; replace c01 := K0.out.at_ 1 _ rfl; replace c02 := K0.out.at_ 2 _ rfl; replace c10 := K1.out.at_ 0 _ rfl; replace c11 := K1.out.at_ 1 _ rfl; replace c12 := K1.out.at_ 2 _ rfl; replace c20 := K2.out.at_ 0 _ rfl; replace c21 := K2.out.at_ 1 _ rfl; replace c22 := K2.out.at_ 2 _ rfl)
      | fail "arm")
    go_ret2
    exact ⟨rfl, B.out⟩

end Go.Proofs.YtajkeoapfkkjbaaGreatDoor
