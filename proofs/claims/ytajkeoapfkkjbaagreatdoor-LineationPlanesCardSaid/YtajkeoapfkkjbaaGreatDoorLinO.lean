/- The walk of lineation.octant. -/
import Derived.Test.YtajkeoapfkkjbaaGreatDoorLinY
import Derived.Outline
namespace Go.Proofs.YtajkeoapfkkjbaaGreatDoor
set_option linter.all false
open Go.RowKit

theorem still_then {f : FuncId} {args : Array Value} {w : World} {k l : Nat} {r : Value} (c : ∀ W, Calls Tryz.prog f args W fun e w' => e = .returned r ∧ w' = W) :
    Calls Tryz.prog f args (w.drewN (k + l)) fun e w' => e = .returned r ∧ ∃ m, w' = w.drewN (k + m) :=
  (c _).mono fun _ _ hw => ⟨hw.1, l, hw.2⟩

set_option maxRecDepth 100000 in
set_option maxHeartbeats 2000000 in
theorem loct_mm (P Q : ByteArray) (w : World)
    (s1 : ∀ W, Calls Tryz.prog 43 #[.string Q] W fun e w' => e = .returned (.int .i64 (-1)) ∧ w' = W)
    (s2 : ∀ W, Calls Tryz.prog 43 #[.string P] W fun e w' => e = .returned (.int .i64 (-1)) ∧ w' = W) :
    Calls Tryz.prog 57 #[.string P, .string Q] w fun e w' => e = .returned (.int .i64 5) ∧ Below w.heap.size w w' := by
  have S1 := Lib.hid s1
  have S2 := Lib.hid s2
  clear s1 s2
  have k0 := Blk.fresh w #[.int .i64 5, .int .i64 4, .int .i64 3, .int .i64 6, .int .i64 0, .int .i64 2, .int .i64 7, .int .i64 0, .int .i64 1] 109
  have b0 : Below w.heap.size w (w.alloc (Obj.cells #[.int .i64 5, .int .i64 4, .int .i64 3, .int .i64 6, .int .i64 0, .int .i64 2, .int .i64 7, .int .i64 0, .int .i64 1] 109)) := ((Below.refl _ _).alloc (Nat.le_refl _) _)
  have K0 := Lib.hid k0
  have B := Lib.hid b0
  clear b0 k0
  have u0y : IntKind.i64.wrap (-1 + 1) = 0 := by decide
  go_enter Tryz.func57, Tryz.ntmps57
  go_upto_region 2 with (fail)
  generalize (w.alloc (Obj.cells #[.int .i64 5, .int .i64 4, .int .i64 3, .int .i64 6, .int .i64 0, .int .i64 2, .int .i64 7, .int .i64 0, .int .i64 1] 109)) = W0 at *
  have c0 := K0.out.at_ 0 _ rfl
  go_quiet (first
      | (go_at_call_of 43 (Value.string Q); first | exact Calls.quiet_of_same (S1.out _) | exact still_then S1.out)
      | (go_at_call_of 43 (Value.string P); first | exact Calls.quiet_of_same (S2.out _) | exact still_then S2.out)
      | fail "arm")
  go_wp2
  go_ret
  exact ⟨rfl, B.out.trans ((Drew.of _ _).below _)⟩

set_option maxRecDepth 100000 in
set_option maxHeartbeats 2000000 in
theorem loct_zm (P Q : ByteArray) (w : World)
    (s1 : ∀ W, Calls Tryz.prog 43 #[.string Q] W fun e w' => e = .returned (.int .i64 (-1)) ∧ w' = W)
    (s2 : ∀ W, Calls Tryz.prog 43 #[.string P] W fun e w' => e = .returned (.int .i64 0) ∧ w' = W) :
    Calls Tryz.prog 57 #[.string P, .string Q] w fun e w' => e = .returned (.int .i64 4) ∧ Below w.heap.size w w' := by
  have S1 := Lib.hid s1
  have S2 := Lib.hid s2
  clear s1 s2
  have k0 := Blk.fresh w #[.int .i64 5, .int .i64 4, .int .i64 3, .int .i64 6, .int .i64 0, .int .i64 2, .int .i64 7, .int .i64 0, .int .i64 1] 109
  have b0 : Below w.heap.size w (w.alloc (Obj.cells #[.int .i64 5, .int .i64 4, .int .i64 3, .int .i64 6, .int .i64 0, .int .i64 2, .int .i64 7, .int .i64 0, .int .i64 1] 109)) := ((Below.refl _ _).alloc (Nat.le_refl _) _)
  have K0 := Lib.hid k0
  have B := Lib.hid b0
  clear b0 k0
  have u0y : IntKind.i64.wrap (-1 + 1) = 0 := by decide
  have u1x : IntKind.i64.wrap (0 + 1) = 1 := by decide
  go_enter Tryz.func57, Tryz.ntmps57
  go_upto_region 2 with (fail)
  generalize (w.alloc (Obj.cells #[.int .i64 5, .int .i64 4, .int .i64 3, .int .i64 6, .int .i64 0, .int .i64 2, .int .i64 7, .int .i64 0, .int .i64 1] 109)) = W0 at *
  have c0 := K0.out.at_ 1 _ rfl
  go_quiet (first
      | (go_at_call_of 43 (Value.string Q); first | exact Calls.quiet_of_same (S1.out _) | exact still_then S1.out)
      | (go_at_call_of 43 (Value.string P); first | exact Calls.quiet_of_same (S2.out _) | exact still_then S2.out)
      | fail "arm")
  go_wp2
  go_ret
  exact ⟨rfl, B.out.trans ((Drew.of _ _).below _)⟩

set_option maxRecDepth 100000 in
set_option maxHeartbeats 2000000 in
theorem loct_pm (P Q : ByteArray) (w : World)
    (s1 : ∀ W, Calls Tryz.prog 43 #[.string Q] W fun e w' => e = .returned (.int .i64 (-1)) ∧ w' = W)
    (s2 : ∀ W, Calls Tryz.prog 43 #[.string P] W fun e w' => e = .returned (.int .i64 1) ∧ w' = W) :
    Calls Tryz.prog 57 #[.string P, .string Q] w fun e w' => e = .returned (.int .i64 3) ∧ Below w.heap.size w w' := by
  have S1 := Lib.hid s1
  have S2 := Lib.hid s2
  clear s1 s2
  have k0 := Blk.fresh w #[.int .i64 5, .int .i64 4, .int .i64 3, .int .i64 6, .int .i64 0, .int .i64 2, .int .i64 7, .int .i64 0, .int .i64 1] 109
  have b0 : Below w.heap.size w (w.alloc (Obj.cells #[.int .i64 5, .int .i64 4, .int .i64 3, .int .i64 6, .int .i64 0, .int .i64 2, .int .i64 7, .int .i64 0, .int .i64 1] 109)) := ((Below.refl _ _).alloc (Nat.le_refl _) _)
  have K0 := Lib.hid k0
  have B := Lib.hid b0
  clear b0 k0
  have u0y : IntKind.i64.wrap (-1 + 1) = 0 := by decide
  have u1x : IntKind.i64.wrap (1 + 1) = 2 := by decide
  go_enter Tryz.func57, Tryz.ntmps57
  go_upto_region 2 with (fail)
  generalize (w.alloc (Obj.cells #[.int .i64 5, .int .i64 4, .int .i64 3, .int .i64 6, .int .i64 0, .int .i64 2, .int .i64 7, .int .i64 0, .int .i64 1] 109)) = W0 at *
  have c0 := K0.out.at_ 2 _ rfl
  go_quiet (first
      | (go_at_call_of 43 (Value.string Q); first | exact Calls.quiet_of_same (S1.out _) | exact still_then S1.out)
      | (go_at_call_of 43 (Value.string P); first | exact Calls.quiet_of_same (S2.out _) | exact still_then S2.out)
      | fail "arm")
  go_wp2
  go_ret
  exact ⟨rfl, B.out.trans ((Drew.of _ _).below _)⟩

set_option maxRecDepth 100000 in
set_option maxHeartbeats 2000000 in
theorem loct_mz (P Q : ByteArray) (w : World)
    (s1 : ∀ W, Calls Tryz.prog 43 #[.string Q] W fun e w' => e = .returned (.int .i64 0) ∧ w' = W)
    (s2 : ∀ W, Calls Tryz.prog 43 #[.string P] W fun e w' => e = .returned (.int .i64 (-1)) ∧ w' = W) :
    Calls Tryz.prog 57 #[.string P, .string Q] w fun e w' => e = .returned (.int .i64 6) ∧ Below w.heap.size w w' := by
  have S1 := Lib.hid s1
  have S2 := Lib.hid s2
  clear s1 s2
  have k0 := Blk.fresh w #[.int .i64 5, .int .i64 4, .int .i64 3, .int .i64 6, .int .i64 0, .int .i64 2, .int .i64 7, .int .i64 0, .int .i64 1] 109
  have b0 : Below w.heap.size w (w.alloc (Obj.cells #[.int .i64 5, .int .i64 4, .int .i64 3, .int .i64 6, .int .i64 0, .int .i64 2, .int .i64 7, .int .i64 0, .int .i64 1] 109)) := ((Below.refl _ _).alloc (Nat.le_refl _) _)
  have K0 := Lib.hid k0
  have B := Lib.hid b0
  clear b0 k0
  have u0y : IntKind.i64.wrap (0 + 1) = 1 := by decide
  have u1x : IntKind.i64.wrap (-1 + 1) = 0 := by decide
  go_enter Tryz.func57, Tryz.ntmps57
  go_upto_region 2 with (fail)
  generalize (w.alloc (Obj.cells #[.int .i64 5, .int .i64 4, .int .i64 3, .int .i64 6, .int .i64 0, .int .i64 2, .int .i64 7, .int .i64 0, .int .i64 1] 109)) = W0 at *
  have c0 := K0.out.at_ 3 _ rfl
  go_quiet (first
      | (go_at_call_of 43 (Value.string Q); first | exact Calls.quiet_of_same (S1.out _) | exact still_then S1.out)
      | (go_at_call_of 43 (Value.string P); first | exact Calls.quiet_of_same (S2.out _) | exact still_then S2.out)
      | fail "arm")
  go_wp2
  go_ret
  exact ⟨rfl, B.out.trans ((Drew.of _ _).below _)⟩

set_option maxRecDepth 100000 in
set_option maxHeartbeats 2000000 in
theorem loct_zz (P Q : ByteArray) (w : World)
    (s1 : ∀ W, Calls Tryz.prog 43 #[.string Q] W fun e w' => e = .returned (.int .i64 0) ∧ w' = W)
    (s2 : ∀ W, Calls Tryz.prog 43 #[.string P] W fun e w' => e = .returned (.int .i64 0) ∧ w' = W) :
    Calls Tryz.prog 57 #[.string P, .string Q] w fun e w' => e = .returned (.int .i64 0) ∧ Below w.heap.size w w' := by
  have S1 := Lib.hid s1
  have S2 := Lib.hid s2
  clear s1 s2
  have k0 := Blk.fresh w #[.int .i64 5, .int .i64 4, .int .i64 3, .int .i64 6, .int .i64 0, .int .i64 2, .int .i64 7, .int .i64 0, .int .i64 1] 109
  have b0 : Below w.heap.size w (w.alloc (Obj.cells #[.int .i64 5, .int .i64 4, .int .i64 3, .int .i64 6, .int .i64 0, .int .i64 2, .int .i64 7, .int .i64 0, .int .i64 1] 109)) := ((Below.refl _ _).alloc (Nat.le_refl _) _)
  have K0 := Lib.hid k0
  have B := Lib.hid b0
  clear b0 k0
  have u0y : IntKind.i64.wrap (0 + 1) = 1 := by decide
  go_enter Tryz.func57, Tryz.ntmps57
  go_upto_region 2 with (fail)
  generalize (w.alloc (Obj.cells #[.int .i64 5, .int .i64 4, .int .i64 3, .int .i64 6, .int .i64 0, .int .i64 2, .int .i64 7, .int .i64 0, .int .i64 1] 109)) = W0 at *
  have c0 := K0.out.at_ 4 _ rfl
  go_quiet (first
      | (go_at_call_of 43 (Value.string Q); first | exact Calls.quiet_of_same (S1.out _) | exact still_then S1.out)
      | (go_at_call_of 43 (Value.string P); first | exact Calls.quiet_of_same (S2.out _) | exact still_then S2.out)
      | fail "arm")
  go_wp2
  go_ret
  exact ⟨rfl, B.out.trans ((Drew.of _ _).below _)⟩

set_option maxRecDepth 100000 in
set_option maxHeartbeats 2000000 in
theorem loct_pz (P Q : ByteArray) (w : World)
    (s1 : ∀ W, Calls Tryz.prog 43 #[.string Q] W fun e w' => e = .returned (.int .i64 0) ∧ w' = W)
    (s2 : ∀ W, Calls Tryz.prog 43 #[.string P] W fun e w' => e = .returned (.int .i64 1) ∧ w' = W) :
    Calls Tryz.prog 57 #[.string P, .string Q] w fun e w' => e = .returned (.int .i64 2) ∧ Below w.heap.size w w' := by
  have S1 := Lib.hid s1
  have S2 := Lib.hid s2
  clear s1 s2
  have k0 := Blk.fresh w #[.int .i64 5, .int .i64 4, .int .i64 3, .int .i64 6, .int .i64 0, .int .i64 2, .int .i64 7, .int .i64 0, .int .i64 1] 109
  have b0 : Below w.heap.size w (w.alloc (Obj.cells #[.int .i64 5, .int .i64 4, .int .i64 3, .int .i64 6, .int .i64 0, .int .i64 2, .int .i64 7, .int .i64 0, .int .i64 1] 109)) := ((Below.refl _ _).alloc (Nat.le_refl _) _)
  have K0 := Lib.hid k0
  have B := Lib.hid b0
  clear b0 k0
  have u0y : IntKind.i64.wrap (0 + 1) = 1 := by decide
  have u1x : IntKind.i64.wrap (1 + 1) = 2 := by decide
  go_enter Tryz.func57, Tryz.ntmps57
  go_upto_region 2 with (fail)
  generalize (w.alloc (Obj.cells #[.int .i64 5, .int .i64 4, .int .i64 3, .int .i64 6, .int .i64 0, .int .i64 2, .int .i64 7, .int .i64 0, .int .i64 1] 109)) = W0 at *
  have c0 := K0.out.at_ 5 _ rfl
  go_quiet (first
      | (go_at_call_of 43 (Value.string Q); first | exact Calls.quiet_of_same (S1.out _) | exact still_then S1.out)
      | (go_at_call_of 43 (Value.string P); first | exact Calls.quiet_of_same (S2.out _) | exact still_then S2.out)
      | fail "arm")
  go_wp2
  go_ret
  exact ⟨rfl, B.out.trans ((Drew.of _ _).below _)⟩

set_option maxRecDepth 100000 in
set_option maxHeartbeats 2000000 in
theorem loct_mp (P Q : ByteArray) (w : World)
    (s1 : ∀ W, Calls Tryz.prog 43 #[.string Q] W fun e w' => e = .returned (.int .i64 1) ∧ w' = W)
    (s2 : ∀ W, Calls Tryz.prog 43 #[.string P] W fun e w' => e = .returned (.int .i64 (-1)) ∧ w' = W) :
    Calls Tryz.prog 57 #[.string P, .string Q] w fun e w' => e = .returned (.int .i64 7) ∧ Below w.heap.size w w' := by
  have S1 := Lib.hid s1
  have S2 := Lib.hid s2
  clear s1 s2
  have k0 := Blk.fresh w #[.int .i64 5, .int .i64 4, .int .i64 3, .int .i64 6, .int .i64 0, .int .i64 2, .int .i64 7, .int .i64 0, .int .i64 1] 109
  have b0 : Below w.heap.size w (w.alloc (Obj.cells #[.int .i64 5, .int .i64 4, .int .i64 3, .int .i64 6, .int .i64 0, .int .i64 2, .int .i64 7, .int .i64 0, .int .i64 1] 109)) := ((Below.refl _ _).alloc (Nat.le_refl _) _)
  have K0 := Lib.hid k0
  have B := Lib.hid b0
  clear b0 k0
  have u0y : IntKind.i64.wrap (1 + 1) = 2 := by decide
  have u1x : IntKind.i64.wrap (-1 + 1) = 0 := by decide
  go_enter Tryz.func57, Tryz.ntmps57
  go_upto_region 2 with (fail)
  generalize (w.alloc (Obj.cells #[.int .i64 5, .int .i64 4, .int .i64 3, .int .i64 6, .int .i64 0, .int .i64 2, .int .i64 7, .int .i64 0, .int .i64 1] 109)) = W0 at *
  have c0 := K0.out.at_ 6 _ rfl
  go_quiet (first
      | (go_at_call_of 43 (Value.string Q); first | exact Calls.quiet_of_same (S1.out _) | exact still_then S1.out)
      | (go_at_call_of 43 (Value.string P); first | exact Calls.quiet_of_same (S2.out _) | exact still_then S2.out)
      | fail "arm")
  go_wp2
  go_ret
  exact ⟨rfl, B.out.trans ((Drew.of _ _).below _)⟩

set_option maxRecDepth 100000 in
set_option maxHeartbeats 2000000 in
theorem loct_zp (P Q : ByteArray) (w : World)
    (s1 : ∀ W, Calls Tryz.prog 43 #[.string Q] W fun e w' => e = .returned (.int .i64 1) ∧ w' = W)
    (s2 : ∀ W, Calls Tryz.prog 43 #[.string P] W fun e w' => e = .returned (.int .i64 0) ∧ w' = W) :
    Calls Tryz.prog 57 #[.string P, .string Q] w fun e w' => e = .returned (.int .i64 0) ∧ Below w.heap.size w w' := by
  have S1 := Lib.hid s1
  have S2 := Lib.hid s2
  clear s1 s2
  have k0 := Blk.fresh w #[.int .i64 5, .int .i64 4, .int .i64 3, .int .i64 6, .int .i64 0, .int .i64 2, .int .i64 7, .int .i64 0, .int .i64 1] 109
  have b0 : Below w.heap.size w (w.alloc (Obj.cells #[.int .i64 5, .int .i64 4, .int .i64 3, .int .i64 6, .int .i64 0, .int .i64 2, .int .i64 7, .int .i64 0, .int .i64 1] 109)) := ((Below.refl _ _).alloc (Nat.le_refl _) _)
  have K0 := Lib.hid k0
  have B := Lib.hid b0
  clear b0 k0
  have u0y : IntKind.i64.wrap (1 + 1) = 2 := by decide
  have u1x : IntKind.i64.wrap (0 + 1) = 1 := by decide
  go_enter Tryz.func57, Tryz.ntmps57
  go_upto_region 2 with (fail)
  generalize (w.alloc (Obj.cells #[.int .i64 5, .int .i64 4, .int .i64 3, .int .i64 6, .int .i64 0, .int .i64 2, .int .i64 7, .int .i64 0, .int .i64 1] 109)) = W0 at *
  have c0 := K0.out.at_ 7 _ rfl
  go_quiet (first
      | (go_at_call_of 43 (Value.string Q); first | exact Calls.quiet_of_same (S1.out _) | exact still_then S1.out)
      | (go_at_call_of 43 (Value.string P); first | exact Calls.quiet_of_same (S2.out _) | exact still_then S2.out)
      | fail "arm")
  go_wp2
  go_ret
  exact ⟨rfl, B.out.trans ((Drew.of _ _).below _)⟩

set_option maxRecDepth 100000 in
set_option maxHeartbeats 2000000 in
theorem loct_pp (P Q : ByteArray) (w : World)
    (s1 : ∀ W, Calls Tryz.prog 43 #[.string Q] W fun e w' => e = .returned (.int .i64 1) ∧ w' = W)
    (s2 : ∀ W, Calls Tryz.prog 43 #[.string P] W fun e w' => e = .returned (.int .i64 1) ∧ w' = W) :
    Calls Tryz.prog 57 #[.string P, .string Q] w fun e w' => e = .returned (.int .i64 1) ∧ Below w.heap.size w w' := by
  have S1 := Lib.hid s1
  have S2 := Lib.hid s2
  clear s1 s2
  have k0 := Blk.fresh w #[.int .i64 5, .int .i64 4, .int .i64 3, .int .i64 6, .int .i64 0, .int .i64 2, .int .i64 7, .int .i64 0, .int .i64 1] 109
  have b0 : Below w.heap.size w (w.alloc (Obj.cells #[.int .i64 5, .int .i64 4, .int .i64 3, .int .i64 6, .int .i64 0, .int .i64 2, .int .i64 7, .int .i64 0, .int .i64 1] 109)) := ((Below.refl _ _).alloc (Nat.le_refl _) _)
  have K0 := Lib.hid k0
  have B := Lib.hid b0
  clear b0 k0
  have u0y : IntKind.i64.wrap (1 + 1) = 2 := by decide
  go_enter Tryz.func57, Tryz.ntmps57
  go_upto_region 2 with (fail)
  generalize (w.alloc (Obj.cells #[.int .i64 5, .int .i64 4, .int .i64 3, .int .i64 6, .int .i64 0, .int .i64 2, .int .i64 7, .int .i64 0, .int .i64 1] 109)) = W0 at *
  have c0 := K0.out.at_ 8 _ rfl
  go_quiet (first
      | (go_at_call_of 43 (Value.string Q); first | exact Calls.quiet_of_same (S1.out _) | exact still_then S1.out)
      | (go_at_call_of 43 (Value.string P); first | exact Calls.quiet_of_same (S2.out _) | exact still_then S2.out)
      | fail "arm")
  go_wp2
  go_ret
  exact ⟨rfl, B.out.trans ((Drew.of _ _).below _)⟩

end Go.Proofs.YtajkeoapfkkjbaaGreatDoor
