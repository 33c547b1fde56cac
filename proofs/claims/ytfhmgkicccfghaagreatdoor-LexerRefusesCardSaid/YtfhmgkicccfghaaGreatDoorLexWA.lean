/- The walks of package lexer and of klippelaw51, over texts: bytes. -/
import Derived.Test.YtfhmgkicccfghaaGreatDoorShelf
import Derived.Test.YtfhmgkicccfghaaGreatDoorGPar
import Derived.Deep.RegionHeld3
import Derived.Laws.ResultCell
import Derived.Deep.Cut
import Derived.Deep.CutRange
import Derived.Deep.DeepCutAuto
import Derived.Outline
namespace Go.Proofs.YtfhmgkicccfghaaGreatDoor
set_option linter.all false
open Go.RowKit

set_option maxRecDepth 100000 in
set_option maxHeartbeats 4000000 in
theorem letter_of {n : Int} {b1 b2 b3 b4 : Bool} (w : World)
  (g1 : decide ((97 : Int) ≤ n) = b1)
  (g2 : decide (n ≤ 122) = b2)
  (g3 : decide ((65 : Int) ≤ n) = b3)
  (g4 : decide (n ≤ 90) = b4) :
  Calls Tryz.prog 48 #[.int .u8 n] w fun e w' => e = .returned (.bool ((b1 && b2) || (b3 && b4))) ∧ Below w.heap.size w w' := by
 have B := Lib.hid (Below.refl w.heap.size w)
 go_enter Tryz.func48, Tryz.ntmps48
 go_upto_region 1 with (fail)
 cases b1
 ·
  cases b3
  ·
   go_wp2
   go_ret
   exact ⟨rfl, B.out⟩
  ·
   cases b4
   ·
    go_wp2
    go_ret
    exact ⟨rfl, B.out⟩
   ·
    go_wp2
    go_ret
    exact ⟨rfl, B.out⟩
 ·
  cases b2
  ·
   cases b3
   ·
    go_wp2
    go_ret
    exact ⟨rfl, B.out⟩
   ·
    cases b4
    ·
     go_wp2
     go_ret
     exact ⟨rfl, B.out⟩
    ·
     go_wp2
     go_ret
     exact ⟨rfl, B.out⟩
  ·
   go_wp2
   go_ret
   exact ⟨rfl, B.out⟩

set_option maxRecDepth 100000 in
set_option maxHeartbeats 4000000 in
theorem kletter_of {n : Int} {b1 b2 b3 b4 : Bool} (w : World)
  (g1 : decide ((97 : Int) ≤ n) = b1)
  (g2 : decide (n ≤ 122) = b2)
  (g3 : decide ((65 : Int) ≤ n) = b3)
  (g4 : decide (n ≤ 90) = b4) :
  Calls Tryz.prog 55 #[.int .u8 n] w fun e w' => e = .returned (.bool ((b1 && b2) || (b3 && b4))) ∧ Below w.heap.size w w' := by
 have B := Lib.hid (Below.refl w.heap.size w)
 go_enter Tryz.func55, Tryz.ntmps55
 go_upto_region 1 with (fail)
 cases b1
 ·
  cases b3
  ·
   go_wp2
   go_ret
   exact ⟨rfl, B.out⟩
  ·
   cases b4
   ·
    go_wp2
    go_ret
    exact ⟨rfl, B.out⟩
   ·
    go_wp2
    go_ret
    exact ⟨rfl, B.out⟩
 ·
  cases b2
  ·
   cases b3
   ·
    go_wp2
    go_ret
    exact ⟨rfl, B.out⟩
   ·
    cases b4
    ·
     go_wp2
     go_ret
     exact ⟨rfl, B.out⟩
    ·
     go_wp2
     go_ret
     exact ⟨rfl, B.out⟩
  ·
   go_wp2
   go_ret
   exact ⟨rfl, B.out⟩

set_option maxRecDepth 100000 in
set_option maxHeartbeats 4000000 in
theorem digit_of {n : Int} {b1 b2 : Bool} (w : World)
  (g1 : decide ((48 : Int) ≤ n) = b1)
  (g2 : decide (n ≤ 57) = b2) :
  Calls Tryz.prog 51 #[.int .u8 n] w fun e w' => e = .returned (.bool (b1 && b2)) ∧ Below w.heap.size w w' := by
 have B := Lib.hid (Below.refl w.heap.size w)
 go_enter Tryz.func51, Tryz.ntmps51
 go_upto_region 1 with (fail)
 cases b1
 ·
  go_wp2
  go_ret
  exact ⟨rfl, B.out⟩
 ·
  cases b2
  ·
   go_wp2
   go_ret
   exact ⟨rfl, B.out⟩
  ·
   go_wp2
   go_ret
   exact ⟨rfl, B.out⟩

set_option maxRecDepth 100000 in
set_option maxHeartbeats 4000000 in
theorem kdigit_of {n : Int} {b1 b2 : Bool} (w : World)
  (g1 : decide ((48 : Int) ≤ n) = b1)
  (g2 : decide (n ≤ 57) = b2) :
  Calls Tryz.prog 56 #[.int .u8 n] w fun e w' => e = .returned (.bool (b1 && b2)) ∧ Below w.heap.size w w' := by
 have B := Lib.hid (Below.refl w.heap.size w)
 go_enter Tryz.func56, Tryz.ntmps56
 go_upto_region 1 with (fail)
 cases b1
 ·
  go_wp2
  go_ret
  exact ⟨rfl, B.out⟩
 ·
  cases b2
  ·
   go_wp2
   go_ret
   exact ⟨rfl, B.out⟩
  ·
   go_wp2
   go_ret
   exact ⟨rfl, B.out⟩

set_option maxRecDepth 100000 in
set_option maxHeartbeats 4000000 in
theorem isword_of {n : Int} {p0 p1 e0 : Bool} (w : World)
  (g0 : (n == 95) = e0)
  (h_p0 : Ret Tryz.prog w 48 #[.int .u8 n] (.bool p0))
  (h_p1 : Ret Tryz.prog w 51 #[.int .u8 n] (.bool p1)) :
  Calls Tryz.prog 50 #[.int .u8 n] w fun e w' => e = .returned (.bool ((p0 || p1) || e0)) ∧ Below w.heap.size w w' := by
 have H_P0 := Lib.hid h_p0
 have H_P1 := Lib.hid h_p1
 clear h_p0 h_p1
 have B := Lib.hid (Below.refl w.heap.size w)
 go_enter Tryz.func50, Tryz.ntmps50
 go_upto_region 1 with (fail)
 cases p0
 ·
  cases p1
  ·
   cases e0
   ·
    go_wp2_with (
     (first
     | (go_at_call 48; with_reducible refine (H_P0.out _ (baseI B.out)).mono ?_)
     | (go_at_call 51; with_reducible refine (H_P1.out _ (baseI B.out)).mono ?_)
     | fail "arm"); rintro e wx ⟨rfl, q⟩; replace B := Lib.hid (goI B.out q); clear q)
    go_ret
    exact ⟨rfl, B.out⟩
   ·
    go_wp2_with (
     (first
     | (go_at_call 48; with_reducible refine (H_P0.out _ (baseI B.out)).mono ?_)
     | (go_at_call 51; with_reducible refine (H_P1.out _ (baseI B.out)).mono ?_)
     | fail "arm"); rintro e wx ⟨rfl, q⟩; replace B := Lib.hid (goI B.out q); clear q)
    go_ret
    exact ⟨rfl, B.out⟩
  ·
   go_wp2_with (
    (first
    | (go_at_call 48; with_reducible refine (H_P0.out _ (baseI B.out)).mono ?_)
    | (go_at_call 51; with_reducible refine (H_P1.out _ (baseI B.out)).mono ?_)
    | fail "arm"); rintro e wx ⟨rfl, q⟩; replace B := Lib.hid (goI B.out q); clear q)
   go_ret
   exact ⟨rfl, B.out⟩
 ·
  go_wp2_with (
   (first
   | (go_at_call 48; with_reducible refine (H_P0.out _ (baseI B.out)).mono ?_)
   | fail "arm"); rintro e wx ⟨rfl, q⟩; replace B := Lib.hid (goI B.out q); clear q)
  go_ret
  exact ⟨rfl, B.out⟩

set_option maxRecDepth 100000 in
set_option maxHeartbeats 4000000 in
theorem isnum_of {n : Int} {p0 e0 e1 : Bool} (w : World)
  (g0 : (n == 46) = e0)
  (g1 : (n == 47) = e1)
  (h_p0 : Ret Tryz.prog w 51 #[.int .u8 n] (.bool p0)) :
  Calls Tryz.prog 52 #[.int .u8 n] w fun e w' => e = .returned (.bool ((p0 || e0) || e1)) ∧ Below w.heap.size w w' := by
 have H_P0 := Lib.hid h_p0
 clear h_p0
 have B := Lib.hid (Below.refl w.heap.size w)
 go_enter Tryz.func52, Tryz.ntmps52
 go_upto_region 1 with (fail)
 cases p0
 ·
  cases e0
  ·
   cases e1
   ·
    go_wp2_with (
     (first
     | (go_at_call 51; with_reducible refine (H_P0.out _ (baseI B.out)).mono ?_)
     | fail "arm"); rintro e wx ⟨rfl, q⟩; replace B := Lib.hid (goI B.out q); clear q)
    go_ret
    exact ⟨rfl, B.out⟩
   ·
    go_wp2_with (
     (first
     | (go_at_call 51; with_reducible refine (H_P0.out _ (baseI B.out)).mono ?_)
     | fail "arm"); rintro e wx ⟨rfl, q⟩; replace B := Lib.hid (goI B.out q); clear q)
    go_ret
    exact ⟨rfl, B.out⟩
  ·
   go_wp2_with (
    (first
    | (go_at_call 51; with_reducible refine (H_P0.out _ (baseI B.out)).mono ?_)
    | fail "arm"); rintro e wx ⟨rfl, q⟩; replace B := Lib.hid (goI B.out q); clear q)
   go_ret
   exact ⟨rfl, B.out⟩
 ·
  go_wp2_with (
   (first
   | (go_at_call 51; with_reducible refine (H_P0.out _ (baseI B.out)).mono ?_)
   | fail "arm"); rintro e wx ⟨rfl, q⟩; replace B := Lib.hid (goI B.out q); clear q)
  go_ret
  exact ⟨rfl, B.out⟩

end Go.Proofs.YtfhmgkicccfghaaGreatDoor
