/- The model's check and long of klippelaw16 for whatever texts. -/
import Derived.Test.YtajkeoapfkkjbaaGreatDoorGLinM
import Derived.Test.YtajkeoapfkkjbaaGreatDoorGLinK
namespace Go.Proofs.YtajkeoapfkkjbaaGreatDoor
set_option linter.all false
open Go.RowKit

theorem chk1_cases (T : ByteArray) : chk1 T = 0 ∨ chk1 T = 2 := by
  unfold chk1
  cases rightQ T
  · exact .inr rfl
  · exact .inl rfl

theorem mcheck_any (X Y Z : ByteArray) (hx : X.size ≤ 1000000) (hy : Y.size ≤ 1000000) (hz : Z.size ≤ 1000000) (w : World) (he : Env w) :
    Calls Tryz.prog 38 #[.agg #[.string X, .string Y, .string Z]] w fun e w' => e = .returned (.int .i64 (chkL X Y Z)) ∧ Below w.heap.size w w' := by
  have rx := fun W (hW : Below w.heap.size w W) => rcheck_any X W (he.below hW) hx
  have ry := fun W (hW : Below w.heap.size w W) => rcheck_any Y W (he.below hW) hy
  have rz := fun W (hW : Below w.heap.size w W) => rcheck_any Z W (he.below hW) hz
  unfold chkL chk3 chk1 err2
  have k2 : ((2 : Int) != 0) = true := rfl
  cases hX : rightQ X with
  | false =>
    simp only [hX] at rx
    exact mcheck_0 X Y Z 2 w k2 rx
  | true =>
  simp only [hX, if_true] at rx
  cases hY : rightQ Y with
  | false =>
    simp only [hY] at ry
    exact mcheck_1 X Y Z 2 w k2 rx ry
  | true =>
  simp only [hY, if_true] at ry
  cases hZ : rightQ Z with
  | false =>
    simp only [hZ] at rz
    exact mcheck_2 X Y Z 2 w k2 rx ry rz
  | true =>
  simp only [hZ, if_true] at rz
  cases iX : is0 X with
  | false => exact mcheck_ok0 X Y Z w rx ry rz iX
  | true =>
  cases iY : is0 Y with
  | false => exact mcheck_ok1 X Y Z w rx ry rz iX iY
  | true =>
  cases iZ : is0 Z with
  | false => exact mcheck_ok2 X Y Z w rx ry rz iX iY iZ
  | true => exact mcheck_zero X Y Z w rx ry rz iX iY iZ

/-- A vector with a number of more than 30 bytes. -/
def longB (X Y Z : ByteArray) : Bool := decide (30 < X.size) || (decide (30 < Y.size) || decide (30 < Z.size))

theorem longB_false {X Y Z : ByteArray} (h : longB X Y Z = false) : X.size ≤ 30 ∧ Y.size ≤ 30 ∧ Z.size ≤ 30 := by
  unfold longB at h
  simp only [Bool.or_eq_false_iff, decide_eq_false_iff_not] at h
  omega

theorem mlong_any (X Y Z : ByteArray) (w : World) :
    Calls Tryz.prog 37 #[.agg #[.string X, .string Y, .string Z]] w fun e w' => e = .returned (.bool (longB X Y Z)) ∧ Below w.heap.size w w' := by
  have d1 : ∀ {T : ByteArray}, 30 < T.size → decide ((T.size : Int) > 30) = true ∧ decide (T.size > 30) = true := fun h => ⟨decide_eq_true (by omega), decide_eq_true (by omega)⟩
  have d0 : ∀ {T : ByteArray}, ¬ 30 < T.size → decide ((T.size : Int) > 30) = false ∧ decide (T.size > 30) = false := fun h => ⟨decide_eq_false (by omega), decide_eq_false (by omega)⟩
  unfold longB
  by_cases hx : 30 < X.size
  · rw [decide_eq_true hx]
    exact mlong_0 X Y Z w (d1 hx).1 (d1 hx).2
  by_cases hy : 30 < Y.size
  · rw [decide_eq_false hx, decide_eq_true hy]
    exact mlong_1 X Y Z w (d0 hx).1 (d1 hy).1 (d0 hx).2 (d1 hy).2
  by_cases hz : 30 < Z.size
  · rw [decide_eq_false hx, decide_eq_false hy, decide_eq_true hz]
    exact mlong_2 X Y Z w (d0 hx).1 (d0 hy).1 (d1 hz).1 (d0 hx).2 (d0 hy).2 (d1 hz).2
  · rw [decide_eq_false hx, decide_eq_false hy, decide_eq_false hz]
    exact mlong_no X Y Z w (d0 hx).1 (d0 hy).1 (d0 hz).1 (d0 hx).2 (d0 hy).2 (d0 hz).2

end Go.Proofs.YtajkeoapfkkjbaaGreatDoor
