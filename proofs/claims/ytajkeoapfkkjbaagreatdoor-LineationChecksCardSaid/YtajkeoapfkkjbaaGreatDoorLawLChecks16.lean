/- LineationChecks returns true. -/
import Derived.Test.YtajkeoapfkkjbaaGreatDoorLawLin
import Derived.Test.YtajkeoapfkkjbaaGreatDoorLinA
import Derived.Test.YtajkeoapfkkjbaaGreatDoorWChecks16
namespace Go.Proofs.YtajkeoapfkkjbaaGreatDoor
set_option linter.all false
open Go.RowKit

theorem checks16_walk (X1 X2 X3 Y1 Y2 Y3 : ByteArray) (w : World) (he : Env w) :
    Calls Tryz.prog 11 #[.agg #[.string X1, .string X2, .string X3], .agg #[.string Y1, .string Y2, .string Y3]] w fun e w' => e = .returned (.bool true) ∧ Below w.heap.size w w' := by
  have l0 := fun W (_ : Below w.heap.size w W) => mlong_any X1 X2 X3 W
  have l1 := fun W (_ : Below w.heap.size w W) => mlong_any Y1 Y2 Y3 W
  cases e1 : longB X1 X2 X3 with
  | true =>
    rw [e1] at l0
    exact checks_l1 _ _ _ _ _ _ w (fun W hW => known16 W (he.below hW)) l0
  | false =>
  rw [e1] at l0
  cases e2 : longB Y1 Y2 Y3 with
  | true =>
    rw [e2] at l1
    exact checks_l2 _ _ _ _ _ _ w (fun W hW => known16 W (he.below hW)) l0 l1
  | false =>
  rw [e2] at l1
  obtain ⟨x1, x2, x3⟩ := longB_false e1
  obtain ⟨y1, y2, y3⟩ := longB_false e2
  have a1 : X1.size ≤ 1000000 := by omega
  have a2 : X2.size ≤ 1000000 := by omega
  have a3 : X3.size ≤ 1000000 := by omega
  have a4 : Y1.size ≤ 1000000 := by omega
  have a5 : Y2.size ≤ 1000000 := by omega
  have a6 : Y3.size ≤ 1000000 := by omega
  have cu := fun W (hW : Below w.heap.size w W) => mcheck_any X1 X2 X3 a1 a2 a3 W (he.below hW)
  have cv := fun W (hW : Below w.heap.size w W) => mcheck_any Y1 Y2 Y3 a4 a5 a6 W (he.below hW)
  have lc := fun W (hW : Below w.heap.size w W) => lcheck_any X1 X2 X3 a1 a2 a3 W (he.below hW)
  by_cases k1 : chkL X1 X2 X3 = 0
  · rw [k1] at cu lc
    by_cases k2 : chkL Y1 Y2 Y3 = 0
    · rw [k2] at cv
      exact checks_ok _ _ _ _ _ _ w (fun W hW => known16 W (he.below hW)) l0 l1 cu cv lc
    · have er : err2 (chkL X1 X2 X3) (chkL Y1 Y2 Y3) = chkL Y1 Y2 Y3 := by unfold err2; rw [if_pos k1]
      have ek : err2 (chkL X1 X2 X3) (chkL Y1 Y2 Y3) ≠ 0 := by rw [er]; exact k2
      exact checks_v _ _ _ _ _ _ (chkL Y1 Y2 Y3) w (beq_eq_false_iff_ne.2 k2) (fun W hW => known16 W (he.below hW)) l0 l1 cu cv lc (fun W hW => er ▸ esame X1 X2 X3 Y1 Y2 Y3 a1 a2 a3 a4 a5 a6 ek W (he.below hW)) (fun W hW => er ▸ ectrend X1 X2 X3 Y1 Y2 Y3 a1 a2 a3 a4 a5 a6 ek W (he.below hW)) (fun W hW => er ▸ ecplunge X1 X2 X3 Y1 Y2 Y3 a1 a2 a3 a4 a5 a6 ek W (he.below hW)) (fun W hW => er ▸ eangle X1 X2 X3 Y1 Y2 Y3 a1 a2 a3 a4 a5 a6 ek W (he.below hW)) (fun W hW => er ▸ ecang X1 X2 X3 Y1 Y2 Y3 X1 X2 X3 X1 X2 X3 a1 a2 a3 a4 a5 a6 ek W (he.below hW)) (fun W hW => er ▸ elies X1 X2 X3 Y1 Y2 Y3 a1 a2 a3 a4 a5 a6 ek W (he.below hW)) (fun W hW => er ▸ eisect X1 X2 X3 Y1 Y2 Y3 a1 a2 a3 a4 a5 a6 ek W (he.below hW)) (fun W hW => er ▸ epitch X1 X2 X3 Y1 Y2 Y3 a1 a2 a3 a4 a5 a6 ek W (he.below hW)) (fun W hW => er ▸ einter X1 X2 X3 Y1 Y2 Y3 a1 a2 a3 a4 a5 a6 ek W (he.below hW))
  · have er : err2 (chkL X1 X2 X3) (chkL Y1 Y2 Y3) = chkL X1 X2 X3 := by unfold err2; rw [if_neg k1]
    have ek : err2 (chkL X1 X2 X3) (chkL Y1 Y2 Y3) ≠ 0 := by rw [er]; exact k1
    exact checks_u _ _ _ _ _ _ (chkL X1 X2 X3) w (beq_eq_false_iff_ne.2 k1) (fun W hW => known16 W (he.below hW)) l0 l1 cu lc (fun W hW => er ▸ esame X1 X2 X3 Y1 Y2 Y3 a1 a2 a3 a4 a5 a6 ek W (he.below hW)) (fun W hW => er ▸ ectrend X1 X2 X3 Y1 Y2 Y3 a1 a2 a3 a4 a5 a6 ek W (he.below hW)) (fun W hW => er ▸ ecplunge X1 X2 X3 Y1 Y2 Y3 a1 a2 a3 a4 a5 a6 ek W (he.below hW)) (fun W hW => er ▸ eangle X1 X2 X3 Y1 Y2 Y3 a1 a2 a3 a4 a5 a6 ek W (he.below hW)) (fun W hW => er ▸ ecang X1 X2 X3 Y1 Y2 Y3 X1 X2 X3 X1 X2 X3 a1 a2 a3 a4 a5 a6 ek W (he.below hW)) (fun W hW => er ▸ elies X1 X2 X3 Y1 Y2 Y3 a1 a2 a3 a4 a5 a6 ek W (he.below hW)) (fun W hW => er ▸ eisect X1 X2 X3 Y1 Y2 Y3 a1 a2 a3 a4 a5 a6 ek W (he.below hW)) (fun W hW => er ▸ epitch X1 X2 X3 Y1 Y2 Y3 a1 a2 a3 a4 a5 a6 ek W (he.below hW)) (fun W hW => er ▸ einter X1 X2 X3 Y1 Y2 Y3 a1 a2 a3 a4 a5 a6 ek W (he.below hW)) (fun W hW => eof X1 X2 X3 a1 a2 a3 k1 W (he.below hW)) (fun W hW => etrend X1 X2 X3 a1 a2 a3 k1 W (he.below hW)) (fun W hW => eplunge X1 X2 X3 a1 a2 a3 k1 W (he.below hW))

end Go.Proofs.YtajkeoapfkkjbaaGreatDoor
