/- SlipChecks returns true. -/
import Derived.Test.YtopilnlniidejaaGreatDoorSlipJ2
import Derived.Test.YtopilnlniidejaaGreatDoorSlip9C
namespace Go.Proofs.YtopilnlniidejaaGreatDoor
set_option linter.all false
open Go.RowKit

theorem checks_walk (A S : T3) (A0 : ByteArray) (w : World) (he : Env w) :
  Calls Tryz.prog 6 #[.agg #[.string A.x, .string A.y, .string A.z, .string A0, .string S.x, .string S.y, .string S.z]] w fun e w' => e = .returned (.bool true) ∧ Below w.heap.size w w' := by
 have knw := fun W (hW : Below w.heap.size w W) => known42 W (he.below hW)
 have hbr := fun W b (hb : Blk W b #[.string A.x, .string A.y, .string A.z, .string S.x, .string S.y, .string S.z] 24) (_ : Below w.heap.size w W) => lbrief_any [A, S] (by simp) W b hb
 cases hl : ([A, S].all fun v => !v.long) with
 | false =>
  rw [hl] at hbr
  exact checks_long1 _ _ _ _ _ _ _ w knw hbr
 | true =>
 rw [hl] at hbr
 cases hm : decide ((8 : Int) < (A0.size : Int)) with
 | true => exact checks_long2 _ _ _ _ _ _ _ w hm knw hbr
 | false =>
 have h0 : A0.size ≤ 8 := by
  rw [decide_eq_false_iff_not] at hm
  omega
 simp only [List.all_cons, List.all_nil, Bool.and_true, Bool.and_eq_true, Bool.not_eq_true'] at hl
 obtain ⟨la, ls⟩ := hl
 have sa := smallT_of la
 have ss := smallT_of ls
 -- whatever the error is
 have main : ∀ wt : Int, (∀ W, Env W → Calls Tryz.prog 31 #[.agg #[.string A.x, .string A.y, .string A.z, .string A0, .string S.x, .string S.y, .string S.z]] W fun e w' => e = .returned (.int .i64 wt) ∧ Below W.heap.size W w') →
   (∀ W, Env W → Calls Tryz.prog 32 #[.agg #[.string A.x, .string A.y, .string A.z, .string A0, .string S.x, .string S.y, .string S.z]] W fun e w' => e = .returned (.int .i64 wt) ∧ Below W.heap.size W w') →
   Calls Tryz.prog 6 #[.agg #[.string A.x, .string A.y, .string A.z, .string A0, .string S.x, .string S.y, .string S.z]] w fun e w' => e = .returned (.bool true) ∧ Below w.heap.size w w' := by
  intro wt hlc hsc
  have lc := fun W (hW : Below w.heap.size w W) => hlc W (he.below hW)
  have sc := fun W (hW : Below w.heap.size w W) => hsc W (he.below hW)
  have sc2 := fun V (hV : Below w.heap.size w V) W (hW : Below V.heap.size V W) => hsc W ((he.below hV).below hW)
  by_cases h : wt = 0
  ·exact checks_of (ok := true) w hm (h1 := fun _ => by simp [h]) (h_kn := knw) (h_br := hbr) (h_lc := lc) (h_sc := sc)
  ·have hz : (wt != 0) = true := by simp [h]
   exact checks_of (ok := false) w hm (h2 := fun _ => by simp [h]) (h_kn := knw) (h_br := hbr) (h_lc := lc) (h_sc := sc) (h_pa := fun _ W hW => sparts_err _ _ _ _ _ _ _ wt h W (sc2 W hW)) (h_ki := fun _ W hW => skind_err _ _ _ _ _ _ _ wt h W (sc2 W hW))
    (h_th := fun _ W hW => sthrow_err _ _ _ _ _ _ _ wt W hz (sc2 W hW)) (h_he := fun _ W hW => sheave_err _ _ _ _ _ _ _ wt W hz (sc2 W hW))
 cases hq : ((A.right && rightQ A0) && S.right) with
 | false => exact main 2 (fun W hW => lcheck_num A S A0 sa ss (by omega) hq W hW) (fun W hW => check_num A S A0 sa ss (by omega) hq W hW)
 | true =>
  simp only [Bool.and_eq_true] at hq
  obtain ⟨⟨ra, r0⟩, rs⟩ := hq
  obtain ⟨a, rfl⟩ := right_t ra
  obtain ⟨s, rfl⟩ := right_t rs
  obtain ⟨q, rfl⟩ := right_q r0
  have na := (r3_of la).sz' 60 60 (by omega) (by omega)
  have ns := (r3_of ls).sz' 60 60 (by omega) (by omega)
  have nq : S2 q 60 60 := (brief_S2 h0).mono (by omega) (by omega)
  exact main _ (fun W hW => lcheckR a s q na ns nq W hW) (fun W hW => scheckR a s q na ns nq W hW)
theorem checksC (A1 A2 A3 A0 S1 S2 S3 : ByteArray) (w : World) (he : Env w) :
  Calls Tryz.prog 6 #[.agg #[.string A1, .string A2, .string A3, .string A0, .string S1, .string S2, .string S3]] w fun e w' => e = .returned (.bool true) ∧ Below w.heap.size w w' :=
 checks_walk ⟨A1, A2, A3⟩ ⟨S1, S2, S3⟩ A0 w he

end Go.Proofs.YtopilnlniidejaaGreatDoor
