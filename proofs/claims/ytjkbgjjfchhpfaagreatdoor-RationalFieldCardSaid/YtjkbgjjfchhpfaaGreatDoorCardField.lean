/- RationalField: for any three described numbers the law returns true and leaves the descriptions as they were: the row proved, and its tied card closed. Conditions: those of the given row alone (the listed tables and errors of the library stand as the program's text lays them). -/
import Derived.Test.YtjkbgjjfchhpfaaGreatDoorLawField
import Derived.Test.YtjkbgjjfchhpfaaGreatDoorShaped
namespace Go.Proofs.YtjkbgjjfchhpfaaGreatDoor
open Go.ChangeShapes Go.WideShapes Go.ChangeAt Go.RowKit

set_option maxRecDepth 100000 in
theorem field_lifted (os : Os) (started : os.Started) (H : Type) (enc : TypeId × Value → H) :
    ReturnsInHanded {} Tryz.checked os 11 .any (fun w args => (Rows.rationalFieldSpec.pre enc Tryz.prog Tryz.f11 [] false w args ∧ laidMetH Tryz.prog laidAll7 w) ∧ sizedMet enc Tryz.prog Tryz.f11 (OpenSpec.ofChange Rows.rationalFieldSpec) false w args)
      (Rows.rationalFieldSpec.post enc Tryz.prog Tryz.f11 false true false false) := by
  refine handed_shaped_and (C := Tryz.checked) (X := fun w _ => laidMetH Tryz.prog laidAll7 w) (fun _ _ _ hh h => h.of_heap hh) ownNone started (by kernel_rfl) Tryz.func11
    (ChangeSpec.witness_shaped (enc := enc) (C := Tryz.checked) (os := os) (X := fun w _ => laidMetH Tryz.prog laidAll7 w) false (World.laidAll Tryz.prog os laidAll7) #[.agg #[.int .i16 0, .int .u8 0], .agg #[.int .i16 0, .int .u8 0], .agg #[.int .i16 0, .int .u8 0]] 8 (World.laidAll_os _ _ _)
      (World.shaped_of_ZipB (by kernel_rfl) (by kernel_rfl)) (by kernel_rfl) (by kernel_rfl) (by kernel_rfl)
      (by rw [MakeChecks.laidMetH_plain _ _ _ (by kernel_rfl)]; exact laidMet_laidAll _ (by kernel_rfl) (by kernel_rfl))) ?_
  intro W base args ds gs before hval0 hW _ _ hL hS _
  have hval : ∀ (j : Nat) t v, Tryz.f11.params[j]? = some t → args[j]? = some v → Value.okWide Tryz.prog W .any base t v := hval0
  have hW' := hW
  obtain ⟨p, q, hA0, hV, rfl, _, _⟩ := hW
  have hA : DataW.TrodAll enc Tryz.prog W 0 (fun _ => true) true Tryz.f11.params.toList args.toList ds p := hA0
  rw [Tryz.params11] at hA hval
  obtain ⟨v0, v1, v2, d0, d1, d2, q0, q1, q2, rfl, rfl, rfl, h0, h1, h2⟩ := trodAll_three hA
  obtain ⟨rfl, rfl⟩ := trodVars_none hV
  have hP : Env W := ⟨pow10_of_laid hL, maxL_of_shaped hS⟩
  simp only [List.append_nil] at hW'
  obtain ⟨m1, e1, rfl, s1, r1⟩ := open_sm (hval 0 60 v0 rfl rfl) h0
  obtain ⟨m2, e2, rfl, s2, r2⟩ := open_sm (hval 1 60 v1 rfl rfl) h1
  obtain ⟨m3, e3, rfl, s3, r3⟩ := open_sm (hval 2 60 v2 rfl rfl) h2
  rw [List.append_assoc] at hW'
  have hlt : ∀ x ∈ q0 ++ (q1 ++ q2), x.block < W.heap.size := fun x hx => hW'.lt x hx
  refine (field_walk m1 e1 m2 e2 m3 e3 W s1 r1 s2 r2 s3 r3 hP).mono fun e W' ⟨he, hb⟩ => ?_
  subst he
  exact ⟨_, rfl, post_of_below (pa := q0 ++ (q1 ++ q2)) (pv := []) hW' (fun _ _ _ => trodAll_mk1 (shut_bool Tryz.underlying4 _)) (fun sp hsp => trodAll_mk3 (sm_stays h0 hb (fun x hx => hlt x (List.mem_append_left _ hx)) (fun x hx => hsp x (List.mem_append_left _ hx))) (sm_stays h1 hb (fun x hx => hlt x (List.mem_append_right _ (List.mem_append_left _ hx))) (fun x hx => hsp x (List.mem_append_right _ (List.mem_append_left _ hx)))) (sm_stays h2 hb (fun x hx => hlt x (List.mem_append_right _ (List.mem_append_right _ hx))) (fun x hx => hsp x (List.mem_append_right _ (List.mem_append_right _ hx))))) (fun _ _ => rfl) (by simp) hb (ok_one (by kernel_rfl) rfl (okWide_bool_mk Tryz.underlying4 _))⟩

theorem rationalField_holds : Rows.RationalFieldSaid :=
  OpenClaim.holds_of_wide 11 Tryz.f11 rfl rfl rfl rfl rfl rfl rfl ⟨rfl, rfl, rfl, rfl, rfl⟩ rfl rfl rfl rfl rfl (by kernel_rfl) Tryz.func11 (by kernel_rfl)
    (of_decide_eq_true (by kernel_rfl)) (by unfold Func.isWrapper; first | (rw [if_pos (by decide +kernel)]; kernel_rfl) | (rw [if_neg (by decide +kernel)]; exact ⟨rfl, rfl⟩))
    (fun os started H enc _ => field_lifted os started H enc)

theorem rationalField_card : Rows.RationalFieldCardSaid :=
  Claim7.holds_tied_plain_at .later [] [.data, .data, .data, .data, .sentinel, .sentinel, .pinned] true Rows.rationalFieldCard.stood.harness true rationalField_holds (fun _ h => by cases h) (by kernel_rfl) (fun _ h => by cases h) rationalField_row_tie rfl ⟨rfl, rfl⟩ (by kernel_rfl) rfl
    (fun f fn hf hfn => by
      obtain rfl : f = 11 := Option.some.inj ((show Tryz.prog.funcNamed "klippe/klippelaw02.RationalField" = some 11 by kernel_rfl).symm.trans hf) |>.symm
      obtain rfl : fn = Tryz.f11 := (Option.some.inj (Tryz.func11.symm.trans hfn)).symm
      exact ⟨by kernel_rfl, fun j t ht => by
        rw [Tryz.params11] at ht
        have hm : t ∈ [60] := by simpa using Array.mem_of_getElem? ht
        have hall : ([60].all fun u => !Tryz.prog.wantsStandIn u) = true := by kernel_rfl
        exact (show Tryz.prog.wantsStandIn t = false by simpa using List.all_eq_true.1 hall t hm)⟩)
    (by kernel_rfl)
#print axioms rationalField_card

end Go.Proofs.YtjkbgjjfchhpfaaGreatDoor
