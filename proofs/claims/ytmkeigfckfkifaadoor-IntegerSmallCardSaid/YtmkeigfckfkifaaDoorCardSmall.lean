/- IntegerSmall: for any described integer of at most 24 digits the law returns true and leaves the descriptions as they were: the row proved, and its tied card closed. Conditions: those of the given row alone (the listed tables and errors of the library stand as the program's text lays them). -/
import Derived.Test.YtmkeigfckfkifaaDoorLawSmall
import Derived.Test.YtmkeigfckfkifaaDoorWritten
import Derived.Stop.LaidErr
namespace Go.Proofs.YtmkeigfckfkifaaDoor
open Go.ChangeShapes Go.WideShapes Go.ChangeAt Go.RowKit

theorem errRow (u : TypeId) (h : Tryd.prog.typeName? 3 u = some "*errors.errorString") : u = 141 :=
  typeName_ptr_named (nm := "errors.errorString") (by rw [show "*" ++ "errors.errorString" = "*errors.errorString" by decide]; kernel_rfl) (by kernel_rfl) (by decide) u (by rw [show "*" ++ "errors.errorString" = "*errors.errorString" by decide]; exact h)

theorem errRange_of_laid {W : World} (h : laidMetH Tryd.prog laidAll7 W) : ∃ (tp : TypeId) (pv : Value), W.var? Tryd.prog "strconv.ErrRange" = some #[.iface tp pv] ∧ 2 < W.heap.size := by
  rw [MakeChecks.laidMetH_plain _ _ _ (by kernel_rfl)] at h
  have h5 := (laidMet.tail (laidMet.tail (laidMet.tail (laidMet.tail h))))
  obtain ⟨a, s, hv, _⟩ := laid_sentinel h5 (g := 2) (ti := 67) (by kernel_rfl) (by kernel_rfl) Tryd.underlying67 errRow Tryd.underlying141 Tryd.underlying143 rfl rfl Tryd.underlying9 (by kernel_rfl) (by kernel_rfl)
  refine ⟨_, _, hv, ?_⟩
  have hg : Tryd.prog.globalNamed "strconv.ErrRange" = some 2 := by kernel_rfl
  unfold World.var? at hv
  simp only [hg, Option.bind_some] at hv
  rcases Nat.lt_or_ge 2 W.heap.size with h' | h'
  · exact h'
  · simp [Array.getElem?_eq_none h'] at hv

set_option maxRecDepth 100000 in
theorem smalls_lifted (os : Os) (started : os.Started) (H : Type) (enc : TypeId × Value → H) :
    ReturnsInHanded {} Tryd.checked os 5 .any (fun w args => (Rows.integerSmallSpec.pre enc Tryd.prog Tryd.f5 [] false w args ∧ laidMetH Tryd.prog laidAll7 w) ∧ sizedMet enc Tryd.prog Tryd.f5 (OpenSpec.ofChange Rows.integerSmallSpec) false w args)
      (Rows.integerSmallSpec.post enc Tryd.prog Tryd.f5 false true false false) := by
  refine returnsInHanded_of_change_and (C := Tryd.checked) (X := fun w _ => laidMetH Tryd.prog laidAll7 w) (fun _ _ _ hh h => h.of_heap hh) ownNone started (by kernel_rfl) Tryd.func5
    (ChangeSpec.witness_shaped (enc := enc) (C := Tryd.checked) (os := os) (X := fun w _ => laidMetH Tryd.prog laidAll7 w) false (World.laidAll Tryd.prog os laidAll7) #[.agg #[.bool false, .slice none 0 0]] 8 (World.laidAll_os _ _ _)
      (World.shaped_of_ZipB (by kernel_rfl) (by kernel_rfl)) (by kernel_rfl) (by kernel_rfl) (by kernel_rfl)
      (by rw [MakeChecks.laidMetH_plain _ _ _ (by kernel_rfl)]; exact laidMet_laidAll _ (by kernel_rfl) (by kernel_rfl))) ?_
  intro W base args ds gs before hval0 hW _ _ hL _
  have hval : ∀ (j : Nat) t v, Tryd.f5.params[j]? = some t → args[j]? = some v → Value.okWide Tryd.prog W .any base t v := hval0
  have hW' := hW
  obtain ⟨p, q, hA0, hV, rfl, _, _⟩ := hW
  have hA : DataW.TrodAll enc Tryd.prog W 0 (fun _ => true) true Tryd.f5.params.toList args.toList ds p := hA0
  rw [Tryd.params5] at hA hval
  obtain ⟨v0, d0, rfl, rfl, h0⟩ := trodAll_one hA
  obtain ⟨rfl, rfl⟩ := trodVars_none hV
  have hP := pow10_of_laid hL
  simp only [List.append_nil] at hW'
  obtain ⟨m1, A1, p1, e1, rfl, s1, r1⟩ := open_written (hval 0 30 v0 rfl rfl) h0
  obtain ⟨tp, pv, hv, hgs⟩ := errRange_of_laid hL
  have hlt : ∀ x ∈ p, x.block < W.heap.size := fun x hx => hW'.lt x hx
  refine (small_walk m1 A1 p1 e1 W s1 r1 hP tp pv _ (by kernel_rfl) hgs hv).mono fun e W' ⟨he, hb⟩ => ?_
  subst he
  exact ⟨_, rfl, post_of_below (pa := p) (pv := []) hW' (fun _ _ _ => trodAll_mk1 (shut_bool Tryd.underlying4 _)) (fun sp hsp => trodAll_mk1 (written_stays h0 hb hlt hsp)) (fun _ _ => rfl) (by simp) hb (ok_one (by kernel_rfl) rfl (okWide_bool_mk Tryd.underlying4 _))⟩

theorem integerSmall_holds : Rows.IntegerSmallSaid :=
  OpenClaim.holds_of_wide 5 Tryd.f5 rfl rfl rfl rfl rfl rfl rfl ⟨rfl, rfl, rfl, rfl, rfl⟩ rfl rfl rfl rfl rfl (by kernel_rfl) Tryd.func5 (by kernel_rfl)
    (of_decide_eq_true (by kernel_rfl)) (by unfold Func.isWrapper; first | (rw [if_pos (by decide +kernel)]; kernel_rfl) | (rw [if_neg (by decide +kernel)]; exact ⟨rfl, rfl⟩))
    (fun os started H enc _ => smalls_lifted os started H enc)

theorem integerSmall_card : Rows.IntegerSmallCardSaid :=
  Claim7.holds_tied_plain_at .later [] [.data, .data, .data, .data, .sentinel, .sentinel, .pinned] true Rows.integerSmallCard.stood.harness true integerSmall_holds (fun _ h => by cases h) (by kernel_rfl) (fun _ h => by cases h) integerSmall_row_tie rfl ⟨rfl, rfl⟩ (by kernel_rfl) rfl
    (fun f fn hf hfn => by
      obtain rfl : f = 5 := Option.some.inj ((show Tryd.prog.funcNamed "klippe/klippelaw01.IntegerSmall" = some 5 by kernel_rfl).symm.trans hf) |>.symm
      obtain rfl : fn = Tryd.f5 := (Option.some.inj (Tryd.func5.symm.trans hfn)).symm
      exact ⟨by kernel_rfl, fun j t ht => by
        rw [Tryd.params5] at ht
        have hm : t ∈ [30] := by simpa using Array.mem_of_getElem? ht
        have hall : ([30].all fun u => !Tryd.prog.wantsStandIn u) = true := by kernel_rfl
        exact (show Tryd.prog.wantsStandIn t = false by simpa using List.all_eq_true.1 hall t hm)⟩)
    (by kernel_rfl)
#print axioms integerSmall_card

end Go.Proofs.YtmkeigfckfkifaaDoor
