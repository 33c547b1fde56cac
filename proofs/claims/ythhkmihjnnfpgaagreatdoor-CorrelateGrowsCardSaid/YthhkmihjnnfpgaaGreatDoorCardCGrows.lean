/- CorrelateGrows: for every input the law returns true and leaves what it reads as it was: the row proved, and its tied card closed. Conditions: those of the given row alone (the listed tables and errors of the library stand as the program's text lays them). -/
import Derived.Test.YthhkmihjnnfpgaaGreatDoorLawCGrows
import Derived.Test.YthhkmihjnnfpgaaGreatDoorGOpen44
import Derived.ChangeMaps5
namespace Go.Proofs.YthhkmihjnnfpgaaGreatDoor
set_option linter.all false
open Go.ChangeShapes Go.WideShapes Go.ChangeAt Go.RowKit Go.ChangeMaps

set_option maxRecDepth 100000 in
theorem correlateGrows_lifted (os:Os) (started:os.Started) (H:Type) (enc:TypeId × Value→H) :
  ReturnsInHanded {} Tryz.checked os 11 .any (fun w args=>(Rows.correlateGrowsSpec.pre enc Tryz.prog Tryz.f11 [] false w args∧laidMetH Tryz.prog laidAll7 w)∧sizedMet enc Tryz.prog Tryz.f11 (OpenSpec.ofChange Rows.correlateGrowsSpec) false w args)
   (Rows.correlateGrowsSpec.post enc Tryz.prog Tryz.f11 false true false false):=by
 refine handed_shaped_and (C:=Tryz.checked) (X:=fun w _=>laidMetH Tryz.prog laidAll7 w) (fun _ _ _ hh h=>h.of_heap hh) ownNone started (by kernel_rfl) Tryz.func11
  (ChangeSpec.witness_shaped (enc:=enc) (C:=Tryz.checked) (os:=os) (X:=fun w _=>laidMetH Tryz.prog laidAll7 w) false (World.laidAll Tryz.prog os laidAll7) #[.agg #[.slice none 0 0,.slice none 0 0,.int .u8 0,.int .u8 0,.int .u8 0,.int .u8 0],.int .u8 0,.int .u8 0] 8 (World.laidAll_os _ _ _)
   (World.shaped_of_ZipB (by kernel_rfl) (by kernel_rfl)) (by kernel_rfl) (by kernel_rfl) (by kernel_rfl)
   (by rw [MakeChecks.laidMetH_plain _ _ _ (by kernel_rfl)]; exact laidMet_laidAll _ (by kernel_rfl) (by kernel_rfl))) ?_
 intro W base args ds gs before hval0 hW _ _ hL hS _
 have hval:∀ (j:Nat) t v,Tryz.f11.params[j]?=some t→args[j]?=some v→Value.okWide Tryz.prog W .any base t v:=hval0
 have hW':=hW
 obtain ⟨p,q,hA0,hV,rfl,_,_⟩:=hW
 have hA:DataW.TrodAll enc Tryz.prog W 0 (fun _=>true) true Tryz.f11.params.toList args.toList ds p:=hA0
 rw [Tryz.params11] at hA hval
 obtain ⟨v0,v1,v2,d0,d1,d2,q0,q1,q2,rfl,rfl,rfl,h0,h1,h2⟩:=trodAll_three hA
 obtain ⟨rfl,rfl⟩:=trodVars_none hV
 have hP:Env W:=⟨pow10_of_laid hL,maxL_of_shaped hS⟩
 simp only [List.append_nil,List.append_assoc] at hW'
 have hlt:∀ x ∈ q0 ++ (q1 ++ q2),x.block < W.heap.size:=fun x hx=>hW'.lt x hx
 obtain ⟨P0,vl0,vr0,e0,hp0,bl0,br0⟩:=open_plan44 (hval 0 25 v0 rfl rfl) h0
 subst e0
 obtain ⟨n1,e1,_,_,hs1⟩:=open_int Tryz.underlying5 (hval 1 5 v1 rfl rfl) h1
 subst e1
 have hb1:=bounds_u8 hs1
 obtain ⟨u1,eu1⟩:∃ u:Nat,n1=u:=⟨n1.toNat,by omega⟩
 subst eu1
 obtain ⟨n2,e2,_,_,hs2⟩:=open_int Tryz.underlying5 (hval 2 5 v2 rfl rfl) h2
 subst e2
 have hb2:=bounds_u8 hs2
 obtain ⟨u2,eu2⟩:∃ u:Nat,n2=u:=⟨n2.toNat,by omega⟩
 subst eu2
 refine (corGrows_walk (hl:=bl0) (hr:=br0) P0 hp0 u1 u2 (by omega) (by omega) vl0 vr0 W hP).mono fun e W' ⟨he,hb⟩=>?_
 subst he
 exact ⟨_,rfl,post_of_below (pa:=q0 ++ (q1 ++ q2)) (pv:=[]) hW' (fun _ _ _=>trodAll_mk1 (shut_bool Tryz.underlying4 _)) (fun sp hsp=>trodAll_mk3 (WideElems.Trod_stays (by kernel_rfl) (by kernel_rfl) (of_decide_eq_true (by kernel_rfl)) h0 (fun x hx=>hb.same (hlt x (List.mem_append_left _ hx))) (fun x hx=>hsp x (List.mem_append_left _ hx))) (WideElems.Trod_stays (by kernel_rfl) (by kernel_rfl) (of_decide_eq_true (by kernel_rfl)) h1 (fun x hx=>hb.same (hlt x (List.mem_append_right _ (List.mem_append_left _ hx)))) (fun x hx=>hsp x (List.mem_append_right _ (List.mem_append_left _ hx)))) (WideElems.Trod_stays (by kernel_rfl) (by kernel_rfl) (of_decide_eq_true (by kernel_rfl)) h2 (fun x hx=>hb.same (hlt x (List.mem_append_right _ (List.mem_append_right _ hx)))) (fun x hx=>hsp x (List.mem_append_right _ (List.mem_append_right _ hx))))) (fun _ _=>rfl) (by simp) hb (ok_one (by kernel_rfl) rfl (okWide_bool_mk Tryz.underlying4 _))⟩

theorem correlateGrows_holds:Rows.CorrelateGrowsSaid :=
 OpenClaim.holds_of_wide 11 Tryz.f11 rfl rfl rfl rfl rfl rfl rfl ⟨rfl,rfl,rfl,rfl,rfl⟩ rfl rfl rfl rfl rfl (by kernel_rfl) Tryz.func11 (by kernel_rfl)
  (of_decide_eq_true (by kernel_rfl)) (by unfold Func.isWrapper; first | (rw [if_pos (by decide +kernel)]; kernel_rfl) | (rw [if_neg (by decide +kernel)]; exact ⟨rfl,rfl⟩))
  (fun os started H enc _=>correlateGrows_lifted os started H enc)

theorem correlateGrows_card:Rows.CorrelateGrowsCardSaid :=
 Claim7.holds_tied_plain_at .later [] [.data,.data,.data,.sentinel,.sentinel] true Rows.correlateGrowsCard.stood.harness true correlateGrows_holds (fun _ h=>by cases h) (by kernel_rfl) (fun _ h=>by cases h) correlateGrows_row_tie rfl ⟨rfl,rfl⟩ (by kernel_rfl) rfl
  (fun f fn hf hfn=>by
   obtain rfl:f = 11 := Option.some.inj ((show Tryz.prog.funcNamed "klippe/klippelaw44.CorrelateGrows" = some 11 by kernel_rfl).symm.trans hf) |>.symm
   obtain rfl:fn=Tryz.f11 := (Option.some.inj (Tryz.func11.symm.trans hfn)).symm
   exact ⟨by kernel_rfl,fun j t ht=>by
    rw [Tryz.params11] at ht
    have hm:t ∈ [25, 5]:=by simpa using Array.mem_of_getElem? ht
    have hall:([25, 5].all fun u=>!Tryz.prog.wantsStandIn u)=true:=by kernel_rfl
    exact (show Tryz.prog.wantsStandIn t=false by simpa using List.all_eq_true.1 hall t hm)⟩)
  (by kernel_rfl)
#print axioms correlateGrows_card

end Go.Proofs.YthhkmihjnnfpgaaGreatDoor
