/- What a row gives the walks; a description as it comes in. -/
import Derived.Test.YtmkeigfckfkifaaGreatDoorCards
import Derived.Test.YtmkeigfckfkifaaGreatDoorTie
import Derived.Test.YtmkeigfckfkifaaGreatDoorGInt
import Derived.ProofKit
import Derived.OpenShut
import Derived.LaidMore
import Derived.Lay
import Derived.SevenTiedAt
import Derived.Stop.Joined
import Derived.Below
import Derived.ChangeSame
import Derived.Lib.SmallJoins
import Derived.ChangeSlices
import Derived.Carry
/- What a row's condition gives the walks, and the end of a row's proof where the call leaves new blocks. -/
namespace Go.Proofs.YtmkeigfckfkifaaGreatDoor
open Go.ChangeShapes Go.WideShapes Go.ChangeAt Go.RowKit

theorem ownNone : ownKnob Tryz.prog.godebug = none := by kernel_rfl

/-- The variables that every row of this seat lists. -/
def laidAll7 : List (String × DataW Unit) := Rows.integerDividesRow.laid

theorem pow10_of_laid {W : World} (h : laidMetH Tryz.prog laidAll7 W) : Pow10 W := by
  rw [MakeChecks.laidMetH_plain _ _ _ (by kernel_rfl)] at h
  obtain ⟨ps, ⟨g0, t0, cs0, f0, p0, q0, hg0, ht0, hv0, hd0, ⟨g1, t1, cs1, f1, p1, q1, hg1, ht1, hv1, hd1, ⟨g2, t2, cs2, f2, p2, q2, hg2, ht2, hv2, hd2, _, _⟩, _⟩, _⟩, _, _⟩ := h
  obtain rfl := Option.some.inj ((show Tryz.prog.globalNamed "internal/strconv.uint64pow10" = some 3 by kernel_rfl).symm.trans hg2)
  obtain rfl := Option.some.inj ((show (Tryz.prog.globals[3]?).map (·.type) = some 139 by kernel_rfl).symm.trans ht2)
  unfold Pow10 Lib.TabIs
  rw [hv2, ← Lib.cells_of_tab (k := .u64) (zs := Lib.pow10Tab) Tryz.underlying139 Tryz.underlying56 (by kernel_rfl) (by kernel_rfl) hd2]

section
variable {H : Type} {enc : TypeId × Value → H} {P : Program}
theorem post_of_below {f : Func} {s : ChangeSpec} {apart fresh handsOn again : Bool} {W W' : World} {args : Array Value} {v : Value} {ds gs : List (DataW H)} {before pa pv : List MemPlace}
    (hW : DataW.Whole enc P f.params.toList s.vars apart W args.toList ds gs before)
    (hres : ∀ (b : Nat) (sp : Nat → Bool) (hd : Bool), DataW.TrodAll enc P W' b sp hd f.resultTypes.toList (v.resultList f.resultTypes.size) (s.fn H (ds ++ gs)).results [])
    (hargs : ∀ sp : Nat → Bool, (∀ p ∈ before, sp p.block = true) → DataW.TrodAll enc P W' 0 sp true f.params.toList args.toList (s.fn H (ds ++ gs)).args pa)
    (hvars : ∀ sp : Nat → Bool, (∀ p ∈ before, sp p.block = true) → DataW.TrodVars enc P W' sp s.vars (s.fn H (ds ++ gs)).vars pv)
    (hps : before = pa ++ pv) (hb : Below W.heap.size W W')
    (hok : ∀ (j : Nat) (t : TypeId) (r : Value), f.resultTypes[j]? = some t → (v.resultList f.resultTypes.size)[j]? = some r → Value.okWide P W' .any 0 t r) :
    s.post enc P f apart fresh handsOn again W args v W' := by
  have hlt : ∀ p ∈ before, p.block < W.heap.size := fun p hp => hW.lt p hp
  have hold : ∀ p ∈ before, (fun b => decide (b < W.heap.size)) p.block = true := fun p hp => by simpa using hlt p hp
  refine ⟨ds, gs, before, [], pa, pv, hW, hres _ _ _, hargs _ hold, hvars _ hold, World.keptBut_mono (fun p hp => ⟨hp, ?_⟩) (hb.frame (· ∈ before)), fun _ => ?_⟩
  · rw [hps, List.mem_append] at hp
    exact Or.inr hp
  · obtain ⟨_, _, _, _, _, hz, hn⟩ := hW
    refine ⟨hok, _, _, ([] ++ pa) ++ pv, ⟨[] ++ pa, pv, trodAll_append (hargs _ (fun _ _ => rfl)) (hres _ _ _), hvars _ (fun _ _ => rfl), rfl, ?_, ?_⟩, ?_⟩
    · intro b off hp
      have hin : MemPlace.cell b off ∈ before := by rw [hps]; simpa using hp
      rw [hb.frozen (hlt _ hin)]
      exact hz b off hin
    · intro ha
      have := hn ha
      rw [hps] at this
      simpa using this
    · intro p hp _
      rw [hps]
      simpa using hp
end

end Go.Proofs.YtmkeigfckfkifaaGreatDoor

/- A description of an integer, as it comes in: a sign, and digits in memory. -/
namespace Go.Proofs.YtmkeigfckfkifaaGreatDoor
open Go.ChangeShapes Go.WideShapes Go.ChangeAt Go.RowKit

theorem cell_spot {w : World} {a : Addr} {v : Value} (h : w.cell? a = some v) : a.spot = none ∧ a.block < w.heap.size := by
  unfold World.cell? at h
  cases hb : w.heap[a.block]? with
  | none => rw [hb] at h; cases h
  | some o =>
    have hlt := (Array.getElem?_eq_some_iff.1 hb).1
    rw [hb] at h
    cases o with
    | cells c t f =>
      cases hs : a.spot with
      | none => exact ⟨rfl, hlt⟩
      | some x => simp [hs] at h
    | _ => cases h

theorem add_spot {b o : Nat} {j : Nat} : (⟨b, o, none⟩ : Addr).add j = ⟨b, o + j, none⟩ := by
  unfold Addr.add; split <;> simp_all

theorem add_zero_spot (a : Addr) : (a.add 0) = a := by unfold Addr.add; simp

theorem cellsW : Tryz.prog.cellsOf 24 = 2 := by kernel_rfl
theorem cellsU8 : Tryz.prog.cellsOf 5 = 1 := by kernel_rfl

set_option maxRecDepth 100000 in
theorem open_written {H : Type} {enc : TypeId × Value → H} {W : World} {base : Nat} {v : Value} {d : DataW H} {p : List MemPlace}
    (hv : Value.okWide Tryz.prog W .any base 24 v) (h : DataW.Trod enc Tryz.prog W 0 (fun _ => true) true 24 v d p) :
    ∃ (mn : Bool) (A : Option Addr) (cap : Nat) (ds : List Int), v = .agg #[.bool mn, .slice A ds.length cap] ∧ Sl W .u8 A cap ds ∧ ∀ x ∈ ds, 0 ≤ x ∧ x < 256 := by
  obtain ⟨c0, c1, y0, y1, m, rfl, rfl, rfl, hy0, hy1⟩ := Joins.open_agg2 Tryz.underlying24 (by kernel_rfl) cellsW hv h
  obtain ⟨mn, e0, _⟩ := DataW.trod_bool Tryz.underlying4 hy0
  simp at e0
  subst e0
  rcases Go.ChangeShapes.open_ints Tryz.underlying22 Tryz.underlying5 cellsU8 hy1 with ⟨hcs, _⟩ | ⟨a, len, cap, zs, hcs, _, hl, hm, hz, _, hcell, hwz⟩
  · simp at hcs
    subst hcs
    exact ⟨mn, none, 0, [], rfl, Sl.nil_, fun x hx => by simp at hx⟩
  · simp at hcs
    subst hcs
    rw [if_pos rfl] at hz
    have htl : (zs.take len).length = len := by rw [List.length_take]; omega
    refine ⟨mn, some a, cap, zs.take len, by rw [htl], ⟨by omega, hm, fun hp => ?_⟩, fun x hx => ?_⟩
    · rw [htl] at hp
      have h0 := hcell 0 (by omega)
      have hs := cell_spot h0
      rw [add_zero_spot] at hs
      obtain ⟨b, o, sp⟩ := a
      obtain ⟨hs1, hs2⟩ := hs
      dsimp only at hs1 hs2
      subst hs1
      refine ⟨b, o, rfl, hs2, fun j hj => ?_⟩
      rw [htl] at hj
      have h1 := hcell j (by omega)
      rw [add_spot] at h1
      rw [h1, List.getElem?_take, if_pos hj, List.getD]
    · have := bounds_u8 (hwz x (List.mem_of_mem_take hx))
      omega

set_option maxRecDepth 100000 in
/-- A description reads behind the call as it read before. -/
theorem written_stays {H : Type} {enc : TypeId × Value → H} {W W' : World} {v : Value} {d : DataW H} {ps : List MemPlace}
    (h : DataW.Trod enc Tryz.prog W 0 (fun _ => true) true 24 v d ps) (hb : Below W.heap.size W W') (hlt : ∀ x ∈ ps, x.block < W.heap.size) {sp : Nat → Bool} (hsp : ∀ p ∈ ps, sp p.block = true) :
    DataW.Trod enc Tryz.prog W' 0 sp true 24 v d ps :=
  WideElems.Trod_stays (by kernel_rfl) (by kernel_rfl) (of_decide_eq_true (by kernel_rfl)) h (fun x hx => hb.same (hlt x hx)) hsp

end Go.Proofs.YtmkeigfckfkifaaGreatDoor
