/- A description of an integer, as it comes in: a sign, and digits in memory. -/
import Derived.Test.YtmkeigfckfkifaaDoorLawBase
import Derived.OpenShut
import Derived.Lib.SmallJoins
import Derived.ChangeSlices
import Derived.Carry
namespace Go.Proofs.YtmkeigfckfkifaaDoor
open Go.ChangeShapes Go.WideShapes Go.ChangeAt Go.RowKit

theorem cell_spot {w : World} {a : Addr} {v : Value} (h : w.cell? a = some v) : a.spot = none ∧ a.block < w.heap.size := by
  unfold World.cell? at h
  cases hb : w.heap[a.block]? with
  | none => rw [hb] at h; cases h
  | some o =>
    have hlt := (Array.getElem?_eq_some_iff.1 hb).1
    rw [hb] at h
    cases o with
    | cells c t f =>
      cases hs : a.spot with
      | none => exact ⟨rfl, hlt⟩
      | some x => simp [hs] at h
    | _ => cases h

theorem add_spot {b o : Nat} {j : Nat} : (⟨b, o, none⟩ : Addr).add j = ⟨b, o + j, none⟩ := by
  unfold Addr.add; split <;> simp_all

theorem add_zero_spot (a : Addr) : (a.add 0) = a := by unfold Addr.add; simp

theorem cellsW : Tryd.prog.cellsOf 30 = 2 := by kernel_rfl
theorem cellsU8 : Tryd.prog.cellsOf 5 = 1 := by kernel_rfl

set_option maxRecDepth 100000 in
theorem open_written {H : Type} {enc : TypeId × Value → H} {W : World} {base : Nat} {v : Value} {d : DataW H} {p : List MemPlace}
    (hv : Value.okWide Tryd.prog W .any base 30 v) (h : DataW.Trod enc Tryd.prog W 0 (fun _ => true) true 30 v d p) :
    ∃ (mn : Bool) (A : Option Addr) (cap : Nat) (ds : List Int), v = .agg #[.bool mn, .slice A ds.length cap] ∧ Sl W .u8 A cap ds ∧ ∀ x ∈ ds, 0 ≤ x ∧ x < 256 := by
  obtain ⟨c0, c1, y0, y1, m, rfl, rfl, rfl, hy0, hy1⟩ := Joins.open_agg2 Tryd.underlying30 (by kernel_rfl) cellsW hv h
  obtain ⟨mn, e0, _⟩ := DataW.trod_bool Tryd.underlying4 hy0
  simp at e0
  subst e0
  rcases Go.ChangeShapes.open_ints Tryd.underlying28 Tryd.underlying5 cellsU8 hy1 with ⟨hcs, _⟩ | ⟨a, len, cap, zs, hcs, _, hl, hm, hz, _, hcell, hwz⟩
  · simp at hcs
    subst hcs
    exact ⟨mn, none, 0, [], rfl, Sl.nil_, fun x hx => by simp at hx⟩
  · simp at hcs
    subst hcs
    rw [if_pos rfl] at hz
    have htl : (zs.take len).length = len := by rw [List.length_take]; omega
    refine ⟨mn, some a, cap, zs.take len, by rw [htl], ⟨by omega, hm, fun hp => ?_⟩, fun x hx => ?_⟩
    · rw [htl] at hp
      have h0 := hcell 0 (by omega)
      have hs := cell_spot h0
      rw [add_zero_spot] at hs
      obtain ⟨b, o, sp⟩ := a
      obtain ⟨hs1, hs2⟩ := hs
      dsimp only at hs1 hs2
      subst hs1
      refine ⟨b, o, rfl, hs2, fun j hj => ?_⟩
      rw [htl] at hj
      have h1 := hcell j (by omega)
      rw [add_spot] at h1
      rw [h1, List.getElem?_take, if_pos hj, List.getD]
    · have := bounds_u8 (hwz x (List.mem_of_mem_take hx))
      omega

set_option maxRecDepth 100000 in
/-- A description reads behind the call as it read before. -/
theorem written_stays {H : Type} {enc : TypeId × Value → H} {W W' : World} {v : Value} {d : DataW H} {ps : List MemPlace}
    (h : DataW.Trod enc Tryd.prog W 0 (fun _ => true) true 30 v d ps) (hb : Below W.heap.size W W') (hlt : ∀ x ∈ ps, x.block < W.heap.size) {sp : Nat → Bool} (hsp : ∀ p ∈ ps, sp p.block = true) :
    DataW.Trod enc Tryd.prog W' 0 sp true 30 v d ps :=
  WideElems.Trod_stays (by kernel_rfl) (by kernel_rfl) (of_decide_eq_true (by kernel_rfl)) h (fun x hx => hb.same (hlt x hx)) hsp

end Go.Proofs.YtmkeigfckfkifaaDoor
