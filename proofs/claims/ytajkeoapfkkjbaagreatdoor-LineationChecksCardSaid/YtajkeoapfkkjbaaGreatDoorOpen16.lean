/- The described directions of chapter 16 and vectors of texts, as they come in: opened, and read behind the call as before. -/
import Derived.Test.YtajkeoapfkkjbaaGreatDoorShaped
namespace Go.Proofs.YtajkeoapfkkjbaaGreatDoor
set_option linter.all false
open Go.ChangeShapes Go.WideShapes Go.ChangeAt Go.RowKit

theorem cellsSmall : Tryz.prog.cellsOf 24 = 4 := by kernel_rfl
theorem cellsVec : Tryz.prog.cellsOf 34 = 3 := by kernel_rfl

set_option maxRecDepth 100000 in
theorem open_small {H : Type} {enc : TypeId × Value → H} {W : World} {base : Nat} {v : Value} {d : DataW H} {p : List MemPlace}
    (hv : Value.okWide Tryz.prog W .any base 24 v) (h : DataW.Trod enc Tryz.prog W 0 (fun _ => true) true 24 v d p) :
    ∃ x y z b : Int, v = .agg #[.int .i8 x, .int .i8 y, .int .i8 z, .int .u8 b] ∧ (-128 ≤ x ∧ x ≤ 127) ∧ (-128 ≤ y ∧ y ≤ 127) ∧ (-128 ≤ z ∧ z ≤ 127) ∧ (0 ≤ b ∧ b ≤ 255) := by
  obtain ⟨c0, c1, c2, c3, y0, y1, y2, y3, f, rfl, rfl, rfl, hy0, hy1, hy2, hy3⟩ := Joins.open_agg4 Tryz.underlying24 (by kernel_rfl) cellsSmall hv h
  obtain ⟨n0, e0, rfl, hw0⟩ := DataW.trod_int Tryz.underlying22 hy0
  obtain ⟨n1, e1, rfl, hw1⟩ := DataW.trod_int Tryz.underlying22 hy1
  obtain ⟨n2, e2, rfl, hw2⟩ := DataW.trod_int Tryz.underlying22 hy2
  obtain ⟨n3, e3, rfl, hw3⟩ := DataW.trod_int Tryz.underlying5 hy3
  simp at e0 e1 e2 e3
  subst e0
  subst e1
  subst e2
  subst e3
  exact ⟨n0, n1, n2, n3, rfl, bounds_i8 hw0, bounds_i8 hw1, bounds_i8 hw2, bounds_u8 hw3⟩

set_option maxRecDepth 100000 in
theorem open_vec {H : Type} {enc : TypeId × Value → H} {W : World} {base : Nat} {v : Value} {d : DataW H} {p : List MemPlace}
    (hv : Value.okWide Tryz.prog W .any base 34 v) (h : DataW.Trod enc Tryz.prog W 0 (fun _ => true) true 34 v d p) :
    ∃ X Y Z : ByteArray, v = .agg #[.string X, .string Y, .string Z] := by
  obtain ⟨c0, c1, c2, y0, y1, y2, f, rfl, rfl, rfl, hy0, hy1, hy2⟩ := Joins.open_agg3 Tryz.underlying34 (by kernel_rfl) cellsVec hv h
  obtain ⟨n0, e0, _⟩ := DataW.trod_string Tryz.underlying32 hy0
  obtain ⟨n1, e1, _⟩ := DataW.trod_string Tryz.underlying32 hy1
  obtain ⟨n2, e2, _⟩ := DataW.trod_string Tryz.underlying32 hy2
  simp at e0 e1 e2
  subst e0
  subst e1
  subst e2
  exact ⟨n0, n1, n2, rfl⟩

set_option maxRecDepth 100000 in
theorem small_stays {H : Type} {enc : TypeId × Value → H} {W W' : World} {v : Value} {d : DataW H} {ps : List MemPlace}
    (h : DataW.Trod enc Tryz.prog W 0 (fun _ => true) true 24 v d ps) (hb : Below W.heap.size W W') (hlt : ∀ x ∈ ps, x.block < W.heap.size) {sp : Nat → Bool} (hsp : ∀ p ∈ ps, sp p.block = true) :
    DataW.Trod enc Tryz.prog W' 0 sp true 24 v d ps :=
  WideElems.Trod_stays (by kernel_rfl) (by kernel_rfl) (of_decide_eq_true (by kernel_rfl)) h (fun x hx => hb.same (hlt x hx)) hsp

set_option maxRecDepth 100000 in
theorem vec_stays {H : Type} {enc : TypeId × Value → H} {W W' : World} {v : Value} {d : DataW H} {ps : List MemPlace}
    (h : DataW.Trod enc Tryz.prog W 0 (fun _ => true) true 34 v d ps) (hb : Below W.heap.size W W') (hlt : ∀ x ∈ ps, x.block < W.heap.size) {sp : Nat → Bool} (hsp : ∀ p ∈ ps, sp p.block = true) :
    DataW.Trod enc Tryz.prog W' 0 sp true 34 v d ps :=
  WideElems.Trod_stays (by kernel_rfl) (by kernel_rfl) (of_decide_eq_true (by kernel_rfl)) h (fun x hx => hb.same (hlt x hx)) hsp

end Go.Proofs.YtajkeoapfkkjbaaGreatDoor
