/- A described strip, as it comes in: opened. -/
import Derived.Test.YtnallacamijkeaaGreatDoorLawDil
import Derived.Test.YtnallacamijkeaaGreatDoorShaped
import Derived.OpenShut
import Derived.ChangeSame
import Derived.Deep.Slices
import Derived.Lib.SmallJoins
namespace Go.Proofs.YtnallacamijkeaaGreatDoor
set_option linter.all false
open Go.ChangeShapes Go.WideShapes Go.ChangeAt Go.RowKit

theorem cellsSt42 : Tryz.prog.cellsOf 25 = 4 := by kernel_rfl
theorem cellsDs42 : Tryz.prog.cellsOf 22 = 1 := by kernel_rfl
theorem cellsDi8 : Tryz.prog.cellsOf 23 = 1 := by kernel_rfl
theorem cellsDu8 : Tryz.prog.cellsOf 5 = 1 := by kernel_rfl
theorem cellsDa2 : Tryz.prog.cellsOf 33 = 2 := by kernel_rfl
theorem array4S {α : Type} {cs : Array α} (h : cs.size = 4) : ∃ c0 c1 c2 c3, cs = #[c0, c1, c2, c3] := by
 obtain ⟨l⟩ := cs
 match l, h with
 | [c0, c1, c2, c3], _ => exact ⟨c0, c1, c2, c3, rfl⟩
section
variable {H : Type} {enc : TypeId × Value → H} {W : World} {m : Nat} {r : DataW H × List MemPlace}
set_option maxRecDepth 100000 in
theorem i8_cellS {c : Value} (h : DataW.trod enc Tryz.prog W 0 (fun _ => true) true m 23 [c] = some r) : ∃ x : Int, c = .int .i8 x ∧ (-128 ≤ x ∧ x ≤ 127) := by
 obtain ⟨n, e, _, hw⟩ := DataW.trod_int Tryz.underlying23 h
 simp at e
 exact ⟨n, e, bounds_i8 hw⟩
set_option maxRecDepth 100000 in
theorem u8_cellS {c : Value} (h : DataW.trod enc Tryz.prog W 0 (fun _ => true) true m 5 [c] = some r) : ∃ x : Int, c = .int .u8 x ∧ (0 ≤ x ∧ x ≤ 255) := by
 obtain ⟨n, e, _, hw⟩ := DataW.trod_int Tryz.underlying5 h
 simp at e
 exact ⟨n, e, bounds_u8 hw⟩
set_option maxRecDepth 100000 in
theorem pair_cells {cs : List Value} (hl : cs.length = 2) (h : DataW.trod enc Tryz.prog W 0 (fun _ => true) true m 33 cs = some r) : ∃ p : Int × Int, cs = pcell p ∧ -128 ≤ p.1 ∧ p.1 ≤ 127 ∧ -128 ≤ p.2 ∧ p.2 ≤ 127 := by
 match cs, hl with
 | [c0, c1], _ =>
  obtain ⟨xs, n, _, _, _, hxl, hx⟩ := DataW.trod_array Tryz.underlying33 h
  have h0 := hx 0 (by omega)
  have h1 := hx 1 (by omega)
  match xs, hxl with
  | [u0, u1], _ =>
   rw [cellsDi8] at h0 h1
   obtain ⟨x, rfl, bx⟩ := i8_cellS (r := u0) (by simpa using h0)
   obtain ⟨y, rfl, by'⟩ := i8_cellS (r := u1) (by simpa using h1)
   exact ⟨(x, y), rfl, bx.1, bx.2, by'.1, by'.2⟩
end

section
variable {H : Type} {enc : TypeId × Value → H} {W : World} {base : Nat} {v : Value} {d : DataW H} {p : List MemPlace}
theorem cell_blkS {a : Addr} {u : Value} (h : W.cell? a = some u) : a.block < W.heap.size := World.cells?_block (base := 0) (cells?_one (Nat.zero_le _) h) (by omega)
set_option maxRecDepth 100000 in
theorem open_strip (hv : Value.okWide Tryz.prog W .any base 25 v) (h : DataW.Trod enc Tryz.prog W 0 (fun _ => true) true 25 v d p) :
  ∃ (A : Option Addr) (c : Nat) (ps : List (Int × Int)) (F T U : Int), v = .agg #[.slice A ps.length c, .int .i8 F, .int .i8 T, .int .u8 U] ∧ (-128 ≤ F ∧ F ≤ 127) ∧ (-128 ≤ T ∧ T ≤ 127) ∧ (0 ≤ U ∧ U ≤ 255) ∧ Small8 ps ∧ ps.length ≤ c ∧ SAt pcell 2 W (.slice A ps.length c) ps := by
 have hu := Tryz.underlying25
 simp only [Value.okWide, hu] at hv
 obtain ⟨cs, rfl, hs, _⟩ := hv
 obtain ⟨c0, c1, c2, c3, rfl⟩ := array4S (hs.trans cellsSt42)
 obtain ⟨fuel, hf⟩ := h
 simp [Value.cells] at hf
 obtain ⟨y0, y1, y2, y3, n, _, _, h0, h1, h2, h3⟩ := Go.Joins.trod_struct4 hu hf
 simp [cellsDs42, cellsDi8, cellsDu8] at h0 h1 h2 h3
 obtain ⟨F, rfl, bF⟩ := i8_cellS h1
 obtain ⟨T, rfl, bT⟩ := i8_cellS h2
 obtain ⟨U, rfl, bU⟩ := u8_cellS h3
 rcases Go.Deep.open_slice Tryz.underlying22 h0 with ⟨hcs, _⟩ | ⟨a, len, cap, m, n', D, Pl, hcs, _, hl, hm, hmm, _, hel⟩
 ·simp at hcs
  subst hcs
  exact ⟨none, 0, [], F, T, U, rfl, bF, bT, bU, (fun q hq => by cases hq), Nat.le_refl _, none, 0, rfl, (fun i t h => by simp at h)⟩
 ·simp at hcs
  subst hcs
  have hml : len ≤ m := by rw [hmm]; split <;> omega
  have each : ∀ i, ∃ g : Int × Int, (-128 ≤ g.1 ∧ g.1 ≤ 127 ∧ -128 ≤ g.2 ∧ g.2 ≤ 127) ∧ (i < len → ∀ j u, (pcell g)[j]? = some u → W.cell? ((a.add (i * 2)).add j) = some u) := by
   intro i
   by_cases hi : i < len
   ·obtain ⟨cs, hc, ht⟩ := hel i (by omega)
    rw [cellsDa2] at hc
    obtain ⟨q1, q2, q3⟩ := World.cells?_some hc
    obtain ⟨g, rfl, hb⟩ := pair_cells q2 ht
    exact ⟨g, hb, fun _ j u hu => by
     have hj : j < 2 := (List.getElem?_eq_some_iff.1 hu).1
     rw [← hu]
     exact q3 j hj⟩
   ·exact ⟨(0, 0), by decide, fun h => absurd h hi⟩
  obtain ⟨g, hg⟩ := Classical.axiomOfChoice each
  obtain ⟨b, off, spot⟩ := a
  have hln : ((List.range len).map g).length = len := by simp
  refine ⟨some ⟨b, off, spot⟩, cap, (List.range len).map g, F, T, U, by rw [hln], bF, bT, bU, ?_, by rw [hln]; exact hl, some ⟨b, off, spot⟩, cap, rfl, fun i t hit => ?_⟩
  ·intro q hq
   obtain ⟨i, _, rfl⟩ := List.mem_map.1 hq
   exact (hg i).1
  have hi : i < len := by
   have := (List.getElem?_eq_some_iff.1 hit).1
   simpa using this
  have ht : g i = t := by
   rw [List.getElem?_map, List.getElem?_range hi] at hit
   simpa using hit
  have hspot : spot = none := by simpa [Addr.add] using World.cell?_spot ((hg 0).2 (by omega) 0 _ rfl)
  subst hspot
  refine ⟨b, off, rfl, ?_, fun j u hu => ?_⟩
  ·have := cell_blkS ((hg i).2 hi 0 _ rfl)
   simpa [Addr.add, apply_ite] using this
  ·rw [← ht] at hu
   have h2 := (hg i).2 hi j u hu
   rw [show ((⟨b, off, none⟩ : Addr).add (i * 2)).add j = ⟨b, off + i * 2 + j, none⟩ by unfold Addr.add; split <;> split <;> simp_all] at h2
   exact h2
end

end Go.Proofs.YtnallacamijkeaaGreatDoor
