/- Slices of tokens that a row hands in. -/
import Derived.Test.YtfhmgkicccfghaaGreatDoorLexZG
import Derived.Test.YtfhmgkicccfghaaGreatDoorOpen51
import Derived.Lib.SmallJoins
import Derived.Deep.Slices
namespace Go.Proofs.YtfhmgkicccfghaaGreatDoor
set_option linter.all false
open Go.ChangeShapes Go.WideShapes Go.ChangeAt Go.RowKit Go.ChangeMaps

theorem cellsTok : Tryz.prog.cellsOf 38 = 5 := by kernel_rfl
theorem cellsTokI : Tryz.prog.cellsOf 3 = 1 := by kernel_rfl
theorem cellsTokS : Tryz.prog.cellsOf 9 = 1 := by kernel_rfl
theorem cellsTokR : Tryz.prog.cellsOf 36 = 1 := by kernel_rfl
theorem cellsTokP : Tryz.prog.cellsOf 27 = 2 := by kernel_rfl

section
variable {H : Type} {enc : TypeId × Value → H} {W : World} {m : Nat} {r : DataW H × List MemPlace}
set_option maxRecDepth 100000 in
theorem tok_cells {c0 c1 c2 c3 c4 : Value} (h : DataW.trod enc Tryz.prog W 0 (fun _ => true) true m 38 [c0, c1, c2, c3, c4] = some r) : ∃ (k : Int) (T X : ByteArray) (l c : Int), c0 = .int .i64 k ∧ c1 = .string T ∧ c2 = .string X ∧ c3 = .int .i64 l ∧ c4 = .int .i64 c := by
 obtain ⟨y0, y1, y2, y3, n, _, _, h0, h1, h2, h3⟩ := Go.Joins.trod_struct4 Tryz.underlying38 h
 simp [cellsTokI, cellsTokS, cellsTokR, cellsTokP] at h0 h1 h2 h3
 obtain ⟨n0, e0, _⟩ := DataW.trod_int Tryz.underlying3 h0
 obtain ⟨n1, e1, _⟩ := DataW.trod_string Tryz.underlying9 h1
 obtain ⟨n2, e2, _⟩ := DataW.trod_string Tryz.underlying36 h2
 obtain ⟨z0, z1, n', _, _, h4, h5⟩ := ChangeShapes.trod_struct2 Tryz.underlying27 h3
 simp [cellsTokI] at h4 h5
 obtain ⟨n3, e3, _⟩ := DataW.trod_int Tryz.underlying3 h4
 obtain ⟨n4, e4, _⟩ := DataW.trod_int Tryz.underlying3 h5
 simp at e0 e1 e2 e3 e4
 exact ⟨n0, n1, n2, n3, n4, e0, e1, e2, e3, e4⟩
theorem tok_cells5 {cs : List Value} (hl : cs.length = 5) (h : DataW.trod enc Tryz.prog W 0 (fun _ => true) true m 38 cs = some r) : ∃ (t : Tok) (l c : Int), cs = gcells t l c := by
 match cs, hl with
 | [c0, c1, c2, c3, c4], _ =>
  obtain ⟨k, T, X, l, c, rfl, rfl, rfl, rfl, rfl⟩ := tok_cells h
  exact ⟨⟨k, T.data.toList, X.data.toList, 0, 0⟩, l, c, rfl⟩
end

section
variable {H : Type} {enc : TypeId × Value → H} {W : World} {base : Nat} {v : Value} {d : DataW H} {p : List MemPlace}
set_option maxRecDepth 100000 in
theorem open_toks (hv : Value.okWide Tryz.prog W .any base 25 v) (h : DataW.Trod enc Tryz.prog W 0 (fun _ => true) true 25 v d p) : ∃ ts PL PC, TokAtG W v ts PL PC := by
 obtain ⟨a0, len, cap, rfl⟩ := okWide_slice Tryz.underlying25 hv
 obtain ⟨fuel, hf⟩ := h
 rcases Go.Deep.open_slice Tryz.underlying25 hf with ⟨hcs, _⟩ | ⟨a, len', cap', m, n, D, Pl, hcs, _, hl, hm, hmm, _, hel⟩
 ·simp [Value.cells] at hcs
  obtain ⟨rfl, rfl, rfl⟩ := hcs
  exact ⟨[], fun _ => 0, fun _ => 0, none, 0, rfl, fun i z h => by simp at h⟩
 ·simp [Value.cells] at hcs
  obtain ⟨rfl, rfl, rfl⟩ := hcs
  have hml : len ≤ m := by rw [hmm]; split <;> omega
  have each : ∀ i, ∃ g : Tok × Int × Int, i < len → ∀ j u, (gcells g.1 g.2.1 g.2.2)[j]? = some u → W.cell? ((a.add (i * 5)).add j) = some u := by
   intro i
   by_cases hi : i < len
   ·obtain ⟨cs, hc, ht⟩ := hel i (by omega)
    rw [cellsTok] at hc
    obtain ⟨q1, q2, q3⟩ := World.cells?_some hc
    obtain ⟨t, l, c, rfl⟩ := tok_cells5 q2 ht
    exact ⟨(t, l, c), fun _ j u hu => by
     have hj : j < 5 := (List.getElem?_eq_some_iff.1 hu).1
     rw [← hu]
     exact q3 j hj⟩
   ·exact ⟨(Tok.zero, 0, 0), fun h => absurd h hi⟩
  obtain ⟨g, hg⟩ := Classical.axiomOfChoice each
  obtain ⟨b, off, spot⟩ := a
  refine ⟨(List.range len).map fun i => (g i).1, fun i => (g i).2.1, fun i => (g i).2.2, some ⟨b, off, spot⟩, cap, by simp, fun i t hit => ?_⟩
  have hi : i < len := by
   have := (List.getElem?_eq_some_iff.1 hit).1
   simpa using this
  have ht : (g i).1 = t := by
   rw [List.getElem?_map, List.getElem?_range hi] at hit
   simpa using hit
  have h0 := hg i hi 0 _ rfl
  have hspot : spot = none := by simpa [Addr.add] using World.cell?_spot (hg 0 (by omega) 0 _ rfl)
  subst hspot
  refine ⟨b, off, rfl, ?_, fun j u hu => ?_⟩
  ·have := cell_blk h0
   simpa [Addr.add, apply_ite] using this
  ·rw [← ht] at hu
   have h2 := hg i hi j u hu
   rw [show ((⟨b, off, none⟩ : Addr).add (i * 5)).add j = ⟨b, off + i * 5 + j, none⟩ by unfold Addr.add; split <;> split <;> simp_all] at h2
   exact h2
end

end Go.Proofs.YtfhmgkicccfghaaGreatDoor
