/- Words and Text of klippelaw51. -/
import Derived.Test.YtfhmgkicccfghaaGreatDoorLexZB
namespace Go.Proofs.YtfhmgkicccfghaaGreatDoor
set_option linter.all false
open Go.RowKit

def wordsL : List (List UInt8) := [[97], [66, 101, 100, 95, 50], [49, 50], [45, 51], [51, 47, 52], [49, 46, 53], [45, 62], [60, 61], [62, 61], [33, 61], [40], [41], [91], [93], [123], [125], [58], [44], [59], [61], [60], [62], [43], [42], [47], [46], [64], [124], [38], [45], [32], [9], [10], [13], [35, 32, 120], [34, 113, 32, 114, 34], [34], [36], [49, 47, 48], [195, 169]]
def wordL (z : Int) : List UInt8 := wordsL[(z % 40).toNat]?.getD []
theorem words_all : ∀ x ∈ wordsL, x.length ≤ 5 ∧ x.countP isDig ≤ 2 ∧ (x.length ≤ 5 ∧ (10 ∈ x → x = [10])) := by decide
theorem word_ok (z : Int) : (wordL z).length ≤ 5 ∧ (wordL z).countP isDig ≤ 2 ∧ (10 ∈ wordL z → wordL z = [10]) := by
 unfold wordL
 cases h : wordsL[(z % 40).toNat]? with
 | none => exact ⟨by decide, by decide, by intro h; cases h⟩
 | some x => exact ⟨(words_all x (List.mem_of_getElem? h)).1, (words_all x (List.mem_of_getElem? h)).2.1, (words_all x (List.mem_of_getElem? h)).2.2.2⟩
def U8At (W : World) (v : Value) (zs : List Int) : Prop :=
 ∃ a c, v = .slice a zs.length c ∧ ∀ i z, zs[i]? = some z → 0 ≤ z ∧ z ≤ 255 ∧ ∃ d o, a = some ⟨d, o, none⟩ ∧ d < W.heap.size ∧ W.cell? ⟨d, o + i, none⟩ = some (.int .u8 z)
theorem U8At.below {W W' : World} {v : Value} {zs : List Int} (h : U8At W v zs) (q : Below W.heap.size W W') : U8At W' v zs := by
 obtain ⟨a, c, h1, h2⟩ := h
 refine ⟨a, c, h1, fun i z hz => ?_⟩
 obtain ⟨e0, e1, d, o, e2, e3, e4⟩ := h2 i z hz
 exact ⟨e0, e1, d, o, e2, Nat.lt_of_lt_of_le e3 q.size, (q.cell (p := ⟨d, _, none⟩) e3).trans e4⟩

end Go.Proofs.YtfhmgkicccfghaaGreatDoor
