/- Described directions turned round, and the line of two planes: what lineation says of them. -/
import Derived.Test.YtajkeoapfkkjbaaGreatDoorLawLin
namespace Go.Proofs.YtajkeoapfkkjbaaGreatDoor
set_option linter.all false
open Go.RowKit

def negI (a : I3) : I3 := ⟨-a.x, -a.y, -a.z⟩

theorem Desc.neg {a : I3} {d : Nat} (h : Desc a d) : Desc (negI a) d := by
  obtain ⟨⟨a1, a2⟩, ⟨a3, a4⟩, ⟨a5, a6⟩⟩ := h.bd
  refine ⟨⟨⟨?_, ?_⟩, ⟨?_, ?_⟩, ⟨?_, ?_⟩⟩, fun ⟨h1, h2, h3⟩ => h.nz ⟨?_, ?_, ?_⟩, h.d0, h.d3⟩ <;> simp only [negI] at * <;> omega

theorem neg_ofI (a : I3) (d : Nat) : (ofI (negI a) d).x = -(ofI a d).x ∧ (ofI (negI a) d).y = -(ofI a d).y ∧ (ofI (negI a) d).z = -(ofI a d).z := by
  unfold negI ofI
  simp only [Rat.neg_mkRat, and_self]

theorem neg_texts {a : I3} {d : Nat} (h : Desc a d) (w : World) :
    (∀ W, Below w.heap.size w W → Calls Tryz.prog 30 #[.string (canonR (ofI a d).x)] W fun e w' => e = .returned (.string (canonR (ofI (negI a) d).x)) ∧ Below W.heap.size W w') ∧
    (∀ W, Below w.heap.size w W → Calls Tryz.prog 30 #[.string (canonR (ofI a d).y)] W fun e w' => e = .returned (.string (canonR (ofI (negI a) d).y)) ∧ Below W.heap.size W w') ∧
    (∀ W, Below w.heap.size w W → Calls Tryz.prog 30 #[.string (canonR (ofI a d).z)] W fun e w' => e = .returned (.string (canonR (ofI (negI a) d).z)) ∧ Below W.heap.size W w') := by
  obtain ⟨e1, e2, e3⟩ := neg_ofI a d
  rw [e1, e2, e3]
  have z := h.sz
  exact ⟨fun W _ => rneg_any _ W (by have := z.1.text (by omega); omega), fun W _ => rneg_any _ W (by have := z.2.1.text (by omega); omega), fun W _ => rneg_any _ W (by have := z.2.2.text (by omega); omega)⟩

theorem dot_comm (a b : I3) : dotI a b = dotI b a := by
  unfold dotI
  rw [Int.mul_comm a.x, Int.mul_comm a.y, Int.mul_comm a.z]
theorem dot_neg (a b : I3) : dotI a (negI b) = -dotI a b := by
  unfold dotI negI
  simp only [Int.mul_neg]
  omega
theorem dot_negneg (a b : I3) : dotI (negI a) (negI b) = dotI a b := by
  rw [dot_neg, dot_comm, dot_neg, dot_comm b a]
  omega

theorem turned_class (d m : Int) (hm : 0 < m) : (classI d m = 1 → classI (-d) m = 4 ∨ classI (-d) m = 5) ∧ (classI d m = 5 → classI (-d) m = 1) := by
  unfold classI
  have e : 4 * -d * -d = 4 * d * d := by simp only [Int.mul_neg, Int.neg_mul, Int.neg_neg]
  rw [e]
  by_cases hd : d = 0
  · subst hd
    simp only [Int.mul_zero, Int.neg_zero]
    constructor
    · intro h
      rw [if_neg (by omega), if_neg (by omega), if_pos (by omega)] at h
      omega
    · intro h
      rw [if_neg (by omega), if_neg (by omega), if_pos (by omega)] at h
      omega
  · generalize 4 * d * d = f
    constructor <;> intro h <;> revert h <;> (repeat' split) <;> omega

theorem self_one {a : I3} (h : a.nz) : rdiv2 (dotI a (negI a) * dotI a (negI a)) (dotI a a * dotI (negI a) (negI a)) = 1 := by
  have p := dot_self_pos h
  have hq : dotI a a * dotI a a ≠ 0 := fun h => by rcases Int.mul_eq_zero.1 h with h | h <;> omega
  rw [dot_neg, dot_negneg, Int.neg_mul_neg, rdiv2_eq _ _ hq]
  have := cast_ne hq
  grind

/-- The line of two planes lies in both. -/
theorem line_in {a b : I3} (h : (crossI a b).nz) : dotI a (downI (crossI a b)) = 0 ∧ dotI b (downI (crossI a b)) = 0 := by
  obtain ⟨t, _, h1, h2, h3⟩ := down_times h
  have go : ∀ c : I3, c.x * (crossI a b).x + c.y * (crossI a b).y + c.z * (crossI a b).z = 0 → dotI c (downI (crossI a b)) = 0 := fun c hc => by
    have : ((dotI c (downI (crossI a b)) : Int) : Rat) = t * ((c.x * (crossI a b).x + c.y * (crossI a b).y + c.z * (crossI a b).z : Int) : Rat) := by
      unfold dotI
      push_cast
      rw [h1, h2, h3]
      grind
    rw [hc] at this
    rw [show ((0 : Int) : Rat) = 0 from rfl, Rat.mul_zero] at this
    exact_mod_cast this
  exact ⟨go a (by unfold crossI; simp only; grind), go b (by unfold crossI; simp only; grind)⟩

theorem lies_line {a : I3} {d : Nat} (ha : Desc a d) (l : I3) (hb : Bd l 800) (hn : l.nz) (h0 : dotI a l = 0) (w : World) (he : Env w) :
    Calls Tryz.prog 22 #[.agg #[.string (canonR (ofI a d).x), .string (canonR (ofI a d).y), .string (canonR (ofI a d).z)], .agg #[.string (canonR l.rat.x), .string (canonR l.rat.y), .string (canonR l.rat.z)]] w fun e w' => e = .returned (.tuple #[.bool true, .int .i64 0]) ∧ Below w.heap.size w w' := by
  have hl : Dir l.rat 3 := ⟨rat_sz hb 3 (by omega) (by omega), fun hz => by
    rw [rat_ofI] at hz
    exact ((ofI_zero _ _ (by omega)).1 hz) hn⟩
  have hd : Dir (ofI a d) 3 := ⟨ha.sz.mono (by omega), ha.nzR⟩
  have := dlies (N := 3) (by omega) (by omega) hd hl w he
  have e : dotR (ofI a d) l.rat = 0 := by
    rw [rat_ofI, dot_ofI, h0, show ((0 : Int) : Rat) = 0 from rfl, Rat.mul_zero]
  rw [decide_eq_true e] at this
  exact this

end Go.Proofs.YtajkeoapfkkjbaaGreatDoor
