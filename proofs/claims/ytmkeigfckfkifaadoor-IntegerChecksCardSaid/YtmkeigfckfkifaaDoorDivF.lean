/- integer.divide at a multiple of one piece. -/
import Derived.Test.YtmkeigfckfkifaaDoorDivA
namespace Go.Proofs.YtmkeigfckfkifaaDoor
open Go.RowKit

theorem lim9_one (f : Nat) (hf0 : 0 < f) (hf9 : f < 1000000000) : lim9 f = [(f : Int)] := by
  unfold lim9
  rw [lim_pos 1000000000 (by omega) f hf0, Nat.mod_eq_of_lt hf9, Nat.div_eq_of_lt hf9, lim_zero]

theorem divide_exact (A A' : Option Addr) (c c' s f : Nat) (w : World) (ha : Sl w .u64 A c (lim9 (s * f))) (hb : Sl w .u64 A' c' [(f : Int)]) (hla : (lim9 (s * f)).length ≤ 60000) (hf0 : 0 < f) (hf9 : f < 1000000000) :
    Calls Tryd.prog 47 #[.slice A (lim9 (s * f)).length c, .slice A' 1 c'] w fun e w' => ∃ A1 c1 A2 n2 c2, e = .returned (.tuple #[.slice A1 (lim9 s).length c1, .slice A2 n2 c2]) ∧
      Sl w' .u64 A1 c1 (lim9 s) ∧ Below w.heap.size w w' := by
  rcases Nat.eq_zero_or_pos s with h | h
  · subst h
    have h1 := divide_less A A' c c' (0 * f) f w ha (by rw [lim9_one f hf0 hf9]; exact hb) hla (by rw [lim9_one f hf0 hf9]; simp) (by omega)
    rw [lim9_one f hf0 hf9] at h1
    refine h1.mono fun e w' ⟨h2, h3⟩ => ⟨none, 0, A, _, c, h2, Sl.nil_, h3⟩
  · have h1 := divide_one A A' c c' (s * f) f w ha hb hla hf0 hf9 (Nat.le_mul_of_pos_left f h)
    rw [Nat.mul_div_cancel s hf0] at h1
    exact h1.mono fun e w' ⟨A1, c1, A2, c2, h2, h3, _, h4⟩ => ⟨A1, c1, A2, _, c2, h2, h3, h4⟩

end Go.Proofs.YtmkeigfckfkifaaDoor
