/- integer.divide at whatever divisor that is not zero. -/
import Derived.Test.YtmkeigfckfkifaaDoorDivB
namespace Go.Proofs.YtmkeigfckfkifaaDoor
open Go.RowKit

theorem divide_any (A A' : Option Addr) (c c' a b : Nat) (w : World) (ha : Sl w .u64 A c (lim9 a)) (hb : Sl w .u64 A' c' (lim9 b)) (hla : (lim9 a).length ≤ 20000) (hlb : (lim9 b).length ≤ 20000) (hb0 : 0 < b) :
    Calls Tryd.prog 47 #[.slice A (lim9 a).length c, .slice A' (lim9 b).length c'] w fun e w' => ∃ A1 c1 A2 c2, e = .returned (.tuple #[.slice A1 (lim9 (a / b)).length c1, .slice A2 (lim9 (a % b)).length c2]) ∧
      Sl w' .u64 A1 c1 (lim9 (a / b)) ∧ Sl w' .u64 A2 c2 (lim9 (a % b)) ∧ Below w.heap.size w w' := by
  rcases Nat.lt_or_ge a b with hlt | hge
  · refine (divide_less A A' c c' a b w ha hb (by omega) (by omega) hlt).mono fun e w' ⟨h1, h2⟩ => ?_
    rw [Nat.div_eq_of_lt hlt, Nat.mod_eq_of_lt hlt]
    exact ⟨none, 0, A, c, h1, Sl.nil_, ha.below h2, h2⟩
  · rcases Nat.lt_or_ge (lim9 b).length 2 with h1 | h2
    · have hb9 : b < 1000000000 := by
        have h3 := lim_lt_pow 1000000000 (by omega) b
        have h4 : (1000000000 : Nat) ^ (lim 1000000000 b).length ≤ 1000000000 ^ 1 := Nat.pow_le_pow_right (by omega) (by have : (lim9 b).length = (lim 1000000000 b).length := rfl; omega)
        omega
      rw [lim9_one b hb0 hb9] at hb ⊢
      exact divide_one A A' c c' a b w ha hb (by omega) hb0 hb9 hge
    · exact divide_many A A' c c' a b w ha hb hla h2 hge

end Go.Proofs.YtmkeigfckfkifaaDoor
