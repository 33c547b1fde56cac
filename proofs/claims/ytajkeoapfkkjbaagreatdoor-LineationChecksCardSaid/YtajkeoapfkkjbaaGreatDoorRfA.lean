/- The walk of klipperef02.brief: a number of at most nine bytes as two ints. -/
import Derived.Test.YtajkeoapfkkjbaaGreatDoorRatQ
import Derived.WalkSmall
namespace Go.Proofs.YtajkeoapfkkjbaaGreatDoor
set_option linter.all false
open Go.RowKit

theorem ratT_end (n : Int) (d : Nat) : (Lib.itoa n).length < (ratT n d).size ↔ d ≠ 1 := by
  have hsz : (ratT n d).size = (ratL n d).length := rfl
  rw [hsz]
  unfold ratL
  by_cases hd : d = 1
  · rw [if_pos hd]; simp [hd]
  · rw [if_neg hd]; simp [hd]

/-- A number is brief: its text has at most nine bytes. -/
def brf (q : Rat) : Bool := decide ((canonR q).size ≤ 9)

theorem brf_lt (q : Rat) (h : brf q = true) : q.num.natAbs < 1000000000 ∧ q.den < 1000000000 := by
  have h1 : (canonR q).size ≤ 9 := of_decide_eq_true h
  have hsz : (canonR q).size = (ratL q.num q.den).length := rfl
  have h2 : (mdig q.num).length ≤ (Lib.itoa q.num).length := by
    rcases itoa_cases q.num with ⟨_, e⟩ | ⟨_, e⟩
    · rw [e]; exact Nat.le_refl _
    · rw [e, List.length_cons]; omega
  have h3 : short q = true := by
    refine decide_eq_true ⟨?_, fun hd => ?_⟩
    · have : (Lib.itoa q.num).length ≤ (ratL q.num q.den).length := by
        unfold ratL
        split
        · exact Nat.le_refl _
        · rw [List.length_append]; omega
      omega
    · have : (ratL q.num q.den).length = (Lib.itoa q.num).length + (1 + (Lib.decDigits q.den).length) := by
        unfold ratL
        rw [if_neg hd, List.length_append, List.length_cons]; omega
      omega
  exact short_lt q h3

end Go.Proofs.YtajkeoapfkkjbaaGreatDoor
