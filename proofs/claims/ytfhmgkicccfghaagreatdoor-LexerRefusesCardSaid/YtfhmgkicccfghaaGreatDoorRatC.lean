/- The walks of rational.Neg, Sign, Sub, Middle, Floor, nearest, New and Of. -/
import Derived.Test.YtfhmgkicccfghaaGreatDoorRatB
import Derived.Test.YtfhmgkicccfghaaGreatDoorGText
namespace Go.Proofs.YtfhmgkicccfghaaGreatDoor
set_option linter.all false
open Go.RowKit

def half : Rat := mkRat 1 2
theorem half_num : half.num = 1 := by decide
theorem half_den : half.den = 2 := by decide
theorem k_2 : canon 2 = ⟨#[50]⟩ := canon_dig 2 (by omega)
theorem k_half : canonR half = ⟨#[49, 47, 50]⟩ := by
 unfold canonR
 rw [half_num, half_den, ratT_frac 1 2 (by omega), k_1, show ((2 : Nat) : Int) = 2 from rfl, k_2]
 rfl

end Go.Proofs.YtfhmgkicccfghaaGreatDoor
