/- The walk of rational.quick: a short number as two ints. -/
import Derived.Test.YtfhmgkicccfghaaGreatDoorRat
import Derived.WalkSmall
namespace Go.Proofs.YtfhmgkicccfghaaGreatDoor
set_option linter.all false
open Go.RowKit

theorem ba_get {T : ByteArray} {l : List UInt8} (h : T.data.toList = l) (i : Nat) (hi : i < T.size) : T[i] = l[i]'(by rw [← h, ← Lib.size_eq]; exact hi) := by
 have h1 : T[i] = T.data.toList[i]'(by rw [← Lib.size_eq]; exact hi) := rfl
 rw [h1]
 simp [h]

end Go.Proofs.YtfhmgkicccfghaaGreatDoor
