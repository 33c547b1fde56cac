/- The walks of klipperef02.Parts, at any text and at a number; of Add and Mul. -/
import Derived.Test.YtfhmgkicccfghaaGreatDoorRatQ
import Derived.WalkSmall
import Derived.Test.YtfhmgkicccfghaaGreatDoorRat
import Derived.Test.YtfhmgkicccfghaaGreatDoorGInt
import Derived.BigQuiet
import Derived.Test.YtfhmgkicccfghaaGreatDoorRatB
import Derived.Test.YtfhmgkicccfghaaGreatDoorGRefA
import Derived.Test.YtfhmgkicccfghaaGreatDoorProg
import Derived.Test.YtfhmgkicccfghaaGreatDoorGPlain
import Derived.Test.YtfhmgkicccfghaaGreatDoorGMag
import Derived.BigRegion
import Derived.Test.YtfhmgkicccfghaaGreatDoorRatA
import Derived.Test.YtfhmgkicccfghaaGreatDoorGRefB
import Derived.Test.YtfhmgkicccfghaaGreatDoorGText
import Derived.Test.YtfhmgkicccfghaaGreatDoorShelf
import Derived.Lib.IndexLaws
namespace Go.Proofs.YtfhmgkicccfghaaGreatDoor
set_option linter.all false
open Go.RowKit

theorem ba_of_list (s : ByteArray) (l : List UInt8) (h : s.data.toList = l) : s = ⟨l.toArray⟩ := by
 subst h
 rfl

end Go.Proofs.YtfhmgkicccfghaaGreatDoor
