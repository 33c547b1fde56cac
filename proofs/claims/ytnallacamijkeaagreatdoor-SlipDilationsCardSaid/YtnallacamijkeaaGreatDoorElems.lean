/- The element types of the slices that grow. -/
import Derived.Test.YtnallacamijkeaaGreatDoorShelf
import Derived.Test.YtnallacamijkeaaGreatDoorApp
namespace Go.Proofs.YtnallacamijkeaaGreatDoor
set_option linter.all false
open Go.RowKit

theorem ElV : StrElem Tryz.prog 63 29 3 48 := ⟨Tryz.underlying63, by kernel_rfl, by omega, by omega⟩

end Go.Proofs.YtnallacamijkeaaGreatDoor
