/- The element types of the slices that grow. -/
import Derived.Test.YtopilnlniidejaaGreatDoorShelf
import Derived.Test.YtopilnlniidejaaGreatDoorApp
namespace Go.Proofs.YtopilnlniidejaaGreatDoor
set_option linter.all false
open Go.RowKit

theorem ElV : StrElem Tryz.prog 36 24 3 48 := ⟨Tryz.underlying36, by kernel_rfl, by omega, by omega⟩

end Go.Proofs.YtopilnlniidejaaGreatDoor
