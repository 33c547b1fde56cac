/- The element type of lists of shifts. -/
import Derived.Test.YtopilnlniidejaaGreatDoorShelf
import Derived.Test.YtopilnlniidejaaGreatDoorApp
namespace Go.Proofs.YtopilnlniidejaaGreatDoor
set_option linter.all false
open Go.RowKit

theorem ElS : StrElem Tryz.prog 60 35 5 80 := ⟨Tryz.underlying60, by kernel_rfl, by omega, by omega⟩

end Go.Proofs.YtopilnlniidejaaGreatDoor
