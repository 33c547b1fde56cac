/- Slices of bytes and of tokens that a row hands in. -/
import Derived.Test.YtfhmgkicccfghaaGreatDoorLexZC
import Derived.Test.YtfhmgkicccfghaaGreatDoorShaped
import Derived.ChangeSlices
import Derived.ChangeMaps5
namespace Go.Proofs.YtfhmgkicccfghaaGreatDoor
set_option linter.all false
open Go.ChangeShapes Go.WideShapes Go.ChangeAt Go.RowKit Go.ChangeMaps

section
variable {H : Type} {enc : TypeId × Value → H} {W : World} {base : Nat} {v : Value} {d : DataW H} {p : List MemPlace}
theorem cell_blk {a : Addr} {u : Value} (h : W.cell? a = some u) : a.block < W.heap.size := World.cells?_block (base := 0) (cells?_one (Nat.zero_le _) h) (by omega)
end

end Go.Proofs.YtfhmgkicccfghaaGreatDoor
