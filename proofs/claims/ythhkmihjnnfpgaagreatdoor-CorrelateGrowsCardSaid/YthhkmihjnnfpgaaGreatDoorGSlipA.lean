/- The walks of package slip: vectors, errors, loops over lists. -/
import Derived.Test.YthhkmihjnnfpgaaGreatDoorShelf
import Derived.Test.YthhkmihjnnfpgaaGreatDoorGPar
import Derived.Test.YthhkmihjnnfpgaaGreatDoorRfH
import Derived.Test.YthhkmihjnnfpgaaGreatDoorVec
import Derived.Test.YthhkmihjnnfpgaaGreatDoorBox
import Derived.Deep.RegionHeld3
import Derived.Laws.ResultCell
import Derived.Deep.Cut
import Derived.Deep.CutRange
import Derived.Deep.DeepCutAuto
import Derived.BigQuiet
import Derived.Deep.QuietTactic
import Derived.LoopTactic
import Derived.Outline
import Derived.Handy
/- Loops over variadic lists: numbers, vectors, the first error, zeros. -/
namespace Go.Proofs.YthhkmihjnnfpgaaGreatDoor
set_option linter.all false
open Go.RowKit

structure T3 where
 x:ByteArray
 y:ByteArray
 z:ByteArray
def T3.cells (v:T3):List Value:=[.string v.x,.string v.y,.string v.z]
def T3.small (v:T3):Prop:=v.x.size≤1000000∧v.y.size≤1000000∧v.z.size≤1000000
noncomputable def T3.right (v:T3):Bool:=rightQ v.x && (rightQ v.y && rightQ v.z)
def T3.zero (v:T3):Bool:=(v.x.toList == [48]) && ((v.y.toList == [48]) && (v.z.toList == [48]))

end Go.Proofs.YthhkmihjnnfpgaaGreatDoor
