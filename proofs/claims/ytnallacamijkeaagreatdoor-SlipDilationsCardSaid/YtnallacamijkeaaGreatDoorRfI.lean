/- Quotients of two integers of whatever sign: the walks of rational.New and Of, and of klipperef02.Fraction and Of. -/
import Derived.Test.YtnallacamijkeaaGreatDoorRfH
namespace Go.Proofs.YtnallacamijkeaaGreatDoor
set_option linter.all false
open Go.RowKit

def rdiv2 (x y : Int) : Rat := mkRat (if y < 0 then -x else x) y.natAbs

end Go.Proofs.YtnallacamijkeaaGreatDoor
