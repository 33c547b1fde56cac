/- The walks of rational.power, and of Parse and Decimal at the chapter's examples; the examples of the chapter hold. -/
import Derived.Test.YtfhmgkicccfghaaGreatDoorRatE
import Derived.BigQuiet
namespace Go.Proofs.YtfhmgkicccfghaaGreatDoor
set_option linter.all false
open Go.RowKit

theorem canon_digs (n : Nat) (c : UInt8) (m : List UInt8) (hd : AllDig (c :: m)) (hc : c.toNat ≠ 48) (hn : dval (c :: m) = n) : canon (n : Int) = ⟨(c :: m).toArray⟩ := by
 rw [canon_nat, ← hn, ← eq_dec hd hc]

def r94 : Rat := mkRat 9 4

end Go.Proofs.YtfhmgkicccfghaaGreatDoor
