/- What fits: texts of right numbers of at most 80 digits a part; fits at slices that were just built; rational.Sum, Min and Max. -/
import Derived.Test.YthhkmihjnnfpgaaGreatDoorGRfD
namespace Go.Proofs.YthhkmihjnnfpgaaGreatDoor
set_option linter.all false
open Go.RowKit

theorem dec_lt_pow (n k:Nat) (h:(Lib.decDigits n).length≤k):n < 10 ^ k:=by
 have h1:=dval_lt (decDigits_all n)
 rw [decDigits_val] at h1
 have h2:(10:Nat) ^ (Lib.decDigits n).length≤10 ^ k:=Nat.pow_le_pow_right (by omega) h
 omega

end Go.Proofs.YthhkmihjnnfpgaaGreatDoor
