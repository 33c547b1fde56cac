/- Vectors of rational numbers: bounds of their digits, and the sum of three numbers. -/
import Derived.Test.YthhkmihjnnfpgaaGreatDoorRatD
import Derived.Test.YthhkmihjnnfpgaaGreatDoorGRatC
import Derived.Test.YthhkmihjnnfpgaaGreatDoorGLinP
import Derived.Test.YthhkmihjnnfpgaaGreatDoorBox
import Derived.Test.YthhkmihjnnfpgaaGreatDoorRfF
namespace Go.Proofs.YthhkmihjnnfpgaaGreatDoor
set_option linter.all false
open Go.RowKit

theorem Sz.int (n:Int) (N:Nat) (h:n.natAbs < 10 ^ N) (h0:0 < N):Sz (n:Rat) N:=⟨h,by show 1 < 10 ^ N; exact Nat.one_lt_pow (by omega) (by omega)⟩

def Sz3 (v:V3) (N:Nat):Prop:=Sz v.x N∧Sz v.y N∧Sz v.z N
theorem Sz3.mono {v:V3} {N M:Nat} (h:Sz3 v N) (hNM:N≤M):Sz3 v M:=⟨h.1.mono hNM,h.2.1.mono hNM,h.2.2.mono hNM⟩
theorem right_of_sz {q:Rat} {N:Nat} (h:Sz q N) (h0:0 < N) (hN:N≤200):rightQ (canonR q)=true :=
 rightQ_true ⟨q,rfl,Nat.le_trans (decDigits_len_le N _ h.1 h0) hN,Nat.le_trans (decDigits_len_le N _ h.2 h0) hN⟩

end Go.Proofs.YthhkmihjnnfpgaaGreatDoor
