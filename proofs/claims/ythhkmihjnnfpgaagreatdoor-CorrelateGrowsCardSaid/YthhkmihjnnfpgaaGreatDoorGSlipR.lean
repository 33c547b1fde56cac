/- Package slip and the references over rational numbers. -/
import Derived.Test.YthhkmihjnnfpgaaGreatDoorGSlipA
import Derived.Test.YthhkmihjnnfpgaaGreatDoorShelf
import Derived.Test.YthhkmihjnnfpgaaGreatDoorGPar
import Derived.Test.YthhkmihjnnfpgaaGreatDoorGSlipP
import Derived.Deep.RegionHeld3
import Derived.Laws.ResultCell
import Derived.Deep.Cut
import Derived.Deep.CutRange
import Derived.Deep.DeepCutAuto
import Derived.Outline
/- Package slip over rational numbers: errors of any texts, vectors, the place where planes meet. -/
namespace Go.Proofs.YthhkmihjnnfpgaaGreatDoor
set_option linter.all false
open Go.RowKit

noncomputable def e2 (b:Bool):Int:=if b=true then 0 else 2
section
variable (w:World)
end

def V3.t (v:V3):T3:=⟨canonR v.x,canonR v.y,canonR v.z⟩
theorem canonR0:canonR 0=⟨#[48]⟩:=by
 rw [canonR_zero,show canon 0=(⟨#[48]⟩:ByteArray) from ba_of_list _ _ (by rw [← ByteArray.toList_eq]; exact eq_of_beq (canon_beq0 0))]
theorem Sz.zero (N:Nat) (h:0 < N):Sz 0 N:=⟨by show 0 < 10 ^ N; exact Nat.pow_pos (by omega),by show 1 < 10 ^ N; exact Nat.one_lt_pow (by omega) (by omega)⟩
section
variable (u v:V3) (N:Nat) (hN0:0 < N)
include hN0
end

theorem Sz3.add {u v:V3} {N:Nat} (hu:Sz3 u N) (hv:Sz3 v N):Sz3 (u.add v) (N + N + 1):=⟨hu.1.add hv.1,hu.2.1.add hv.2.1,hu.2.2.add hv.2.2⟩
section
variable (n0 n1 n2:V3) (b0 b1 b2:Rat) (hn0:R3 n0 20 18) (hn1:R3 n1 20 18) (hn2:R3 n2 20 18)
include hn0 hn1 hn2
end

end Go.Proofs.YthhkmihjnnfpgaaGreatDoor
