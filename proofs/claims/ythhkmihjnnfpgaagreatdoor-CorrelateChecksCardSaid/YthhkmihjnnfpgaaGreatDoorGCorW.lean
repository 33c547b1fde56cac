/- The law's fronts and proves of chapter 44. -/
import Derived.Test.YthhkmihjnnfpgaaGreatDoorGCorV
import Derived.Test.YthhkmihjnnfpgaaGreatDoorGCorRa
import Derived.Test.YthhkmihjnnfpgaaGreatDoorGCorY
import Derived.BigQuiet
/- The law's proves. -/
namespace Go.Proofs.YthhkmihjnnfpgaaGreatDoor
set_option linter.all false
open Go.RowKit

attribute [local go_sem] Oper.semAt_some

set_option maxRecDepth 100000 in
set_option maxHeartbeats 8000000 in
theorem lwrong_any (T:ByteArray) (hT:T.size≤1000000) (w:World) (he:Env w):Ret Tryz.prog w 42 #[.string T] (.bool (!(rightQ T))):=by
 intro W hW
 have HCK:=Lib.hid (rcheck_any T W (he.below hW) hT)
 have B:=Lib.hid (Below.refl W.heap.size W)
 clear hW he
 cases hr:rightQ T with
 | true =>
  rw [hr] at HCK
  have HC2:Hid (Calls Tryz.prog 72 #[.string T] W fun e w'=>e=.returned (.int .i64 0)∧Below W.heap.size W w'):=Lib.hid HCK.out
  clear HCK hr
  go_enter Tryz.func42,Tryz.ntmps42
  go_wp2_with (first
   | (go_at_call 72; with_reducible refine HC2.out.mono ?_; rintro e w2 ⟨rfl,q2⟩; replace B:=Lib.hid q2; clear q2)
   | fail "arm")
  go_ret
  exact ⟨rfl,B.out⟩
 | false =>
  rw [hr] at HCK
  have HC2:Hid (Calls Tryz.prog 72 #[.string T] W fun e w'=>e=.returned (.int .i64 2)∧Below W.heap.size W w'):=Lib.hid HCK.out
  clear HCK hr
  go_enter Tryz.func42,Tryz.ntmps42
  go_wp2_with (first
   | (go_at_call 72; with_reducible refine HC2.out.mono ?_; rintro e w2 ⟨rfl,q2⟩; replace B:=Lib.hid q2; clear q2)
   | fail "arm")
  go_ret
  exact ⟨rfl,B.out⟩

end Go.Proofs.YthhkmihjnnfpgaaGreatDoor
