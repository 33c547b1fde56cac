/- The walks of package slip: vectors, errors, loops over lists. -/
import Derived.Test.YthhkmihjnnfpgaaGreatDoorShelf
import Derived.Test.YthhkmihjnnfpgaaGreatDoorGPar
import Derived.Test.YthhkmihjnnfpgaaGreatDoorRfH
import Derived.Test.YthhkmihjnnfpgaaGreatDoorVec
import Derived.Test.YthhkmihjnnfpgaaGreatDoorBox
import Derived.Deep.RegionHeld3
import Derived.Laws.ResultCell
import Derived.Deep.Cut
import Derived.Deep.CutRange
import Derived.Deep.DeepCutAuto
import Derived.Outline
import Derived.BigQuiet
import Derived.Deep.QuietTactic
import Derived.LoopTactic
import Derived.Handy
/- The walks of slip and klippelaw42, over texts: klipperef06.Dot. -/
namespace Go.Proofs.YthhkmihjnnfpgaaGreatDoor
set_option linter.all false
open Go.RowKit

set_option maxRecDepth 100000 in
set_option maxHeartbeats 8000000 in
theorem ssum3_of (P1 P2 P3 T1 T2 T3:ByteArray) (bA:Nat) (w:World) (ka:Blk w bA #[.string P1,.string P2,.string P3] 28)
  (h_s1:Ret Tryz.prog w 21 #[.string ⟨#[48]⟩,.string P1] (.string T1))
  (h_s2:Ret Tryz.prog w 21 #[.string T1,.string P2] (.string T2))
  (h_s3:Ret Tryz.prog w 21 #[.string T2,.string P3] (.string T3)) :
  Calls Tryz.prog 33 #[.slice (some ⟨bA,0,none⟩) 3 3] w fun e w'=>e=.returned (.string T3)∧Below w.heap.size w w':=by
 have H_S1:=Lib.hid h_s1
 have H_S2:=Lib.hid h_s2
 have H_S3:=Lib.hid h_s3
 clear h_s1 h_s2 h_s3
 have K0:=Lib.hid ka
 clear ka
 have B:=Lib.hid (Below.refl w.heap.size w)
 go_enter Tryz.func33,Tryz.ntmps33
 go_wp2
 refine wp_loop_rounds 4 ?_
 rw [rounds_succ]
 have c0_0:=K0.out.at_ 0 _ rfl
 go_wp2_with (
  (first
  | (go_at_call 21; with_reducible refine (H_S1.out _ (baseI B.out)).mono ?_)
  | fail "arm"); rintro e wx ⟨rfl,q⟩; replace K0:=Lib.hid (K0.out.nearI q); replace B:=Lib.hid (goI B.out q); clear q; replace c0_0:=K0.out.at_ 0 _ rfl)
 clear c0_0
 rw [rounds_succ]
 have c0_1:=K0.out.at_ 1 _ rfl
 go_wp2_with (
  (first
  | (go_at_call 21; with_reducible refine (H_S2.out _ (baseI B.out)).mono ?_)
  | fail "arm"); rintro e wx ⟨rfl,q⟩; replace K0:=Lib.hid (K0.out.nearI q); replace B:=Lib.hid (goI B.out q); clear q; replace c0_1:=K0.out.at_ 1 _ rfl)
 clear c0_1
 rw [rounds_succ]
 have c0_2:=K0.out.at_ 2 _ rfl
 go_wp2_with (
  (first
  | (go_at_call 21; with_reducible refine (H_S3.out _ (baseI B.out)).mono ?_)
  | fail "arm"); rintro e wx ⟨rfl,q⟩; replace K0:=Lib.hid (K0.out.nearI q); replace B:=Lib.hid (goI B.out q); clear q; replace c0_2:=K0.out.at_ 2 _ rfl)
 clear c0_2
 rw [rounds_succ]
 go_wp2
 go_ret
 exact ⟨rfl,B.out⟩

end Go.Proofs.YthhkmihjnnfpgaaGreatDoor

/- Loops over variadic lists: numbers, vectors, the first error, zeros. -/
namespace Go.Proofs.YthhkmihjnnfpgaaGreatDoor
set_option linter.all false
open Go.RowKit

structure T3 where
 x:ByteArray
 y:ByteArray
 z:ByteArray
def T3.cells (v:T3):List Value:=[.string v.x,.string v.y,.string v.z]
noncomputable def T3.right (v:T3):Bool:=rightQ v.x && (rightQ v.y && rightQ v.z)
def T3.zero (v:T3):Bool:=(v.x.toList == [48]) && ((v.y.toList == [48]) && (v.z.toList == [48]))

end Go.Proofs.YthhkmihjnnfpgaaGreatDoor
