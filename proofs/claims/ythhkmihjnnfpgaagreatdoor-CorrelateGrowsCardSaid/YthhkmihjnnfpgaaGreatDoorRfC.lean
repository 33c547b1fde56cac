/- The walks of klipperef02.Parts, at any text and at a number; of Add and Mul. -/
import Derived.Test.YthhkmihjnnfpgaaGreatDoorGRat
import Derived.WalkSmall
import Derived.Test.YthhkmihjnnfpgaaGreatDoorGRatA
import Derived.Test.YthhkmihjnnfpgaaGreatDoorGRefA
import Derived.Test.YthhkmihjnnfpgaaGreatDoorProg
import Derived.Test.YthhkmihjnnfpgaaGreatDoorGPlain
import Derived.Test.YthhkmihjnnfpgaaGreatDoorGMag
import Derived.BigRegion
import Derived.Test.YthhkmihjnnfpgaaGreatDoorGInt
import Derived.Test.YthhkmihjnnfpgaaGreatDoorGRefB
import Derived.Test.YthhkmihjnnfpgaaGreatDoorGText
import Derived.Test.YthhkmihjnnfpgaaGreatDoorShelf
import Derived.Lib.IndexLaws
namespace Go.Proofs.YthhkmihjnnfpgaaGreatDoor
set_option linter.all false
open Go.RowKit

theorem split47 (l:List UInt8):(∀ c ∈ l,c ≠ 47) ∨ ∃ a b,l=a ++ 47 :: b∧∀ c ∈ a,c ≠ 47:=by
 induction l with
 | nil=>exact .inl (fun c h=>by simp at h)
 | cons c l ih =>
  by_cases hc:c=47
  ·exact .inr ⟨[],l,by rw [hc]; rfl,fun c h=>by simp at h⟩
  ·rcases ih with h | ⟨a,b,h1,h2⟩
   ·refine .inl (fun z hz=>?_)
    rcases List.mem_cons.1 hz with rfl | hz
    ·exact hc
    ·exact h z hz
   ·refine .inr ⟨c :: a,b,by rw [h1]; rfl,fun z hz=>?_⟩
    rcases List.mem_cons.1 hz with rfl | hz
    ·exact hc
    ·exact h2 z hz

theorem ba_of_list (s:ByteArray) (l:List UInt8) (h:s.data.toList=l):s=⟨l.toArray⟩:=by
 subst h
 rfl

end Go.Proofs.YthhkmihjnnfpgaaGreatDoor
