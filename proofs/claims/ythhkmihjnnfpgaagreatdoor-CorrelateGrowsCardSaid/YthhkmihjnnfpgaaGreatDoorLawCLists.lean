/- CorrelateLists: the walk. -/
import Derived.Test.YthhkmihjnnfpgaaGreatDoorGCorG
import Derived.Test.YthhkmihjnnfpgaaGreatDoorGCorTa
import Derived.BigQuiet
import Derived.Test.YthhkmihjnnfpgaaGreatDoorGCorB
import Derived.Test.YthhkmihjnnfpgaaGreatDoorGCorRa
import Derived.Test.YthhkmihjnnfpgaaGreatDoorGCorU
import Derived.Test.YthhkmihjnnfpgaaGreatDoorGCorY
namespace Go.Proofs.YthhkmihjnnfpgaaGreatDoor
set_option linter.all false
open Go.RowKit

attribute [local go_sem] Oper.semAt_some

theorem allW_slen (q:CQ) (ok:OkQ q):∀ s ∈ allW q 0 0,s.length≤12:=by
 have h:∀ (d i j:Nat),left q i j=d→i≤q.L.length→j≤q.R.length→∀ s ∈ allW q i j,s.length≤d:=by
  intro d
  induction d using Nat.strongRecOn with
  | ind d ih =>
  intro i j hd hi hj s hs
  by_cases hne:i=q.L.length∧j=q.R.length
  ·obtain ⟨rfl,rfl⟩:=hne
   rw [allW_end] at hs
   simp at hs
   subst hs
   exact Nat.zero_le _
  ·rw [allW_eq q i j hi hj hne,List.mem_flatMap] at hs
   obtain ⟨k,hk,hs⟩:=hs
   obtain ⟨h1,h2⟩:=List.mem_filter.1 hk
   have ho:=(of_decide_eq_true h2).1
   have h3:=left_nx h1 ho
   obtain ⟨s',hs',rfl⟩:=List.mem_map.1 hs
   have h4:=ih _ (by omega) _ _ rfl ho.1 ho.2.1 s' hs'
   rw [List.length_cons]
   omega
 intro s hs
 have h1:=h _ 0 0 rfl (Nat.zero_le _) (Nat.zero_le _) s hs
 have:=ok.hl
 have:=ok.hr
 unfold left at h1
 omega

end Go.Proofs.YthhkmihjnnfpgaaGreatDoor
