/- The question of a plan of chapter 44. -/
import Derived.Test.YthhkmihjnnfpgaaGreatDoorPar6
import Derived.Test.YthhkmihjnnfpgaaGreatDoorGCorU
/- Drawn regions whose calls make rows of unknown room: tables with parameters that are settled on the way. No program in sight. -/
namespace Go.Proofs.YthhkmihjnnfpgaaGreatDoor
set_option linter.all false
open Go.RowKit

section
variable {ι:Type} {P:Program} {ops:Array Oper} {Q:Exit→Act→World→Prop} {w:World}
theorem Wants.mono {ops:Array Oper} {σ:Nat→Value} {o:Oper} {p p' q q':Prop} (h:Wants ops σ o p q) (hp:p→p') (hq:q→q'):Wants ops σ o p' q':=by
 unfold Wants at *
 cases hg:o.guard with
 | none=>rw [hg] at h; exact hp h
 | some g =>
  obtain ⟨j,want⟩:=g
  rw [hg] at h
  obtain ⟨s,v,h1,h2,h3,h4⟩:=h
  exact ⟨s,v,h1,h2,fun e=>hp (h3 e),fun e=>hq (h4 e)⟩
end

end Go.Proofs.YthhkmihjnnfpgaaGreatDoor

/- The questions of plans. -/
namespace Go.Proofs.YthhkmihjnnfpgaaGreatDoor
set_option linter.all false
open Go.RowKit

attribute [local go_sem] Oper.semAt_some

structure BAt (W:World) (v:Value) (l:List Bt):Prop where
 at_:SAt Bt.cells 3 W v l
 cap:∃ a c,v=.slice a l.length c∧l.length≤c
theorem BAt.below {W W':World} {v:Value} {l:List Bt} (h:BAt W v l) (k:Below W.heap.size W W'):BAt W' v l:=⟨h.at_.below k,h.cap⟩

end Go.Proofs.YthhkmihjnnfpgaaGreatDoor
