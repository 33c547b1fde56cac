/- The walks of the reference on pieces of four digits. -/
import Derived.Test.YthhkmihjnnfpgaaGreatDoorProg
import Derived.Test.YthhkmihjnnfpgaaGreatDoorGPlain
import Derived.Test.YthhkmihjnnfpgaaGreatDoorGMag
import Derived.Test.YthhkmihjnnfpgaaGreatDoorGText
import Derived.BigRegion
import Derived.Deep.QuietTactic
import Derived.BigQuiet
/- 'append(s, r...)' onto a slice of the call's own, and a store into one. -/
namespace Go.Proofs.YthhkmihjnnfpgaaGreatDoor
set_option linter.all false
open Go.RowKit

section
variable {P:Program} {t e:TypeId} {k:IntKind} {bytes base n c:Nat} {w:World} {A:Option Addr} {l:List Int}

theorem Own.at_ (h:Own w base e k A n c l) (hn:0 < n):∃ g,A=some ⟨g,0,none⟩∧base≤g∧g < w.heap.size∧(∀ i:Nat,i < n→w.cell? ⟨g,i,none⟩=some (.int k (l[i]?.getD 0)))∧(∀ i:Nat,w.frozen? ⟨g,i,none⟩=false) ∧
  (∀ (i:Nat) (v:Int),i < n→Own (w.setCell ⟨g,i,none⟩ (.int k v)) base e k (some ⟨g,0,none⟩) n c (l.set i v)):=by
 have hl:=h.len
 rcases h.form with ⟨rfl,rfl,rfl⟩ | ⟨g,cur,rfl,hg,hh,hnc,hc,hs,ht⟩
 ·omega
 ·obtain ⟨b,o,e1,hlt,hcell⟩:=h.sl.at_ (by omega)
  injection e1 with e1
  injection e1 with e1 e2
  subst e1 e2
  refine ⟨g,rfl,hg,hlt,fun i hi=>?_,fun i=>by simp [World.frozen?,hh],fun i v hi=>?_⟩
  ·have:=hcell i (by omega)
   rw [Nat.zero_add] at this
   exact this
  ·refine ⟨by simp [hl],by simp [hl],.inr ⟨g,c,cur.setIfInBounds i (.int k v),rfl,hg,by simp [World.setCell,Array.getElem?_modify,hh],hnc,hc,by simp [hs],?_⟩⟩
   rw [Array.toList_setIfInBounds,List.take_set,ht,List.map_set]

end

end Go.Proofs.YthhkmihjnnfpgaaGreatDoor

/- The walk of klipperef01.joined: the sum of pieces and a multiple of others. -/
namespace Go.Proofs.YthhkmihjnnfpgaaGreatDoor
open Go.RowKit

theorem Own.zero (w:World) (e:TypeId) (k:IntKind):Own (w.alloc (.cells #[] e)) w.heap.size e k (some ⟨w.heap.size,0,none⟩) 0 0 [] :=
 ⟨rfl,rfl,.inr ⟨w.heap.size,0,#[],rfl,Nat.le_refl _,heap_alloc_new w _,Nat.le_refl _,Nat.zero_le _,rfl,rfl⟩⟩

end Go.Proofs.YthhkmihjnnfpgaaGreatDoor

/- The walks of klipperef01.Split and Neg at an integer, of give and made: pieces become an integer. -/
namespace Go.Proofs.YthhkmihjnnfpgaaGreatDoor
open Go.RowKit

theorem ba_ext {a b:ByteArray} (h:a.data.toList=b.data.toList):a=b:=by
 obtain ⟨⟨l⟩⟩:=a
 obtain ⟨⟨m⟩⟩:=b
 simp at h
 rw [h]

theorem canon_neg_eq (z:Int) (h:z < 0):canon z=⟨(45 :: mdig z).toArray⟩:=by
 rcases itoa_cases z with ⟨h1,e⟩ | ⟨h1,e⟩
 ·omega
 ·unfold canon; rw [e]
theorem canon_nn_eq (z:Int) (h:0≤z):canon z=mag z:=by
 rcases itoa_cases z with ⟨h1,e⟩ | ⟨h1,e⟩
 ·unfold canon mag; rw [e]
 ·omega

end Go.Proofs.YthhkmihjnnfpgaaGreatDoor

/- The walk of klipperef01.made: a sign and pieces become an integer; Neg at an integer that is not negative. -/
namespace Go.Proofs.YthhkmihjnnfpgaaGreatDoor
open Go.RowKit

theorem canon_nat (n:Nat):canon (n:Int)=⟨(Lib.decDigits n).toArray⟩:=by unfold canon; rw [itoa_of_nat]

end Go.Proofs.YthhkmihjnnfpgaaGreatDoor
