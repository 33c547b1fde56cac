/- The law's rests and best of chapter 44. -/
import Derived.Test.YthhkmihjnnfpgaaGreatDoorGCorTa
import Derived.Test.YthhkmihjnnfpgaaGreatDoorGCorY
/- What is read of rows of steps. -/
namespace Go.Proofs.YthhkmihjnnfpgaaGreatDoor
set_option linter.all false
open Go.RowKit

theorem row_lookB {α:Type} {f:α→List Value} {sz:Nat} (hf:∀ u,(f u).length=sz) {T:TypeId} {W:World} {base:Nat} {v:Value} {us:List α} (h:SRow f sz T W base v us):SAt f sz W v us:=by
 rcases h with ⟨rfl,rfl⟩ | ⟨d,c,r,rfl,h2,h3,h4,h5⟩
 ·exact ⟨none,0,rfl,fun i t h=>by simp at h⟩
 ·exact row_SAt hf h4 c
theorem cast_SAB {W:World} {a:Option Addr} {c:Nat} {us:List (Nat × Nat × Nat)} (h:SAt stC 3 W (.slice a us.length c) us):SAt stI 3 W (.slice a (castS us).length c) (castS us):=by
 obtain ⟨a',c',e,h⟩:=h
 injection e with e1 _ e3
 subst e1 e3
 refine ⟨a,c,rfl,fun i t ht=>?_⟩
 unfold castS at ht
 rw [List.getElem?_map] at ht
 cases hx:us[i]? with
 | none=>rw [hx] at ht; cases ht
 | some y =>
  rw [hx] at ht
  injection ht with ht
  subst ht
  exact h i y hx
theorem castS_len (us:List (Nat × Nat × Nat)):(castS us).length=us.length:=by unfold castS; rw [List.length_map]

end Go.Proofs.YthhkmihjnnfpgaaGreatDoor
