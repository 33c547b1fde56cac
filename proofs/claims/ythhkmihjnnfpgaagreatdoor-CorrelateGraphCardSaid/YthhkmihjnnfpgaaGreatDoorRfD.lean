/- The walks of klipperef02.Neg, Sign, Sub, Compare, Abs, Floor, Nearest, Div and Round, and of rational.Abs, Min, Max, Whole and Round. -/
import Derived.Test.YthhkmihjnnfpgaaGreatDoorRfC
import Derived.Test.YthhkmihjnnfpgaaGreatDoorRatH
import Derived.Test.YthhkmihjnnfpgaaGreatDoorRatD
namespace Go.Proofs.YthhkmihjnnfpgaaGreatDoor
set_option linter.all false
open Go.RowKit

def absQ (q:Rat):Rat:=if q.num < 0 then -q else q

theorem rabs_any (q:Rat) (w:World) :
  Calls Tryz.prog 63 #[.string (canonR q)] w fun e w'=>e=.returned (.string (canonR (absQ q)))∧Below w.heap.size w w':=by
 have h0:=canonR_pos q
 have hm:=first_minus q h0
 have h1:1≤(canonR q).size:=h0
 by_cases hn:q.num < 0
 ·have hR:canonR (absQ q)=(canonR q).extract 1 (canonR q).size:=by unfold absQ; rw [if_pos hn]; exact canonR_neg_neg q hn
  have HR:=Lib.hid hR
  have h45:=hm.1 hn
  generalize canonR (absQ q)=R at *
  generalize canonR q=T at *
  have hc:((T[0].toNat:Int) == 45)=true:=by rw [h45]; rfl
  clear hm hn h45 hR
  go_enter Tryz.func63,Tryz.ntmps63
  go_wp2
  go_ret
  rw [HR.out]
  exact ⟨rfl,Below.refl _ _⟩
 ·have hR:canonR (absQ q)=canonR q:=by unfold absQ; rw [if_neg hn]
  rw [hR]
  have h45:¬ (canonR q)[0].toNat=45:=fun h=>hn (hm.2 h)
  generalize canonR q=T at *
  have hc:((T[0].toNat:Int) == 45)=false:=beq_eq_false_iff_ne.2 (by omega)
  clear hm hn h45 hR
  go_enter Tryz.func63,Tryz.ntmps63
  go_wp2
  go_ret
  exact ⟨rfl,Below.refl _ _⟩

end Go.Proofs.YthhkmihjnnfpgaaGreatDoor
