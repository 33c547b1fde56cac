/- The law's fronts and proves of chapter 44. -/
import Derived.Test.YthhkmihjnnfpgaaGreatDoorGCorV
import Derived.Test.YthhkmihjnnfpgaaGreatDoorGCorRa
import Derived.Test.YthhkmihjnnfpgaaGreatDoorGCorTa
import Derived.BigQuiet
/- Verify and proves agree; the potentials of the program are accepted. -/
namespace Go.Proofs.YthhkmihjnnfpgaaGreatDoor
set_option linter.all false
open Go.RowKit

theorem frn_bdQ (q:CQ) (ok:OkQ q) {i j:Nat} (hi:i≤q.L.length) (hj:j≤q.R.length):0≤frn q i j∧frn q i j≤720000 :=
 inv_bd ok (potA_bd q ok _ (Nat.le_refl _)) i j _ (frn_some (cst_bdS q ok) hi hj)
theorem prf_frn (q:CQ) (ok:OkQ q):PrfS q (qT (rst q 0 0)) (frnT q) (qT (rst q 0 0) ≠ qT (rst q 0 0)) 0:=by
 have hr:=rst_bdQ q ok 0 0 (Nat.zero_le _) (Nat.zero_le _)
 refine .inr (.inr ⟨?_,?_,rfl⟩)
 ·rintro (⟨i,j,hi,hj,h⟩ | h)
  ·have hb:=frn_bdQ q ok hi hj
   rw [show frnT q i j=qT (frn q i j) from rfl,qT_right _ (by omega)] at h
   cases h
  ·rw [qT_right _ (by omega)] at h
   cases h
 ·rintro (h | h | h | ⟨i,j,k,hi,hj,hk,ho,h⟩)
  ·exact h (by show qT (frn q 0 0)=_; rw [frn_zero (cst_bdS q ok),qT_zero])
  ·exact h rfl
  ·exact h (by show qT (frn q _ _)=_; rw [frn_end (cst_bdS q ok)])
  ·have hb:=frn_bdQ q ok hi hj
   have hb2:=frn_bdQ q ok ho.1 ho.2.1
   rw [show frnT q i j=qT (frn q i j) from rfl,show frnT q (nxI k i) (nxJ k j)=qT (frn q (nxI k i) (nxJ k j)) from rfl,worse_q _ _ _ (by omega) (by omega)] at h
   have h2:=of_decide_eq_true h
   have h3:=frn_step (cst_bdS q ok) hi hj hk ho
   omega
theorem ver_ok (q:CQ) (ok:OkQ q) (l:List (Int × Int × Int)) (hl:runF q 0 0 0 l=(0,rst q 0 0)) (z:Int) (h:VerS q (runF q 0 0 0 l) (qT (rst q 0 0)) (frnT q) z):z=0:=by
 rw [hl] at h
 rcases h with ⟨h,_⟩ | ⟨_,h⟩
 ·exact absurd rfl h
 ·exact h.uni (prf_frn q ok)
theorem frnT_size (q:CQ) (ok:OkQ q) (i j:Nat) (hi:i≤q.L.length) (hj:j≤q.R.length):(frnT q i j).size≤20:=by
 have hb:=frn_bdQ q ok hi hj
 exact qT_size _ (by omega)

end Go.Proofs.YthhkmihjnnfpgaaGreatDoor
