/- Correlate: checkStep at whatever step; total and Total. -/
import Derived.Test.YthhkmihjnnfpgaaGreatDoorGCorY
/- checkStep at whatever step; total and Total of whatever steps. -/
namespace Go.Proofs.YthhkmihjnnfpgaaGreatDoor
set_option linter.all false
open Go.RowKit

attribute [local go_sem] Oper.semAt_some

theorem errI_S (q:CQ) (k i j:Nat) (hk:1≤k∧k≤5) (hi:i≤q.L.length) (hj:j≤q.R.length):errI q k i j=errS q k i j:=by
 unfold errI errS
 rw [if_neg (by omega),if_neg (by omega)]
 simp only [Int.toNat_natCast]
 by_cases h1:q.L.length < nxI k i ∨ q.R.length < nxJ k j
 ·rw [if_pos h1,if_pos h1]
 rw [if_neg h1,if_neg h1]
 by_cases h2:(k=4∧¬ repI q.L i) ∨ (k=5∧¬ repI q.R j)
 ·rw [if_pos h2,if_pos (h2.imp (fun h=>⟨by have:=h.1; omega,h.2⟩) (fun h=>⟨by have:=h.1; omega,h.2⟩))]
 ·rw [if_neg h2,if_neg (fun h=>h2 (h.imp (fun h=>⟨by have:=h.1; omega,h.2⟩) (fun h=>⟨by have:=h.1; omega,h.2⟩)))]
def stI (x:Int × Int × Int):List Value:=[.int .i64 x.1,.int .i64 x.2.1,.int .i64 x.2.2]
noncomputable def totV (r:Int × Int):Value:=.tuple #[.string (if r.1=0 then qT r.2 else ⟨#[]⟩),.int .i64 r.1]

end Go.Proofs.YthhkmihjnnfpgaaGreatDoor
