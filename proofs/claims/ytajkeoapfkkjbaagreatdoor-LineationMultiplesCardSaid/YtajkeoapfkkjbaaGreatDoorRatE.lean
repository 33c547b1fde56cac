/- The walks of rational.plain, power, Root, and of Parse and Decimal at the chapter's examples. -/
import Derived.Lib.TrimByte
import Derived.Test.YtajkeoapfkkjbaaGreatDoorRatD
import Derived.BigQuiet
namespace Go.Proofs.YtajkeoapfkkjbaaGreatDoor
set_option linter.all false
open Go.RowKit

theorem plain_text (l : List UInt8) (hd : AllDig l) : (Lib.trimLeftB l 48 = [] → canon (dval l : Int) = ⟨#[48]⟩) ∧ (Lib.trimLeftB l 48 ≠ [] → canon (dval l : Int) = ⟨(Lib.trimLeftB l 48).toArray⟩) := by
  obtain ⟨h1, h2, h3, h4⟩ := trimB_val l
  constructor
  · intro h
    rw [h] at h1
    rw [← h1]
    exact canon_zero
  · intro h
    rcases h2 with h2 | ⟨c, m, h2, hc⟩
    · exact absurd h2 h
    · have h5 := h4 hd
      rw [h2] at h5
      have h6 := eq_dec h5 (fun e => hc (UInt8.toNat_inj.1 e))
      rw [canon_nat, ← h1, h2, ← h6]

theorem root_small {n r N : Nat} (h : IsRoot n r) (hn : n < 10 ^ N) : r < 10 ^ N := Nat.lt_of_le_of_lt (Nat.le_trans (Nat.le_mul_self r) h.1) hn

end Go.Proofs.YtajkeoapfkkjbaaGreatDoor
