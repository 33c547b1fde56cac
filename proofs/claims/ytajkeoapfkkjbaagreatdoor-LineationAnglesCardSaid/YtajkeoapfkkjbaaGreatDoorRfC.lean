/- The walks of klipperef02.Parts, at any text and at a number; of Add and Mul. -/
import Derived.Test.YtajkeoapfkkjbaaGreatDoorRfA
import Derived.Test.YtajkeoapfkkjbaaGreatDoorRatS
import Derived.Test.YtajkeoapfkkjbaaGreatDoorRatB
import Derived.Test.YtajkeoapfkkjbaaGreatDoorGRefB
import Derived.Test.YtajkeoapfkkjbaaGreatDoorRatA
import Derived.Test.YtajkeoapfkkjbaaGreatDoorShelf
import Derived.Lib.IndexLaws
namespace Go.Proofs.YtajkeoapfkkjbaaGreatDoor
set_option linter.all false
open Go.RowKit

theorem ib_none : ∀ l : List UInt8, (∀ c ∈ l, c ≠ 47) → Lib.indexByte l 47 = -1 := by
  intro l
  induction l with
  | nil => intro _; rfl
  | cons c l ih =>
    intro h
    have hc : c ≠ 47 := h c (List.mem_cons_self ..)
    have ih' := ih (fun z hz => h z (List.mem_cons_of_mem _ hz))
    have hb : (c == 47) = false := beq_eq_false_iff_ne.2 hc
    unfold Lib.indexByte
    rw [hb, ih']
    rfl

theorem ib_at : ∀ (a b : List UInt8), (∀ c ∈ a, c ≠ 47) → Lib.indexByte (a ++ 47 :: b) 47 = a.length := by
  intro a b
  induction a with
  | nil => intro _; simp [Lib.indexByte]
  | cons c a ih =>
    intro h
    have hc : c ≠ 47 := h c (List.mem_cons_self ..)
    have ih' := ih (fun z hz => h z (List.mem_cons_of_mem _ hz))
    have hb : (c == 47) = false := beq_eq_false_iff_ne.2 hc
    have hn : (((a.length : Nat) : Int) == -1) = false := by rw [beq_eq_false_iff_ne]; omega
    rw [List.cons_append]
    unfold Lib.indexByte
    rw [hb, ih', hn]
    simp

theorem split47 (l : List UInt8) : (∀ c ∈ l, c ≠ 47) ∨ ∃ a b, l = a ++ 47 :: b ∧ ∀ c ∈ a, c ≠ 47 := by
  induction l with
  | nil => exact .inl (fun c h => by simp at h)
  | cons c l ih =>
    by_cases hc : c = 47
    · exact .inr ⟨[], l, by rw [hc]; rfl, fun c h => by simp at h⟩
    · rcases ih with h | ⟨a, b, h1, h2⟩
      · refine .inl (fun z hz => ?_)
        rcases List.mem_cons.1 hz with rfl | hz
        · exact hc
        · exact h z hz
      · refine .inr ⟨c :: a, b, by rw [h1]; rfl, fun z hz => ?_⟩
        rcases List.mem_cons.1 hz with rfl | hz
        · exact hc
        · exact h2 z hz

theorem ba_of_list (s : ByteArray) (l : List UInt8) (h : s.data.toList = l) : s = ⟨l.toArray⟩ := by
  subst h
  rfl

theorem k47 : (47 : Int).toNat.toUInt8 = 47 := by decide

end Go.Proofs.YtajkeoapfkkjbaaGreatDoor
