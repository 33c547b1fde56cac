/- The walk of klipperef01.Split at whatever text. -/
import Derived.Test.YtmkeigfckfkifaaDoorRefA
import Derived.Deep.QuietTactic
import Derived.BigQuiet
namespace Go.Proofs.YtmkeigfckfkifaaDoor
open Go.RowKit

set_option maxHeartbeats 400000 in
theorem split_minus (s : ByteArray) (w : World) (hs : s.size ≤ 1000000) (h0 : 0 < s.size) (hc : ((s[0].toNat : Int) == 45) = true) :
    Calls Tryd.prog 39 #[.string s] w fun e w' => e = .returned (.tuple #[.bool true, .string (s.extract 1 s.size)]) ∧ Drew w w' := by
  go_enter Tryd.func39, Tryd.ntmps39
  go_wp2
  go_quiet (fail)
  go_wp2
  go_ret2
  exact ⟨rfl, Drew.of _ _⟩

set_option maxHeartbeats 400000 in
theorem split_plain (s : ByteArray) (w : World) (hs : s.size ≤ 1000000) (hc : ∀ h0 : 0 < s.size, ((s[0].toNat : Int) == 45) = false) :
    Calls Tryd.prog 39 #[.string s] w fun e w' => e = .returned (.tuple #[.bool false, .string s]) ∧ w = w' := by
  by_cases h0 : 0 < s.size
  · have hc0 := hc h0
    clear hc
    go_enter Tryd.func39, Tryd.ntmps39
    go_wp2
    go_ret2
    exact ⟨rfl, rfl⟩
  · clear hc
    have he : s = ⟨#[]⟩ := by
      obtain ⟨⟨l⟩⟩ := s
      have h : l.length = 0 := by simpa [ByteArray.size] using h0
      rw [List.length_eq_zero_iff.1 h]
    subst he
    go_enter Tryd.func39, Tryd.ntmps39
    go_wp2
    go_ret2
    exact ⟨rfl, rfl⟩

end Go.Proofs.YtmkeigfckfkifaaDoor
