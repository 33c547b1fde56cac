/- The walks of the reference on integers; Sub, Compare, Power. -/
import Derived.Test.YtfhmgkicccfghaaGreatDoorGText
import Derived.Test.YtfhmgkicccfghaaGreatDoorGInt
import Derived.Test.YtfhmgkicccfghaaGreatDoorGRefA
/- The walks of integer.Neg and Abs. -/
namespace Go.Proofs.YtfhmgkicccfghaaGreatDoor
set_option linter.all false
open Go.RowKit

set_option maxHeartbeats 1000000 in
theorem neg_any (z : Int) (w : World) (hs : (canon z).size ≤ 100000) :
  Calls Tryz.prog 67 #[.string (canon z)] w fun e w' => e = .returned (.string (canon (-z))) ∧ Below w.heap.size w w' := by
 have h := fun W => sign_any z W
 rcases Int.lt_trichotomy z 0 with hz | hz | hz
 ·rw [Int.sign_eq_neg_one_of_neg hz] at h
  have H := Lib.hid h
  have hd : (canon z).data.toList = 45 :: mdig z := by rw [canon_neg_eq z hz]
  have h0 : 1 ≤ (canon z).size := by rw [Lib.size_eq, hd]; simp
  have HE : Hid (canon (-z) = (canon z).extract 1 (canon z).size) := ba_ext (by
   rw [Lib.extract_to_end, hd, canon_nn_eq (-z) (by omega)]
   show mdig (-z) = _
   unfold mdig
   rw [Int.natAbs_neg]; rfl)
  clear h hd hz
  go_enter Tryz.func67, Tryz.ntmps67
  go_wp2_with (go_at_call 86; refine (H.out _).mono ?_; rintro e w' ⟨rfl, rfl⟩)
  go_ret
  rw [HE.out]
  exact ⟨rfl, Below.refl _ _⟩
 ·subst hz
  rw [show (0 : Int).sign = 0 from rfl] at h
  have H := Lib.hid h
  clear h
  go_enter Tryz.func67, Tryz.ntmps67
  go_wp2_with (go_at_call 86; refine (H.out _).mono ?_; rintro e w' ⟨rfl, rfl⟩)
  go_ret
  exact ⟨rfl, Below.refl _ _⟩
 ·rw [Int.sign_eq_one_of_pos hz] at h
  have H := Lib.hid h
  have HE : Hid (canon (-z) = (⟨#[45]⟩ : ByteArray) ++ canon z) := by
   rw [canon_neg_eq (-z) (by omega), minus_app]
   show (⟨(45 :: mdig (-z)).toArray⟩ : ByteArray) = _
   rw [canon_nn_eq z (by omega)]
   unfold mdig mag mdig
   rw [Int.natAbs_neg]
  clear h hz
  go_enter Tryz.func67, Tryz.ntmps67
  go_wp2_with (go_at_call 86; refine (H.out _).mono ?_; rintro e w' ⟨rfl, rfl⟩)
  go_ret
  rw [HE.out]
  exact ⟨rfl, Below.refl _ _⟩

theorem canon_neg_size (z : Int) (n : Nat) (h : (canon z).size ≤ n) : (canon (-z)).size ≤ n + 1 := by
 have h1 := mag_le z n h
 have h2 : (mag (-z)).size = (mag z).size := by
  show (mdig (-z)).length = (mdig z).length
  unfold mdig
  rw [Int.natAbs_neg]
 show (Lib.itoa (-z)).length ≤ n + 1
 have h3 : (mdig (-z)).length ≤ n := by
  have : (mag (-z)).size = (mdig (-z)).length := rfl
  omega
 rcases itoa_cases (-z) with ⟨_, e⟩ | ⟨_, e⟩
 ·rw [e]; omega
 ·rw [e, List.length_cons]; omega

end Go.Proofs.YtfhmgkicccfghaaGreatDoor

/- The walk of integer.Check: the right texts of an integer. -/
namespace Go.Proofs.YtfhmgkicccfghaaGreatDoor
open Go.RowKit

theorem allDig_succ (T : ByteArray) (k : Nat) (h : k < T.size) (ha : AllDig (T.data.toList.take k)) (hd : 48 ≤ T[k].toNat ∧ T[k].toNat ≤ 57) : AllDig (T.data.toList.take (k + 1)) := by
 have hl : k < T.data.toList.length := by rw [← Lib.size_eq]; exact h
 rw [List.take_succ_eq_append_getElem hl]
 intro c hc
 rcases List.mem_append.1 hc with h1 | h1
 ·exact ha c h1
 ·have e : c = T[k] := by
   have h2 : c = T.data.toList[k] := by simpa using h1
   exact h2
  rw [e]
  exact hd

end Go.Proofs.YtfhmgkicccfghaaGreatDoor
