/- The walks of integer's small functions: quick, Of, Sign, Neg, Abs. -/
import Derived.Test.YtmkeigfckfkifaaDoorOpen
import Derived.Test.YtmkeigfckfkifaaDoorOrder
import Derived.Deep.QuietTactic
import Derived.BigQuiet
namespace Go.Proofs.YtmkeigfckfkifaaDoor
open Go.RowKit Go.Sort

theorem canon_size (z : Int) : (canon z).size = (Lib.itoa z).length := rfl
theorem canon_data (z : Int) : (canon z).data.toList = Lib.itoa z := rfl
theorem canon_zero : canon 0 = ⟨#[48]⟩ := by
  have h : Lib.itoa 0 = [48] := (itoa_of_nat 0).trans (decDigits_lt 0 (by omega))
  unfold canon
  rw [h]
theorem canon_list (z : Int) : (canon z).toList = Lib.itoa z := by rw [ByteArray.toList_eq]; rfl
theorem canon_zero_list : (canon 0).toList = [48] := by rw [canon_list]; exact (itoa_of_nat 0).trans (decDigits_lt 0 (by omega))
theorem canon_beq (a b : Int) : ((canon a).toList == (canon b).toList) = decide (a = b) := by
  rw [canon_list, canon_list]
  by_cases h : a = b
  · subst h; simp
  · have h2 : Lib.itoa a ≠ Lib.itoa b := fun e => h (itoa_inj e)
    simp [h, h2]
theorem canon_beq0 (a : Int) : ((canon a).toList == [48]) = decide (a = 0) := by rw [← canon_zero_list]; exact canon_beq a 0
theorem canon_inj {a b : Int} (h : canon a = canon b) : a = b := by
  refine itoa_inj ?_
  rw [← canon_data a, ← canon_data b, h]

theorem itoa_any (n : Int) (h0 : -9223372036854775808 ≤ n) (h1 : n ≤ 9223372036854775807) (w : World) (ht : Pow10 w) :
    Calls Tryd.prog 45 #[.int .i64 n] w fun e w' => e = .returned (.string (canon n)) ∧ Below w.heap.size w w' := by
  refine (Tryd.strconv_Itoa n h0 h1 w ht).mono ?_
  rintro e w' ⟨rfl, k, os, rfl⟩
  exact ⟨rfl, below_grow w (Nat.le_refl _) k os⟩

theorem of_any (n : Int) (h0 : -9223372036854775808 ≤ n) (h1 : n ≤ 9223372036854775807) (w : World) (ht : Pow10 w) :
    Calls Tryd.prog 18 #[.int .i64 n] w fun e w' => e = .returned (.string (canon n)) ∧ Below w.heap.size w w' := by
  have hi := itoa_any n h0 h1 w ht
  have HI := Lib.hid hi
  clear hi h0 h1
  go_enter Tryd.func18, Tryd.ntmps18
  go_wp2_with (go_at_call 45; refine HI.out.mono ?_; rintro e w' ⟨rfl, h1⟩; have H1 := Lib.hid h1; clear h1)
  go_ret
  exact ⟨rfl, H1.out⟩

theorem atoi_any (z : Int) (h : (canon z).size ≤ 18) (w : World) :
    Calls Tryd.prog 60 #[.string (canon z)] w fun e w' => e = .returned (.tuple #[.int .i64 z, .nilIface]) ∧ Below w.heap.size w w' := by
  have h1 := itoa_len_small (z := z) (k := 18) h
  refine (Tryd.strconv_Atoi_ok (canon z) (by omega) z (by rw [canon_data]; exact atoi_itoa z (by omega)) w).mono ?_
  rintro e w' ⟨rfl, rfl | ⟨t, rfl⟩⟩
  · exact ⟨rfl, Below.refl _ _⟩
  · exact ⟨rfl, Lib.bytesWorld_below w _ t⟩

set_option maxHeartbeats 400000 in
theorem quick_yes (z m : Int) (h : ((canon z).size : Int) ≤ m) (hm : m ≤ 18) (w : World) :
    Calls Tryd.prog 35 #[.string (canon z), .int .i64 m] w fun e w' => e = .returned (.tuple #[.int .i64 z, .bool true]) ∧ Below w.heap.size w w' := by
  have ha := fun W => atoi_any z (by omega) W
  have HA := Lib.hid ha
  clear ha
  go_enter Tryd.func35, Tryd.ntmps35
  go_wp2_with (go_at_call 60; refine (HA.out _).mono ?_; rintro e w' ⟨rfl, h1⟩; have H1 := Lib.hid h1; clear h1)
  go_quiet (fail)
  go_wp2
  go_ret2
  exact ⟨rfl, H1.out.trans ((Drew.of _ _).below _)⟩

theorem quick_no (z m : Int) (h : m < ((canon z).size : Int)) (w : World) :
    Calls Tryd.prog 35 #[.string (canon z), .int .i64 m] w fun e w' => e = .returned (.tuple #[.int .i64 0, .bool false]) ∧ w = w' := by
  go_enter Tryd.func35, Tryd.ntmps35
  go_wp2
  go_ret2
  exact ⟨rfl, rfl⟩

theorem hasMinus (z : Int) (w : World) :
    Calls Tryd.prog 46 #[.string (canon z), .string ⟨#[45]⟩] w fun e w' => e = .returned (.bool (decide (z < 0))) ∧ w = w' := by
  refine (Tryd.strings_HasPrefix (canon z) ⟨#[45]⟩ w).mono ?_
  rintro e w' ⟨rfl, rfl⟩
  have h := trim_minus z
  rw [canon_data, show (⟨#[45]⟩ : ByteArray).data.toList = [45] from rfl, h.2]
  exact ⟨rfl, rfl⟩

theorem trimMinus (z : Int) (w : World) :
    Calls Tryd.prog 30 #[.string (canon z), .string ⟨#[45]⟩] w fun e w' => e = .returned (.string (mag z)) ∧ w = w' := by
  refine (Tryd.strings_TrimPrefix (canon z) ⟨#[45]⟩ w).mono ?_
  rintro e w' ⟨rfl, rfl⟩
  have h := trim_minus z
  rw [canon_data, show (⟨#[45]⟩ : ByteArray).data.toList = [45] from rfl, h.1]
  exact ⟨rfl, rfl⟩

set_option maxHeartbeats 400000 in
theorem sign_any (z : Int) (w : World) :
    Calls Tryd.prog 21 #[.string (canon z)] w fun e w' => e = .returned (.int .i64 z.sign) ∧ w = w' := by
  have hh := fun W => hasMinus z W
  have HH := Lib.hid hh
  clear hh
  go_enter Tryd.func21, Tryd.ntmps21
  go_wp2_with (go_at_call 46; refine (HH.out _).mono ?_; rintro e w' ⟨rfl, rfl⟩)
  · go_ret
    have hz : ((canon z).toList == [48]) = true := by assumption
    have hz0 : z = 0 := by simpa [canon_beq0] using hz
    subst hz0
    exact ⟨rfl, rfl⟩
  · go_ret
    have hlt : z < 0 := by assumption
    exact ⟨ret_i64 (Int.sign_eq_neg_one_of_neg hlt).symm, rfl⟩
  · go_ret
    have hz : ((canon z).toList == [48]) = false := by assumption
    have hle : 0 ≤ z := by assumption
    have hne : z ≠ 0 := by
      simpa [canon_beq0] using hz
    exact ⟨ret_i64 (Int.sign_eq_one_of_pos (by omega)).symm, rfl⟩

end Go.Proofs.YtmkeigfckfkifaaDoor
