/- Rows of digits: the walks of rational.plain at other texts, and of klipperef02.digits and plain. -/
import Derived.Test.YtfhmgkicccfghaaGreatDoorRfC
import Derived.Test.YtfhmgkicccfghaaGreatDoorRatC
import Derived.Test.YtfhmgkicccfghaaGreatDoorGRefB
import Derived.Test.YtfhmgkicccfghaaGreatDoorGInt
import Derived.Test.YtfhmgkicccfghaaGreatDoorProg
import Derived.Test.YtfhmgkicccfghaaGreatDoorGPlain
import Derived.Test.YtfhmgkicccfghaaGreatDoorGMag
import Derived.Deep.QuietTactic
import Derived.BigQuiet
import Derived.Test.YtfhmgkicccfghaaGreatDoorGRefA
import Derived.Test.YtfhmgkicccfghaaGreatDoorRatE
import Derived.BigRegion
import Derived.Test.YtfhmgkicccfghaaGreatDoorGText
import Derived.Lib.ParseIntBTie
import Derived.Test.YtfhmgkicccfghaaGreatDoorRatF
namespace Go.Proofs.YtfhmgkicccfghaaGreatDoor
set_option linter.all false
open Go.RowKit

def digB (l : List UInt8) : Bool := !l.isEmpty && allDigB l

theorem digB_true {l : List UInt8} (h : digB l = true) : AllDig l ∧ 0 < l.length := by
 unfold digB at h
 rw [Bool.and_eq_true] at h
 refine ⟨(allDigB_iff l).1 h.2, ?_⟩
 cases l with
 | nil => simp at h
 | cons c l => simp

theorem digB_of {l : List UInt8} (h1 : AllDig l) (h2 : 0 < l.length) : digB l = true := by
 unfold digB
 rw [Bool.and_eq_true]
 refine ⟨?_, (allDigB_iff l).2 h1⟩
 cases l with
 | nil => simp at h2
 | cons c l => rfl

theorem rplain_good (T : ByteArray) (w : World) (hd : digB T.data.toList = true) (hs : T.size ≤ 1000000) :
  Calls Tryz.prog 65 #[.string T] w fun e w' => e = .returned (.tuple #[.string (canon (dval T.data.toList : Int)), .bool true]) ∧ w = w' :=
 plain_any T w (digB_true hd).1 (by rw [Lib.size_eq]; exact (digB_true hd).2) hs

set_option maxHeartbeats 2000000 in
theorem rplain_bad (T : ByteArray) (w : World) (hd : digB T.data.toList = false) (hs : T.size ≤ 1000000) :
  Calls Tryz.prog 65 #[.string T] w fun e w' => e = .returned (.tuple #[.string ⟨#[]⟩, .bool false]) ∧ w = w' := by
 have hl : T.data.toList.length = T.size := (Lib.size_eq T).symm
 rcases Nat.eq_zero_or_pos T.size with h0 | h0
 ·have he : T.data.toList = [] := List.eq_nil_of_length_eq_zero (by omega)
  have h1 : (T.toList == []) = true := by rw [ByteArray.toList_eq, he]; rfl
  have h2 : T.toList.isEmpty = true := by rw [ByteArray.toList_eq, he]; rfl
  clear hd he hl h0
  go_enter Tryz.func65, Tryz.ntmps65
  go_wp2
  go_ret2
  exact ⟨rfl, rfl⟩
 have hne : T.toList.isEmpty = false := by
  rw [ByteArray.toList_eq]
  cases h : T.data.toList with
  | nil => rw [h] at hl; simp at hl; omega
  | cons c l => rfl
 have hne2 : (T.toList == []) = false := by rw [List.isEmpty_eq_false_iff] at hne; exact beq_eq_false_iff_ne.2 hne
 have hx : ¬ AllDig T.data.toList := fun h => by rw [digB_of h (by omega)] at hd; cases hd
 have HX := Lib.hid hx
 clear hd hx hl
 go_enter Tryz.func65, Tryz.ntmps65
 go_wp2
 go_loop [9] (fun iv => ∃ k : Nat, k ≤ T.size ∧ iv = .int .i64 k ∧ Hid (AllDig (T.data.toList.take k))) (fun iv => T.size - (intOf iv).toNat)
 case atStart => exact ⟨0, Nat.zero_le _, rfl, Lib.hid (fun c h => by simp at h)⟩
 case round =>
  obtain ⟨k, hk, rfl, HK⟩ := hrel
  by_cases hlt : k < T.size
  ·by_cases b1 : T[k].toNat < 48
   ·have d1 : decide ((T[k].toNat : Int) < 48) = true := decide_eq_true (by omega)
    go_wp2
    go_ret2
    exact ⟨rfl, rfl⟩
   ·have d1 : decide ((T[k].toNat : Int) < 48) = false := decide_eq_false (by omega)
    by_cases b2 : 57 < T[k].toNat
    ·have d2 : decide ((57 : Int) < (T[k].toNat : Int)) = true := decide_eq_true (by omega)
     have d3 : decide ((T[k].toNat : Int) > 57) = true := decide_eq_true (by omega)
     go_wp2
     go_ret2
     exact ⟨rfl, rfl⟩
    ·have d2 : decide ((57 : Int) < (T[k].toNat : Int)) = false := decide_eq_false (by omega)
     have d3 : decide ((T[k].toNat : Int) > 57) = false := decide_eq_false (by omega)
     have HN := Lib.hid (allDig_succ T k hlt HK.out ⟨by omega, by omega⟩)
     go_wp2
     go_round
     case rel => exact ⟨k + 1, by omega, by go_num, HN⟩
     case measure => simp [intOf]; omega
  ·obtain rfl : k = T.size := by omega
   exact absurd (by have := HK.out; rw [List.take_of_length_le (by rw [← Lib.size_eq]; exact Nat.le_refl _)] at this; exact this) HX.out

theorem repeat48 (c : Nat) : Lib.repeatL [48] c = List.replicate c 48 := by
 induction c with
 | zero => rfl
 | succ c ih => rw [Lib.repeatL, ih, List.replicate_succ]; rfl

theorem dval_ten (c : Nat) : AllDig (49 :: List.replicate c 48) ∧ dval (49 :: List.replicate c 48) = 10 ^ c := by
 induction c with
 | zero => exact ⟨fun x hx => by simp at hx; rw [hx]; decide, by decide⟩
 | succ c ih =>
  have e : (49 :: List.replicate (c + 1) 48 : List UInt8) = (49 :: List.replicate c 48) ++ [48] := by
   rw [List.replicate_succ']
   rfl
  rw [e]
  refine ⟨fun x hx => ?_, ?_⟩
  ·rcases List.mem_append.1 hx with h | h
   ·exact ih.1 x h
   ·simp at h; rw [h]; decide
  ·rw [dval_snoc, ih.2, Nat.pow_succ]
   have : (48 : UInt8).toNat - 48 = 0 := by decide
   omega

theorem ten_text (c : Nat) : (⟨#[49]⟩ : ByteArray) ++ ⟨(Lib.repeatL [48] c).toArray⟩ = canon ((10 ^ c : Nat) : Int) := by
 obtain ⟨h1, h2⟩ := dval_ten c
 rw [canon_digs (10 ^ c) 49 (List.replicate c 48) h1 (by decide) h2]
 refine ba_of_list _ _ ?_
 rw [ba_append, repeat48]
 rfl

end Go.Proofs.YtfhmgkicccfghaaGreatDoor
