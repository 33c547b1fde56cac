/- The walks of rational.plain, power, Root, and of Parse and Decimal at the chapter's examples. -/
import Derived.Lib.TrimByte
import Derived.Test.YtfhmgkicccfghaaGreatDoorRatC
import Derived.Test.YtfhmgkicccfghaaGreatDoorGRefB
import Derived.Test.YtfhmgkicccfghaaGreatDoorGInt
import Derived.BigQuiet
namespace Go.Proofs.YtfhmgkicccfghaaGreatDoor
set_option linter.all false
open Go.RowKit

theorem plain_text (l : List UInt8) (hd : AllDig l) : (Lib.trimLeftB l 48 = [] → canon (dval l : Int) = ⟨#[48]⟩) ∧ (Lib.trimLeftB l 48 ≠ [] → canon (dval l : Int) = ⟨(Lib.trimLeftB l 48).toArray⟩) := by
 obtain ⟨h1, h2, h3, h4⟩ := trimB_val l
 constructor
 ·intro h
  rw [h] at h1
  rw [← h1]
  exact canon_zero
 ·intro h
  rcases h2 with h2 | ⟨c, m, h2, hc⟩
  ·exact absurd h2 h
  ·have h5 := h4 hd
   rw [h2] at h5
   have h6 := eq_dec h5 (fun e => hc (UInt8.toNat_inj.1 e))
   rw [canon_nat, ← h1, h2, ← h6]

set_option maxHeartbeats 2000000 in
theorem plain_any (T : ByteArray) (w : World) (hd : AllDig T.data.toList) (h0 : 0 < T.size) (hs : T.size ≤ 1000000) :
  Calls Tryz.prog 65 #[.string T] w fun e w' => e = .returned (.tuple #[.string (canon (dval T.data.toList : Int)), .bool true]) ∧ w = w' := by
 have hl : T.data.toList.length = T.size := (Lib.size_eq T).symm
 have hne : T.toList.isEmpty = false := by
  rw [ByteArray.toList_eq]
  cases h : T.data.toList with
  | nil => rw [h] at hl; simp at hl; omega
  | cons c l => rfl
 have hne2 : (T.toList == []) = false := by rw [List.isEmpty_eq_false_iff] at hne; exact beq_eq_false_iff_ne.2 hne
 obtain ⟨p1, p2⟩ := plain_text T.data.toList hd
 have tl := fun W => Tryz.strings_TrimLeft_one T 48 (by decide) W
 obtain ⟨S, hS⟩ : ∃ S, Lib.trimLeftB T.data.toList 48 = S := ⟨_, rfl⟩
 obtain ⟨R, hR⟩ : ∃ R, canon (dval T.data.toList : Int) = R := ⟨_, rfl⟩
 rw [hS, hR] at p1 p2
 rw [hS] at tl
 rw [hR]
 have HD := Lib.hid hd
 have TL := Lib.hid tl
 have P1 := Lib.hid p1
 have P2 := Lib.hid p2
 clear hd tl p1 p2 hS hR hl
 go_enter Tryz.func65, Tryz.ntmps65
 go_wp2
 go_loop [9] (fun iv => ∃ k : Nat, k ≤ T.size ∧ iv = .int .i64 k) (fun iv => T.size - (intOf iv).toNat)
 case atStart => exact ⟨0, Nat.zero_le _, rfl⟩
 case round =>
  obtain ⟨k, hk, rfl⟩ := hrel
  by_cases hlt : k < T.size
  ·have hdk := HD.out T[k] (List.getElem_mem (l := T.data.toList) (by rw [← Lib.size_eq]; exact hlt))
   have b1 : decide ((T[k].toNat : Int) < 48) = false := decide_eq_false (by omega)
   have b2 : decide ((57 : Int) < (T[k].toNat : Int)) = false := decide_eq_false (by omega)
   have c1 := hdk.1
   have c2 := hdk.2
   clear hdk
   go_wp2
   go_round
   case rel => exact ⟨k + 1, by omega, by go_num⟩
   case measure => simp [intOf]; omega
  ·obtain rfl : k = T.size := by omega
   by_cases he : S = []
   ·have HR := Lib.hid (P1.out he)
    have h1 : ((⟨S.toArray⟩ : ByteArray).toList == []) = true := by rw [he, ByteArray.toList_eq]; rfl
    have h2 : (⟨S.toArray⟩ : ByteArray).toList.isEmpty = true := by rw [he, ByteArray.toList_eq]; rfl
    generalize (⟨S.toArray⟩ : ByteArray) = Z at *
    clear P1 P2 he
    go_wp2_with (go_at_call 81; (with_reducible refine (TL.out _).mono ?_); rintro e w1 ⟨rfl, rfl⟩)
    go_ret2
    rw [HR.out]
    exact ⟨rfl, rfl⟩
   ·have HR := Lib.hid (P2.out he)
    have h2 : (⟨S.toArray⟩ : ByteArray).toList.isEmpty = false := by
     rw [ByteArray.toList_eq]
     cases S with
     | nil => exact absurd rfl he
     | cons c l => rfl
    have h1 : ((⟨S.toArray⟩ : ByteArray).toList == []) = false := by rw [List.isEmpty_eq_false_iff] at h2; exact beq_eq_false_iff_ne.2 h2
    generalize (⟨S.toArray⟩ : ByteArray) = Z at *
    clear P1 P2 he
    go_wp2_with (go_at_call 81; (with_reducible refine (TL.out _).mono ?_); rintro e w1 ⟨rfl, rfl⟩)
    go_ret2
    rw [HR.out]
    exact ⟨rfl, rfl⟩

end Go.Proofs.YtfhmgkicccfghaaGreatDoor
