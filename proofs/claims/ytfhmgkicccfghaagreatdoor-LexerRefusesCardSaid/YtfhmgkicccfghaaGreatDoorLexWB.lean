/- The walks of lexer.while: how many bytes at the beginning of a text satisfy a condition. -/
import Derived.Test.YtfhmgkicccfghaaGreatDoorLexWA
import Derived.Test.YtfhmgkicccfghaaGreatDoorGLexP
import Derived.Handy
namespace Go.Proofs.YtfhmgkicccfghaaGreatDoor
set_option linter.all false
open Go.RowKit

theorem u8_eq (c : UInt8) (n : Nat) (h : n < 256) : (((c.toNat : Nat) : Int) == (n : Int)) = (c == UInt8.ofNat n) := by
 rw [Bool.eq_iff_iff, beq_iff_eq, beq_iff_eq, ← UInt8.toNat_inj, UInt8.toNat_ofNat']
 have := c.toNat_lt
 omega
theorem letter_is (c : UInt8) (w : World) : Ret Tryz.prog w 48 #[.int .u8 c.toNat] (.bool (isLet c)) := by
 intro W _
 refine (letter_of W rfl rfl rfl rfl).mono fun e w' h => ⟨?_, h.2⟩
 rw [h.1]
 congr 2
 unfold isLet
 rw [Bool.eq_iff_iff]
 simp only [Bool.or_eq_true, Bool.and_eq_true, decide_eq_true_eq]
 omega
theorem digit_is (c : UInt8) (w : World) : Ret Tryz.prog w 51 #[.int .u8 c.toNat] (.bool (isDig c)) := by
 intro W _
 refine (digit_of W rfl rfl).mono fun e w' h => ⟨?_, h.2⟩
 rw [h.1]
 congr 2
 unfold isDig
 rw [Bool.eq_iff_iff]
 simp only [Bool.and_eq_true, decide_eq_true_eq]
 omega
theorem isword_is (c : UInt8) (w : World) : Ret Tryz.prog w 50 #[.int .u8 c.toNat] (.bool (isWord c)) :=
 fun W _ => isword_of W (u8_eq c 95 (by decide)) (letter_is c W) (digit_is c W)
theorem isnum_is (c : UInt8) (w : World) : Ret Tryz.prog w 52 #[.int .u8 c.toNat] (.bool (isNum c)) :=
 fun W _ => isnum_of W (u8_eq c 46 (by decide)) (u8_eq c 47 (by decide)) (digit_is c W)
theorem kletter_is (c : UInt8) (w : World) : Ret Tryz.prog w 55 #[.int .u8 c.toNat] (.bool (isLet c)) := by
 intro W _
 refine (kletter_of W rfl rfl rfl rfl).mono fun e w' h => ⟨?_, h.2⟩
 rw [h.1]
 congr 2
 unfold isLet
 rw [Bool.eq_iff_iff]
 simp only [Bool.or_eq_true, Bool.and_eq_true, decide_eq_true_eq]
 omega
theorem kdigit_is (c : UInt8) (w : World) : Ret Tryz.prog w 56 #[.int .u8 c.toNat] (.bool (isDig c)) := by
 intro W _
 refine (kdigit_of W rfl rfl).mono fun e w' h => ⟨?_, h.2⟩
 rw [h.1]
 congr 2
 unfold isDig
 rw [Bool.eq_iff_iff]
 simp only [Bool.and_eq_true, decide_eq_true_eq]
 omega

theorem take_len_end (p : UInt8 → Bool) : ∀ (l : List UInt8) (k : Nat), k ≤ l.length → (l.take k).all p = true → (∀ h : k < l.length, p l[k] = false) → (l.takeWhile p).length = k
 | [], k, h, _, _ => by simp at h; simp [h]
 | c :: l, 0, _, _, h2 => by
  have := h2 (by simp)
  simp at this
  simp [List.takeWhile_cons, this]
 | c :: l, k + 1, h, h1, h2 => by
  simp only [List.take_succ_cons, List.all_cons, Bool.and_eq_true] at h1
  rw [List.takeWhile_cons, if_pos h1.1, List.length_cons, take_len_end p l k (by simpa using h) h1.2 (fun h => by have := h2 (by simpa using h); simpa using this)]
theorem all_take_next (p : UInt8 → Bool) (S : ByteArray) (k : Nat) (h : k < S.size) (h0 : (S.data.toList.take k).all p = true) (hk : p S[k] = true) : (S.data.toList.take (k + 1)).all p = true := by
 have hl : k < S.data.toList.length := by rw [← Lib.size_eq]; exact h
 have e : S.data.toList[k] = S[k] := rfl
 rw [List.take_succ_eq_append_getElem hl, List.all_append, h0, e]
 simp [hk]
def WhileR (p : UInt8 → Bool) (S : ByteArray) (n : Int) : Prop := n = (S.data.toList.takeWhile p).length
theorem whileR_stop (p : UInt8 → Bool) (S : ByteArray) (k : Nat) (h : k < S.size) (h0 : (S.data.toList.take k).all p = true) (hk : p S[k] = false) : WhileR p S k := by
 unfold WhileR
 rw [take_len_end p S.data.toList k (by rw [← Lib.size_eq]; omega) h0 (fun _ => hk)]
theorem whileR_end (p : UInt8 → Bool) (S : ByteArray) (h0 : (S.data.toList.take S.size).all p = true) : WhileR p S S.size := by
 unfold WhileR
 rw [take_len_end p S.data.toList S.size (by rw [← Lib.size_eq]; omega) h0 (fun h => by rw [← Lib.size_eq] at h; omega)]

set_option maxRecDepth 100000 in
set_option maxHeartbeats 4000000 in
theorem while_word (S : ByteArray) (w : World) (hs : S.size ≤ 100000) :
  Calls Tryz.prog 49 #[.string S, .func (.func 50) #[] #[]] w fun e w' => (∃ n, e = .returned (.int .i64 n) ∧ WhileR isWord S n) ∧ Below w.heap.size w w' := by
 have ck := fun (k : Nat) (hk : k < S.size) W => isword_is S[k] W
 have stp := whileR_stop isWord S
 have fin := whileR_end isWord S
 have nxt := all_take_next isWord S
 have CK := Lib.hid ck
 have STP := Lib.hid stp
 have FIN := Lib.hid fin
 have NXT := Lib.hid nxt
 clear ck stp fin nxt
 generalize WhileR isWord S = WR at *
 go_enter Tryz.func49, Tryz.ntmps49
 go_wp2
 go_loopw [5] (fun i wr => ∃ k : Nat, k ≤ S.size ∧ i = .int .i64 k ∧ (S.data.toList.take k).all isWord = true ∧ Below w.heap.size w wr) (fun i _ => S.size - (intOf i).toNat)
 case atStart => exact ⟨0, Nat.zero_le _, rfl, rfl, Below.refl _ _⟩
 case round =>
  obtain ⟨k, hk, rfl, hall, hB⟩ := hrel
  have B := Lib.hid hB
  have HALL := Lib.hid hall
  clear hB hall
  by_cases hlt : k < S.size
  ·have hr := CK.out k hlt
   have sp := STP.out k hlt HALL.out
   have nx := NXT.out k hlt HALL.out
   have HR := Lib.hid hr
   have SP := Lib.hid sp
   have NX := Lib.hid nx
   clear hr sp nx
   generalize hq : isWord S[k] = q at *
   have HQ := Lib.hid hq
   clear hq
   cases q with
   | true =>
    go_wp2_with (first
     | (go_at_call 50; with_reducible refine (HR.out _ _ (Below.refl _ _)).mono ?_; rintro e wx ⟨rfl, hB1⟩; replace B := Lib.hid (B.out.trans (hB1.mono B.out.size)); clear hB1)
     | fail "arm")
    go_round
    case rel => exact ⟨k + 1, by omega, by go_num, NX.out trivial, B.out⟩
    case measure => simp [intOf]; omega
   | false =>
    go_wp2_with (first
     | (go_at_call 50; with_reducible refine (HR.out _ _ (Below.refl _ _)).mono ?_; rintro e wx ⟨rfl, hB1⟩; replace B := Lib.hid (B.out.trans (hB1.mono B.out.size)); clear hB1)
     | fail "arm")
    go_ret
    exact ⟨⟨_, rfl, SP.out trivial⟩, B.out⟩
  ·obtain rfl : k = S.size := by omega
   have sp := FIN.out HALL.out
   have SP := Lib.hid sp
   clear sp
   go_wp2
   go_ret
   exact ⟨⟨_, rfl, SP.out⟩, B.out⟩

set_option maxRecDepth 100000 in
set_option maxHeartbeats 4000000 in
theorem while_num (S : ByteArray) (w : World) (hs : S.size ≤ 100000) :
  Calls Tryz.prog 49 #[.string S, .func (.func 52) #[] #[]] w fun e w' => (∃ n, e = .returned (.int .i64 n) ∧ WhileR isNum S n) ∧ Below w.heap.size w w' := by
 have ck := fun (k : Nat) (hk : k < S.size) W => isnum_is S[k] W
 have stp := whileR_stop isNum S
 have fin := whileR_end isNum S
 have nxt := all_take_next isNum S
 have CK := Lib.hid ck
 have STP := Lib.hid stp
 have FIN := Lib.hid fin
 have NXT := Lib.hid nxt
 clear ck stp fin nxt
 generalize WhileR isNum S = WR at *
 go_enter Tryz.func49, Tryz.ntmps49
 go_wp2
 go_loopw [5] (fun i wr => ∃ k : Nat, k ≤ S.size ∧ i = .int .i64 k ∧ (S.data.toList.take k).all isNum = true ∧ Below w.heap.size w wr) (fun i _ => S.size - (intOf i).toNat)
 case atStart => exact ⟨0, Nat.zero_le _, rfl, rfl, Below.refl _ _⟩
 case round =>
  obtain ⟨k, hk, rfl, hall, hB⟩ := hrel
  have B := Lib.hid hB
  have HALL := Lib.hid hall
  clear hB hall
  by_cases hlt : k < S.size
  ·have hr := CK.out k hlt
   have sp := STP.out k hlt HALL.out
   have nx := NXT.out k hlt HALL.out
   have HR := Lib.hid hr
   have SP := Lib.hid sp
   have NX := Lib.hid nx
   clear hr sp nx
   generalize hq : isNum S[k] = q at *
   have HQ := Lib.hid hq
   clear hq
   cases q with
   | true =>
    go_wp2_with (first
     | (go_at_call 52; with_reducible refine (HR.out _ _ (Below.refl _ _)).mono ?_; rintro e wx ⟨rfl, hB1⟩; replace B := Lib.hid (B.out.trans (hB1.mono B.out.size)); clear hB1)
     | fail "arm")
    go_round
    case rel => exact ⟨k + 1, by omega, by go_num, NX.out trivial, B.out⟩
    case measure => simp [intOf]; omega
   | false =>
    go_wp2_with (first
     | (go_at_call 52; with_reducible refine (HR.out _ _ (Below.refl _ _)).mono ?_; rintro e wx ⟨rfl, hB1⟩; replace B := Lib.hid (B.out.trans (hB1.mono B.out.size)); clear hB1)
     | fail "arm")
    go_ret
    exact ⟨⟨_, rfl, SP.out trivial⟩, B.out⟩
  ·obtain rfl : k = S.size := by omega
   have sp := FIN.out HALL.out
   have SP := Lib.hid sp
   clear sp
   go_wp2
   go_ret
   exact ⟨⟨_, rfl, SP.out⟩, B.out⟩

end Go.Proofs.YtfhmgkicccfghaaGreatDoor
