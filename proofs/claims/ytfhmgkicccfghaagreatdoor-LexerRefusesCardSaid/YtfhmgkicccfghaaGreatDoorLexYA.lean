/- The walks of the model's lexer: has, token. -/
import Derived.Test.YtfhmgkicccfghaaGreatDoorLexWD
namespace Go.Proofs.YtfhmgkicccfghaaGreatDoor
set_option linter.all false
open Go.RowKit

theorem u8_beq (c d : UInt8) : (((c.toNat : Nat) : Int) == ((d.toNat : Nat) : Int)) = (c == d) := by
 rw [Bool.eq_iff_iff, beq_iff_eq, beq_iff_eq, ← UInt8.toNat_inj]
 omega
theorem all_next (p : UInt8 → Bool) (l : List UInt8) (k : Nat) (h : k < l.length) (h0 : (l.take k).all p = true) (hk : p l[k] = true) : (l.take (k + 1)).all p = true := by
 rw [List.take_succ_eq_append_getElem h, List.all_append, h0]
 simp [hk]

theorem ba_toList {S T : ByteArray} (h : S.toList = T.toList) : S = T := by
 rw [ByteArray.toList_eq, ByteArray.toList_eq] at h
 rcases S with ⟨⟨s⟩⟩
 rcases T with ⟨⟨t⟩⟩
 cases h
 rfl
def mark2 (k : Nat) : ByteArray := if k = 0 then ⟨#[45, 62]⟩ else if k = 1 then ⟨#[60, 61]⟩ else if k = 2 then ⟨#[62, 61]⟩ else ⟨#[33, 61]⟩
theorem mark2_four {P : Nat → Prop} (h0 : P 0) (h1 : P 1) (h2 : P 2) (h3 : P 3) {k : Nat} (hk : k < 4) : P k := by
 rcases k with _ | _ | _ | _ | k
 ·exact h0
 ·exact h1
 ·exact h2
 ·exact h3
 ·omega
theorem mark2_cell {W : World} {m : Nat} {T : TypeId} (h : Blk W m #[.string ⟨#[45, 62]⟩, .string ⟨#[60, 61]⟩, .string ⟨#[62, 61]⟩, .string ⟨#[33, 61]⟩] T) {k : Nat} (hk : k < 4) : W.cell? ⟨m, k, none⟩ = some (.string (mark2 k)) :=
 mark2_four (P := fun k => W.cell? ⟨m, k, none⟩ = some (.string (mark2 k))) (h.at_ 0 _ rfl) (h.at_ 1 _ rfl) (h.at_ 2 _ rfl) (h.at_ 3 _ rfl) hk
theorem mark2_mem {k : Nat} (hk : k < 4) : (mark2 k).data.toList ∈ marks2 :=
 mark2_four (P := fun k => (mark2 k).data.toList ∈ marks2) (by decide) (by decide) (by decide) (by decide) hk
theorem mark2_all {S : ByteArray} (h : ∀ j, j < 4 → S ≠ mark2 j) : S.data.toList ∉ marks2 := by
 intro hm
 unfold marks2 at hm
 simp only [List.mem_cons, List.not_mem_nil, or_false] at hm
 rcases hm with e | e | e | e
 ·exact h 0 (by omega) (bytes_of e)
 ·exact h 1 (by omega) (bytes_of e)
 ·exact h 2 (by omega) (bytes_of e)
 ·exact h 3 (by omega) (bytes_of e)

set_option maxRecDepth 100000 in
set_option maxHeartbeats 4000000 in
theorem has_is (S : ByteArray) (c : UInt8) (w : World) (hs : S.size ≤ 100000) :
  Calls Tryz.prog 35 #[.string S, .int .u8 c.toNat] w fun e w' => e = .returned (.bool (decide (c ∈ S.data.toList))) ∧ Below w.heap.size w w' := by
 have yes : ∀ (k : Nat) (h : k < S.size), S[k] = c → decide (c ∈ S.data.toList) = true := fun k h e => decide_eq_true (by rw [← e]; exact List.getElem_mem (l := S.data.toList) (by rw [← Lib.size_eq]; exact h))
 have no : (S.data.toList.take S.size).all (· != c) = true → decide (c ∈ S.data.toList) = false := fun h => decide_eq_false (by
  rw [List.take_of_length_le (by rw [← Lib.size_eq]; omega)] at h
  intro hm
  have := List.all_eq_true.1 h c hm
  simp at this)
 have nxt := all_take_next (· != c) S
 have YES := Lib.hid yes
 have NO := Lib.hid no
 have NXT := Lib.hid nxt
 clear yes no nxt
 generalize decide (c ∈ S.data.toList) = ans at *
 go_enter Tryz.func35, Tryz.ntmps35
 go_wp2
 go_loopw [5] (fun i wr => ∃ k : Nat, k ≤ S.size ∧ i = .int .i64 k ∧ (S.data.toList.take k).all (· != c) = true ∧ Below w.heap.size w wr) (fun i _ => S.size - (intOf i).toNat)
 case atStart => exact ⟨0, Nat.zero_le _, rfl, rfl, Below.refl _ _⟩
 case round =>
  obtain ⟨k, hk, rfl, hall, hB⟩ := hrel
  have B := Lib.hid hB
  have HALL := Lib.hid hall
  clear hB hall
  by_cases hlt : k < S.size
  ·have ub := u8_beq S[k] c
   by_cases he : S[k] = c
   ·have q : (S[k] == c) = true := by rw [he]; exact beq_self_eq_true c
    rw [q] at ub
    have hy := YES.out k hlt he
    have HY := Lib.hid hy
    clear hy he q
    go_wp2
    go_ret
    exact ⟨by rw [HY.out]; rfl, B.out⟩
   ·have q : (S[k] == c) = false := by rw [beq_eq_false_iff_ne]; exact he
    rw [q] at ub
    have hn := NXT.out k hlt HALL.out (by rw [bne_iff_ne]; exact he)
    have HN := Lib.hid hn
    clear hn he q
    go_wp2
    go_round
    case rel => exact ⟨k + 1, by omega, by go_num, HN.out, B.out⟩
    case measure => simp [intOf]; omega
  ·obtain rfl : k = S.size := by omega
   have hn := NO.out HALL.out
   have HN := Lib.hid hn
   clear hn
   go_wp2
   go_ret
   exact ⟨by rw [HN.out]; rfl, B.out⟩


set_option maxRecDepth 100000 in
set_option maxHeartbeats 4000000 in
theorem token_word (S : ByteArray) (w : World) (h0 : 0 < S.size) (hs : S.size ≤ 65536) (hl : isLet S[0] = true) (V : Value) (hV : ∀ n, n = 1 + ((S.data.toList.drop 1).takeWhile isWord).length → (32 < n → V = fstV 0 ⟨#[]⟩ ⟨#[]⟩ 0 8) ∧ (¬ 32 < n → V = fstV 1 (S.extract 0 n) ⟨#[]⟩ n 0)) :
  Calls Tryz.prog 36 #[.string S] w fun e w' => (e = .returned V) ∧ Below w.heap.size w w' := by
 have k0 := Blk.fresh w #[.int .i64 0, .string ⟨#[]⟩, .string ⟨#[]⟩, .int .i64 0, .int .i64 0] 38
 have b0 := (Below.refl w.heap.size w).alloc (Nat.le_refl _) (.cells #[.int .i64 0, .string ⟨#[]⟩, .string ⟨#[]⟩, .int .i64 0, .int .i64 0] 38)
 have K0 := Lib.hid k0
 have B := Lib.hid b0
 clear k0 b0
 have L1 : Hid (∀ W, Calls Tryz.prog 55 #[.int .u8 S[0].toNat] W fun e w' => e = .returned (.bool true) ∧ Below W.heap.size W w') := Lib.hid (fun W => by have h := kletter_is S[0] W W (Below.refl _ _); rw [hl] at h; exact h)
 have HP := Lib.hid hV
 clear hV hl
 go_enter Tryz.func36, Tryz.ntmps36
 go_upto_region 1 with (fail)
 generalize (w.alloc (Obj.cells #[.int .i64 0, .string ⟨#[]⟩, .string ⟨#[]⟩, .int .i64 0, .int .i64 0] 38)) = W0 at *
 go_upto_region 3 with (first
  | (go_at_call 55; with_reducible refine (L1.out _).mono ?_; rintro e wx ⟨rfl, q⟩; replace K0 := Lib.hid (K0.out.near (by first | exact Near.same _ | exact Near.one _) q); replace B := Lib.hid (goI B.out q); clear q)
  | fail "arm")
 go_loopw [5] (fun i wx => ∃ k : Nat, 1 ≤ k ∧ k ≤ S.size ∧ i = .int .i64 k ∧ ((S.data.toList.drop 1).take (k - 1)).all (isWord) = true ∧ Blk wx w.heap.size #[.int .i64 0, .string ⟨#[]⟩, .string ⟨#[]⟩, .int .i64 0, .int .i64 0] 38 ∧ Below w.heap.size w wx) (fun i _ => S.size - (intOf i).toNat)
 case atStart => exact ⟨1, Nat.le_refl _, h0, rfl, rfl, K0.out, B.out⟩
 case round =>
  clear K0 B
  obtain ⟨k, hk1, hk, rfl, hall, hK, hB⟩ := hrel
  have K0 := Lib.hid hK
  have B := Lib.hid hB
  have HALL := Lib.hid hall
  clear hK hB hall
  by_cases hlt : k < S.size
  ·have hd : k - 1 < (S.data.toList.drop 1).length := by rw [List.length_drop, ← Lib.size_eq]; omega
   have hg : (S.data.toList.drop 1)[k - 1] = S[k] := by
    have e1 : (S.data.toList.drop 1)[k - 1] = S.data.toList[k]'(by rw [← Lib.size_eq]; exact hlt) := by
     rw [List.getElem_drop]
     congr 1
     omega
    rw [e1]
    rfl
   have hnx := fun h => all_next (isWord) (S.data.toList.drop 1) (k - 1) hd HALL.out h
   rw [hg, show k - 1 + 1 = k + 1 - 1 by omega] at hnx
   have hst : (isWord) S[k] = false → k = 1 + ((S.data.toList.drop 1).takeWhile (isWord)).length := fun h => by
    rw [take_len_end (isWord) (S.data.toList.drop 1) (k - 1) (by omega) HALL.out (fun _ => by rw [hg]; exact h)]
    omega
   have HNX := Lib.hid hnx
   have HST := Lib.hid hst
   clear hnx hst hg hd
   cases hA : isLet S[k] with
   | true =>
    have A1 : Hid (∀ W, Calls Tryz.prog 55 #[.int .u8 S[k].toNat] W fun e w' => e = .returned (.bool true) ∧ Below W.heap.size W w') := Lib.hid (fun W => by have h := kletter_is S[k] W W (Below.refl _ _); rw [hA] at h; exact h)
    go_wp2_with (first
     | (go_at_call 55; with_reducible refine (A1.out _).mono ?_; rintro e wx ⟨rfl, q⟩; replace K0 := Lib.hid (K0.out.near (by first | exact Near.same _ | exact Near.one _) q); replace B := Lib.hid (goI B.out q); clear q)
     | fail "arm")
    go_round
    case rel => exact ⟨k + 1, by omega, by omega, by go_num, HNX.out (by unfold isWord; rw [hA]; rfl), K0.out, B.out⟩
    case measure => simp [intOf]; omega
   | false =>
    have A1 : Hid (∀ W, Calls Tryz.prog 55 #[.int .u8 S[k].toNat] W fun e w' => e = .returned (.bool false) ∧ Below W.heap.size W w') := Lib.hid (fun W => by have h := kletter_is S[k] W W (Below.refl _ _); rw [hA] at h; exact h)
    cases hD : isDig S[k] with
    | true =>
     have A2 : Hid (∀ W, Calls Tryz.prog 56 #[.int .u8 S[k].toNat] W fun e w' => e = .returned (.bool true) ∧ Below W.heap.size W w') := Lib.hid (fun W => by have h := kdigit_is S[k] W W (Below.refl _ _); rw [hD] at h; exact h)
     go_wp2_with (first
      | (go_at_call 55; with_reducible refine (A1.out _).mono ?_; rintro e wx ⟨rfl, q⟩; replace K0 := Lib.hid (K0.out.near (by first | exact Near.same _ | exact Near.one _) q); replace B := Lib.hid (goI B.out q); clear q)
      | (go_at_call 56; with_reducible refine (A2.out _).mono ?_; rintro e wx ⟨rfl, q⟩; replace K0 := Lib.hid (K0.out.near (by first | exact Near.same _ | exact Near.one _) q); replace B := Lib.hid (goI B.out q); clear q)
      | fail "arm")
     go_round
     case rel => exact ⟨k + 1, by omega, by omega, by go_num, HNX.out (by unfold isWord; rw [hA, hD]; rfl), K0.out, B.out⟩
     case measure => simp [intOf]; omega
    | false =>
     have A2 : Hid (∀ W, Calls Tryz.prog 56 #[.int .u8 S[k].toNat] W fun e w' => e = .returned (.bool false) ∧ Below W.heap.size W w') := Lib.hid (fun W => by have h := kdigit_is S[k] W W (Below.refl _ _); rw [hD] at h; exact h)
     by_cases h95 : S[k] = 95
     ·have q95 : (((S[k].toNat : Nat) : Int) == 95) = true := u8_eq_true S[k] 95 (by decide) h95
      have H95 := Lib.hid h95
      clear h95
      go_wp2_with (first
       | (go_at_call 55; with_reducible refine (A1.out _).mono ?_; rintro e wx ⟨rfl, q⟩; replace K0 := Lib.hid (K0.out.near (by first | exact Near.same _ | exact Near.one _) q); replace B := Lib.hid (goI B.out q); clear q)
       | (go_at_call 56; with_reducible refine (A2.out _).mono ?_; rintro e wx ⟨rfl, q⟩; replace K0 := Lib.hid (K0.out.near (by first | exact Near.same _ | exact Near.one _) q); replace B := Lib.hid (goI B.out q); clear q)
       | fail "arm")
      go_round
      case rel => exact ⟨k + 1, by omega, by omega, by go_num, HNX.out (by unfold isWord; rw [hA, hD, H95.out]; rfl), K0.out, B.out⟩
      case measure => simp [intOf]; omega
     ·have q95 : (((S[k].toNat : Nat) : Int) == 95) = false := u8_eq_false S[k] 95 (by decide) h95
      have HS := Lib.hid (HST.out (by unfold isWord; rw [hA, hD]; simp [h95]))
      clear HNX HST
      go_upto_region 5 with (first
       | (go_at_call 55; with_reducible refine (A1.out _).mono ?_; rintro e wx ⟨rfl, q⟩; replace K0 := Lib.hid (K0.out.near (by first | exact Near.same _ | exact Near.one _) q); replace B := Lib.hid (goI B.out q); clear q)
       | (go_at_call 56; with_reducible refine (A2.out _).mono ?_; rintro e wx ⟨rfl, q⟩; replace K0 := Lib.hid (K0.out.near (by first | exact Near.same _ | exact Near.one _) q); replace B := Lib.hid (goI B.out q); clear q)
       | fail "arm")
      by_cases h32 : 32 < k
      ·have t1 : decide ((k : Int) > 32) = true := decide_eq_true (by omega)
       go_upto_region 6 with (fail)
       have z0 := K0.out.free 0
       have z1 := K0.out.free 1
       have z2 := K0.out.free 2
       have z3 := K0.out.free 3
       have z4 := K0.out.free 4
       have c0 := K0.out.at_ 0 _ rfl
       have c1 := K0.out.at_ 1 _ rfl
       have c2 := K0.out.at_ 2 _ rfl
       have c3 := K0.out.at_ 3 _ rfl
       have c4 := K0.out.at_ 4 _ rfl
       go_wp2
       have R := K0.out.set5 (.int .i64 0) (.string ⟨#[]⟩) (.string ⟨#[]⟩) (.int .i64 0) (.int .i64 0)
       have B1 := below_set5 B.out (Nat.le_refl _) (.int .i64 0) (.string ⟨#[]⟩) (.string ⟨#[]⟩) (.int .i64 0) (.int .i64 0)
       have e0 := R.at_ 0 _ rfl
       have e1 := R.at_ 1 _ rfl
       have e2 := R.at_ 2 _ rfl
       have e3 := R.at_ 3 _ rfl
       have e4 := R.at_ 4 _ rfl
       rw [(HP.out k HS.out).1 h32]
       exact bodyPost_ret (v := fstV 0 ⟨#[]⟩ ⟨#[]⟩ 0 8) (by simp [results, Tryz.results36, go_sem, e0, e1, e2, e3, e4, fstV]) rfl ⟨rfl, B1⟩
      ·have t1 : decide ((k : Int) > 32) = false := decide_eq_false (by omega)
       go_upto_region 7 with (fail)
       have z0 := K0.out.free 0
       have z1 := K0.out.free 1
       have z2 := K0.out.free 2
       have z3 := K0.out.free 3
       have z4 := K0.out.free 4
       have c0 := K0.out.at_ 0 _ rfl
       have c1 := K0.out.at_ 1 _ rfl
       have c2 := K0.out.at_ 2 _ rfl
       have c3 := K0.out.at_ 3 _ rfl
       have c4 := K0.out.at_ 4 _ rfl
       go_wp2
       have R := K0.out.set5 (.int .i64 1) (.string (S.extract 0 k)) (.string ⟨#[]⟩) (.int .i64 0) (.int .i64 0)
       have B1 := below_set5 B.out (Nat.le_refl _) (.int .i64 1) (.string (S.extract 0 k)) (.string ⟨#[]⟩) (.int .i64 0) (.int .i64 0)
       have e0 := R.at_ 0 _ rfl
       have e1 := R.at_ 1 _ rfl
       have e2 := R.at_ 2 _ rfl
       have e3 := R.at_ 3 _ rfl
       have e4 := R.at_ 4 _ rfl
       rw [(HP.out k HS.out).2 h32]
       exact bodyPost_ret (v := fstV 1 (S.extract 0 k) ⟨#[]⟩ k 0) (by simp [results, Tryz.results36, go_sem, e0, e1, e2, e3, e4, fstV]) rfl ⟨rfl, B1⟩
  ·obtain rfl : k = S.size := by omega
   have hst : S.size = 1 + ((S.data.toList.drop 1).takeWhile (isWord)).length := by
    rw [take_len_end (isWord) (S.data.toList.drop 1) (S.size - 1) (by rw [List.length_drop, ← Lib.size_eq]; omega) HALL.out (fun h => by rw [List.length_drop, ← Lib.size_eq] at h; omega)]
    omega
   have HS := Lib.hid hst
   clear hst HALL
   by_cases h32 : 32 < S.size
   ·have t1 : decide ((S.size : Int) > 32) = true := decide_eq_true (by omega)
    go_upto_region 6 with (fail)
    have z0 := K0.out.free 0
    have z1 := K0.out.free 1
    have z2 := K0.out.free 2
    have z3 := K0.out.free 3
    have z4 := K0.out.free 4
    have c0 := K0.out.at_ 0 _ rfl
    have c1 := K0.out.at_ 1 _ rfl
    have c2 := K0.out.at_ 2 _ rfl
    have c3 := K0.out.at_ 3 _ rfl
    have c4 := K0.out.at_ 4 _ rfl
    go_wp2
    have R := K0.out.set5 (.int .i64 0) (.string ⟨#[]⟩) (.string ⟨#[]⟩) (.int .i64 0) (.int .i64 0)
    have B1 := below_set5 B.out (Nat.le_refl _) (.int .i64 0) (.string ⟨#[]⟩) (.string ⟨#[]⟩) (.int .i64 0) (.int .i64 0)
    have e0 := R.at_ 0 _ rfl
    have e1 := R.at_ 1 _ rfl
    have e2 := R.at_ 2 _ rfl
    have e3 := R.at_ 3 _ rfl
    have e4 := R.at_ 4 _ rfl
    rw [(HP.out S.size HS.out).1 h32]
    exact bodyPost_ret (v := fstV 0 ⟨#[]⟩ ⟨#[]⟩ 0 8) (by simp [results, Tryz.results36, go_sem, e0, e1, e2, e3, e4, fstV]) rfl ⟨rfl, B1⟩
   ·have t1 : decide ((S.size : Int) > 32) = false := decide_eq_false (by omega)
    go_upto_region 7 with (fail)
    have z0 := K0.out.free 0
    have z1 := K0.out.free 1
    have z2 := K0.out.free 2
    have z3 := K0.out.free 3
    have z4 := K0.out.free 4
    have c0 := K0.out.at_ 0 _ rfl
    have c1 := K0.out.at_ 1 _ rfl
    have c2 := K0.out.at_ 2 _ rfl
    have c3 := K0.out.at_ 3 _ rfl
    have c4 := K0.out.at_ 4 _ rfl
    go_wp2
    have R := K0.out.set5 (.int .i64 1) (.string S) (.string ⟨#[]⟩) (.int .i64 0) (.int .i64 0)
    have B1 := below_set5 B.out (Nat.le_refl _) (.int .i64 1) (.string S) (.string ⟨#[]⟩) (.int .i64 0) (.int .i64 0)
    have e0 := R.at_ 0 _ rfl
    have e1 := R.at_ 1 _ rfl
    have e2 := R.at_ 2 _ rfl
    have e3 := R.at_ 3 _ rfl
    have e4 := R.at_ 4 _ rfl
    rw [(HP.out S.size HS.out).2 h32]
    rw [show S.extract 0 S.size = S by simp]
    exact bodyPost_ret (v := fstV 1 S ⟨#[]⟩ S.size 0) (by simp [results, Tryz.results36, go_sem, e0, e1, e2, e3, e4, fstV]) rfl ⟨rfl, B1⟩


set_option maxRecDepth 100000 in
set_option maxHeartbeats 4000000 in
theorem token_num (S : ByteArray) (w : World) (h0 : 0 < S.size) (hs : S.size ≤ 65536) (hl : isLet S[0] = false) (hn : NumT S) (V : Value) (R0 : ByteArray) (E : Int) (n : Nat) (hn1 : n = 1 + ((S.data.toList.drop 1).takeWhile isNum).length) (hp : ∀ W, Below w.heap.size w W → Calls Tryz.prog 53 #[.string (S.extract 0 n)] W fun e w' => e = .returned (.tuple #[.string R0, .int .i64 E]) ∧ Below W.heap.size W w') (hV : (E = 0 → V = fstV 2 R0 R0 n 0) ∧ (E ≠ 0 → V = fstV 0 ⟨#[]⟩ ⟨#[]⟩ 0 2)) :
  Calls Tryz.prog 36 #[.string S] w fun e w' => (e = .returned V) ∧ Below w.heap.size w w' := by
 have k0 := Blk.fresh w #[.int .i64 0, .string ⟨#[]⟩, .string ⟨#[]⟩, .int .i64 0, .int .i64 0] 38
 have b0 := (Below.refl w.heap.size w).alloc (Nat.le_refl _) (.cells #[.int .i64 0, .string ⟨#[]⟩, .string ⟨#[]⟩, .int .i64 0, .int .i64 0] 38)
 have K0 := Lib.hid k0
 have B := Lib.hid b0
 clear k0 b0
 have L1 : Hid (∀ W, Calls Tryz.prog 55 #[.int .u8 S[0].toNat] W fun e w' => e = .returned (.bool false) ∧ Below W.heap.size W w') := Lib.hid (fun W => by have h := kletter_is S[0] W W (Below.refl _ _); rw [hl] at h; exact h)
 have HV := Lib.hid hV
 have HNN := Lib.hid hn1
 have P1 := Lib.hid hp
 clear hV hl hn1 hp
 go_enter Tryz.func36, Tryz.ntmps36
 go_upto_region 1 with (fail)
 generalize (w.alloc (Obj.cells #[.int .i64 0, .string ⟨#[]⟩, .string ⟨#[]⟩, .int .i64 0, .int .i64 0] 38)) = W0 at *
 obtain ⟨_, hn | ⟨hD, hM, h1, hE⟩⟩ := hn
 ·have D0 : Hid (∀ W, Calls Tryz.prog 56 #[.int .u8 S[0].toNat] W fun e w' => e = .returned (.bool true) ∧ Below W.heap.size W w') := Lib.hid (fun W => by have h := kdigit_is S[0] W W (Below.refl _ _); rw [hn] at h; exact h)
  go_upto_region 9 with (first
   | (go_at_call 55; with_reducible refine (L1.out _).mono ?_; rintro e wx ⟨rfl, q⟩; replace K0 := Lib.hid (K0.out.near (by first | exact Near.same _ | exact Near.one _) q); replace B := Lib.hid (goI B.out q); clear q)
   | (go_at_call 56; with_reducible refine (D0.out _).mono ?_; rintro e wx ⟨rfl, q⟩; replace K0 := Lib.hid (K0.out.near (by first | exact Near.same _ | exact Near.one _) q); replace B := Lib.hid (goI B.out q); clear q)
   | fail "arm")
  go_loopw [5] (fun i wx => ∃ k : Nat, 1 ≤ k ∧ k ≤ S.size ∧ i = .int .i64 k ∧ ((S.data.toList.drop 1).take (k - 1)).all (isNum) = true ∧ Blk wx w.heap.size #[.int .i64 0, .string ⟨#[]⟩, .string ⟨#[]⟩, .int .i64 0, .int .i64 0] 38 ∧ Below w.heap.size w wx) (fun i _ => S.size - (intOf i).toNat)
  case atStart => exact ⟨1, Nat.le_refl _, h0, rfl, rfl, K0.out, B.out⟩
  case round =>
   clear K0 B
   obtain ⟨k, hk1, hk, rfl, hall, hK, hB⟩ := hrel
   have K0 := Lib.hid hK
   have B := Lib.hid hB
   have HALL := Lib.hid hall
   clear hK hB hall
   by_cases hlt : k < S.size
   ·have hd : k - 1 < (S.data.toList.drop 1).length := by rw [List.length_drop, ← Lib.size_eq]; omega
    have hg : (S.data.toList.drop 1)[k - 1] = S[k] := by
     have e1 : (S.data.toList.drop 1)[k - 1] = S.data.toList[k]'(by rw [← Lib.size_eq]; exact hlt) := by
      rw [List.getElem_drop]
      congr 1
      omega
     rw [e1]
     rfl
    have hnx := fun h => all_next (isNum) (S.data.toList.drop 1) (k - 1) hd HALL.out h
    rw [hg, show k - 1 + 1 = k + 1 - 1 by omega] at hnx
    have hst : (isNum) S[k] = false → k = 1 + ((S.data.toList.drop 1).takeWhile (isNum)).length := fun h => by
     rw [take_len_end (isNum) (S.data.toList.drop 1) (k - 1) (by omega) HALL.out (fun _ => by rw [hg]; exact h)]
     omega
    have HNX := Lib.hid hnx
    have HST := Lib.hid hst
    clear hnx hst hg hd
    cases hD : isDig S[k] with
    | true =>
     have A2 : Hid (∀ W, Calls Tryz.prog 56 #[.int .u8 S[k].toNat] W fun e w' => e = .returned (.bool true) ∧ Below W.heap.size W w') := Lib.hid (fun W => by have h := kdigit_is S[k] W W (Below.refl _ _); rw [hD] at h; exact h)
     go_wp2_with (first
      | (go_at_call 56; with_reducible refine (A2.out _).mono ?_; rintro e wx ⟨rfl, q⟩; replace K0 := Lib.hid (K0.out.near (by first | exact Near.same _ | exact Near.one _) q); replace B := Lib.hid (goI B.out q); clear q)
      | fail "arm")
     go_round
     case rel => exact ⟨k + 1, by omega, by omega, by go_num, HNX.out (by unfold isNum; rw [hD]; rfl), K0.out, B.out⟩
     case measure => simp [intOf]; omega
    | false =>
     have A2 : Hid (∀ W, Calls Tryz.prog 56 #[.int .u8 S[k].toNat] W fun e w' => e = .returned (.bool false) ∧ Below W.heap.size W w') := Lib.hid (fun W => by have h := kdigit_is S[k] W W (Below.refl _ _); rw [hD] at h; exact h)
     by_cases h46 : S[k] = 46
     ·have q46 : (((S[k].toNat : Nat) : Int) == 46) = true := u8_eq_true S[k] 46 (by decide) h46
      have H46 := Lib.hid h46
      clear h46
      go_wp2_with (first
       | (go_at_call 56; with_reducible refine (A2.out _).mono ?_; rintro e wx ⟨rfl, q⟩; replace K0 := Lib.hid (K0.out.near (by first | exact Near.same _ | exact Near.one _) q); replace B := Lib.hid (goI B.out q); clear q)
       | fail "arm")
      go_round
      case rel => exact ⟨k + 1, by omega, by omega, by go_num, HNX.out (by unfold isNum; rw [hD, H46.out]; rfl), K0.out, B.out⟩
      case measure => simp [intOf]; omega
     ·have q46 : (((S[k].toNat : Nat) : Int) == 46) = false := u8_eq_false S[k] 46 (by decide) h46
      by_cases h47 : S[k] = 47
      ·have q47 : (((S[k].toNat : Nat) : Int) == 47) = true := u8_eq_true S[k] 47 (by decide) h47
       have H47 := Lib.hid h47
       clear h47
       go_wp2_with (first
        | (go_at_call 56; with_reducible refine (A2.out _).mono ?_; rintro e wx ⟨rfl, q⟩; replace K0 := Lib.hid (K0.out.near (by first | exact Near.same _ | exact Near.one _) q); replace B := Lib.hid (goI B.out q); clear q)
        | fail "arm")
       go_round
       case rel => exact ⟨k + 1, by omega, by omega, by go_num, HNX.out (by unfold isNum; rw [hD, H47.out]; rfl), K0.out, B.out⟩
       case measure => simp [intOf]; omega
      ·have q47 : (((S[k].toNat : Nat) : Int) == 47) = false := u8_eq_false S[k] 47 (by decide) h47
       have HS := Lib.hid (HST.out (by unfold isNum; rw [hD]; simp [h46, h47]))
       clear HNX HST
       go_upto_region 11 with (first
        | (go_at_call 56; with_reducible refine (A2.out _).mono ?_; rintro e wx ⟨rfl, q⟩; replace K0 := Lib.hid (K0.out.near (by first | exact Near.same _ | exact Near.one _) q); replace B := Lib.hid (goI B.out q); clear q)
        | fail "arm")
       obtain rfl : k = n := HS.out.trans HNN.out.symm
       clear HS
       by_cases he : E = 0
       ·have e1 : (E != 0) = false := by rw [he]; rfl
        go_upto_region 14 with (first
         | (go_at_call 53; with_reducible refine (P1.out _ (baseI B.out)).mono ?_; rintro e wx ⟨rfl, q⟩; replace K0 := Lib.hid (K0.out.near (by first | exact Near.same _ | exact Near.one _) q); replace B := Lib.hid (goI B.out q); clear q)
         | fail "arm")
        have z0 := K0.out.free 0
        have z1 := K0.out.free 1
        have z2 := K0.out.free 2
        have z3 := K0.out.free 3
        have z4 := K0.out.free 4
        have c0 := K0.out.at_ 0 _ rfl
        have c1 := K0.out.at_ 1 _ rfl
        have c2 := K0.out.at_ 2 _ rfl
        have c3 := K0.out.at_ 3 _ rfl
        have c4 := K0.out.at_ 4 _ rfl
        go_wp2
        have R := K0.out.set5 (.int .i64 2) (.string R0) (.string R0) (.int .i64 0) (.int .i64 0)
        have B1 := below_set5 B.out (Nat.le_refl _) (.int .i64 2) (.string R0) (.string R0) (.int .i64 0) (.int .i64 0)
        have e0 := R.at_ 0 _ rfl
        have e1 := R.at_ 1 _ rfl
        have e2 := R.at_ 2 _ rfl
        have e3 := R.at_ 3 _ rfl
        have e4 := R.at_ 4 _ rfl
        rw [HV.out.1 he]
        exact bodyPost_ret (v := fstV 2 R0 R0 k 0) (by simp [results, Tryz.results36, go_sem, e0, e1, e2, e3, e4, fstV]) rfl ⟨rfl, B1⟩
       ·have e1 : (E != 0) = true := by rw [bne_iff_ne]; exact he
        go_upto_region 13 with (first
         | (go_at_call 53; with_reducible refine (P1.out _ (baseI B.out)).mono ?_; rintro e wx ⟨rfl, q⟩; replace K0 := Lib.hid (K0.out.near (by first | exact Near.same _ | exact Near.one _) q); replace B := Lib.hid (goI B.out q); clear q)
         | fail "arm")
        have z0 := K0.out.free 0
        have z1 := K0.out.free 1
        have z2 := K0.out.free 2
        have z3 := K0.out.free 3
        have z4 := K0.out.free 4
        have c0 := K0.out.at_ 0 _ rfl
        have c1 := K0.out.at_ 1 _ rfl
        have c2 := K0.out.at_ 2 _ rfl
        have c3 := K0.out.at_ 3 _ rfl
        have c4 := K0.out.at_ 4 _ rfl
        go_wp2
        have R := K0.out.set5 (.int .i64 0) (.string ⟨#[]⟩) (.string ⟨#[]⟩) (.int .i64 0) (.int .i64 0)
        have B1 := below_set5 B.out (Nat.le_refl _) (.int .i64 0) (.string ⟨#[]⟩) (.string ⟨#[]⟩) (.int .i64 0) (.int .i64 0)
        have e0 := R.at_ 0 _ rfl
        have e1 := R.at_ 1 _ rfl
        have e2 := R.at_ 2 _ rfl
        have e3 := R.at_ 3 _ rfl
        have e4 := R.at_ 4 _ rfl
        rw [HV.out.2 he]
        exact bodyPost_ret (v := fstV 0 ⟨#[]⟩ ⟨#[]⟩ 0 2) (by simp [results, Tryz.results36, go_sem, e0, e1, e2, e3, e4, fstV]) rfl ⟨rfl, B1⟩
   ·obtain rfl : k = S.size := by omega
    have hst : S.size = 1 + ((S.data.toList.drop 1).takeWhile (isNum)).length := by
     rw [take_len_end (isNum) (S.data.toList.drop 1) (S.size - 1) (by rw [List.length_drop, ← Lib.size_eq]; omega) HALL.out (fun h => by rw [List.length_drop, ← Lib.size_eq] at h; omega)]
     omega
    have HS := Lib.hid hst
    clear hst HALL
    obtain rfl : n = S.size := HNN.out.trans HS.out.symm
    rw [show S.extract 0 S.size = S by simp] at P1
    clear HS
    by_cases he : E = 0
    ·have e1 : (E != 0) = false := by rw [he]; rfl
     go_upto_region 14 with (first
      | (go_at_call 53; with_reducible refine (P1.out _ (baseI B.out)).mono ?_; rintro e wx ⟨rfl, q⟩; replace K0 := Lib.hid (K0.out.near (by first | exact Near.same _ | exact Near.one _) q); replace B := Lib.hid (goI B.out q); clear q)
      | fail "arm")
     have z0 := K0.out.free 0
     have z1 := K0.out.free 1
     have z2 := K0.out.free 2
     have z3 := K0.out.free 3
     have z4 := K0.out.free 4
     have c0 := K0.out.at_ 0 _ rfl
     have c1 := K0.out.at_ 1 _ rfl
     have c2 := K0.out.at_ 2 _ rfl
     have c3 := K0.out.at_ 3 _ rfl
     have c4 := K0.out.at_ 4 _ rfl
     go_wp2
     have R := K0.out.set5 (.int .i64 2) (.string R0) (.string R0) (.int .i64 0) (.int .i64 0)
     have B1 := below_set5 B.out (Nat.le_refl _) (.int .i64 2) (.string R0) (.string R0) (.int .i64 0) (.int .i64 0)
     have e0 := R.at_ 0 _ rfl
     have e1 := R.at_ 1 _ rfl
     have e2 := R.at_ 2 _ rfl
     have e3 := R.at_ 3 _ rfl
     have e4 := R.at_ 4 _ rfl
     rw [HV.out.1 he]
     exact bodyPost_ret (v := fstV 2 R0 R0 S.size 0) (by simp [results, Tryz.results36, go_sem, e0, e1, e2, e3, e4, fstV]) rfl ⟨rfl, B1⟩
    ·have e1 : (E != 0) = true := by rw [bne_iff_ne]; exact he
     go_upto_region 13 with (first
      | (go_at_call 53; with_reducible refine (P1.out _ (baseI B.out)).mono ?_; rintro e wx ⟨rfl, q⟩; replace K0 := Lib.hid (K0.out.near (by first | exact Near.same _ | exact Near.one _) q); replace B := Lib.hid (goI B.out q); clear q)
      | fail "arm")
     have z0 := K0.out.free 0
     have z1 := K0.out.free 1
     have z2 := K0.out.free 2
     have z3 := K0.out.free 3
     have z4 := K0.out.free 4
     have c0 := K0.out.at_ 0 _ rfl
     have c1 := K0.out.at_ 1 _ rfl
     have c2 := K0.out.at_ 2 _ rfl
     have c3 := K0.out.at_ 3 _ rfl
     have c4 := K0.out.at_ 4 _ rfl
     go_wp2
     have R := K0.out.set5 (.int .i64 0) (.string ⟨#[]⟩) (.string ⟨#[]⟩) (.int .i64 0) (.int .i64 0)
     have B1 := below_set5 B.out (Nat.le_refl _) (.int .i64 0) (.string ⟨#[]⟩) (.string ⟨#[]⟩) (.int .i64 0) (.int .i64 0)
     have e0 := R.at_ 0 _ rfl
     have e1 := R.at_ 1 _ rfl
     have e2 := R.at_ 2 _ rfl
     have e3 := R.at_ 3 _ rfl
     have e4 := R.at_ 4 _ rfl
     rw [HV.out.2 he]
     exact bodyPost_ret (v := fstV 0 ⟨#[]⟩ ⟨#[]⟩ 0 2) (by simp [results, Tryz.results36, go_sem, e0, e1, e2, e3, e4, fstV]) rfl ⟨rfl, B1⟩
 ·have D0 : Hid (∀ W, Calls Tryz.prog 56 #[.int .u8 S[0].toNat] W fun e w' => e = .returned (.bool false) ∧ Below W.heap.size W w') := Lib.hid (fun W => by have h := kdigit_is S[0] W W (Below.refl _ _); rw [hD] at h; exact h)
  have D1 : Hid (∀ W, Calls Tryz.prog 56 #[.int .u8 S[1].toNat] W fun e w' => e = .returned (.bool true) ∧ Below W.heap.size W w') := Lib.hid (fun W => by have h := kdigit_is S[1] W W (Below.refl _ _); rw [hE] at h; exact h)
  have q45 : (((S[0].toNat : Nat) : Int) == 45) = true := u8_eq_true S[0] 45 (by decide) hM
  have t1 : decide ((S.size : Int) > 1) = true := decide_eq_true (by omega)
  clear hM hD hE
  go_upto_region 9 with (first
   | (go_at_call 55; with_reducible refine (L1.out _).mono ?_; rintro e wx ⟨rfl, q⟩; replace K0 := Lib.hid (K0.out.near (by first | exact Near.same _ | exact Near.one _) q); replace B := Lib.hid (goI B.out q); clear q)
   | (go_at_call 56; with_reducible refine (D0.out _).mono ?_; rintro e wx ⟨rfl, q⟩; replace K0 := Lib.hid (K0.out.near (by first | exact Near.same _ | exact Near.one _) q); replace B := Lib.hid (goI B.out q); clear q)
   | (go_at_call 56; with_reducible refine (D1.out _).mono ?_; rintro e wx ⟨rfl, q⟩; replace K0 := Lib.hid (K0.out.near (by first | exact Near.same _ | exact Near.one _) q); replace B := Lib.hid (goI B.out q); clear q)
   | fail "arm")
  go_loopw [5] (fun i wx => ∃ k : Nat, 1 ≤ k ∧ k ≤ S.size ∧ i = .int .i64 k ∧ ((S.data.toList.drop 1).take (k - 1)).all (isNum) = true ∧ Blk wx w.heap.size #[.int .i64 0, .string ⟨#[]⟩, .string ⟨#[]⟩, .int .i64 0, .int .i64 0] 38 ∧ Below w.heap.size w wx) (fun i _ => S.size - (intOf i).toNat)
  case atStart => exact ⟨1, Nat.le_refl _, h0, rfl, rfl, K0.out, B.out⟩
  case round =>
   clear K0 B
   obtain ⟨k, hk1, hk, rfl, hall, hK, hB⟩ := hrel
   have K0 := Lib.hid hK
   have B := Lib.hid hB
   have HALL := Lib.hid hall
   clear hK hB hall
   by_cases hlt : k < S.size
   ·have hd : k - 1 < (S.data.toList.drop 1).length := by rw [List.length_drop, ← Lib.size_eq]; omega
    have hg : (S.data.toList.drop 1)[k - 1] = S[k] := by
     have e1 : (S.data.toList.drop 1)[k - 1] = S.data.toList[k]'(by rw [← Lib.size_eq]; exact hlt) := by
      rw [List.getElem_drop]
      congr 1
      omega
     rw [e1]
     rfl
    have hnx := fun h => all_next (isNum) (S.data.toList.drop 1) (k - 1) hd HALL.out h
    rw [hg, show k - 1 + 1 = k + 1 - 1 by omega] at hnx
    have hst : (isNum) S[k] = false → k = 1 + ((S.data.toList.drop 1).takeWhile (isNum)).length := fun h => by
     rw [take_len_end (isNum) (S.data.toList.drop 1) (k - 1) (by omega) HALL.out (fun _ => by rw [hg]; exact h)]
     omega
    have HNX := Lib.hid hnx
    have HST := Lib.hid hst
    clear hnx hst hg hd
    cases hD : isDig S[k] with
    | true =>
     have A2 : Hid (∀ W, Calls Tryz.prog 56 #[.int .u8 S[k].toNat] W fun e w' => e = .returned (.bool true) ∧ Below W.heap.size W w') := Lib.hid (fun W => by have h := kdigit_is S[k] W W (Below.refl _ _); rw [hD] at h; exact h)
     go_wp2_with (first
      | (go_at_call 56; with_reducible refine (A2.out _).mono ?_; rintro e wx ⟨rfl, q⟩; replace K0 := Lib.hid (K0.out.near (by first | exact Near.same _ | exact Near.one _) q); replace B := Lib.hid (goI B.out q); clear q)
      | fail "arm")
     go_round
     case rel => exact ⟨k + 1, by omega, by omega, by go_num, HNX.out (by unfold isNum; rw [hD]; rfl), K0.out, B.out⟩
     case measure => simp [intOf]; omega
    | false =>
     have A2 : Hid (∀ W, Calls Tryz.prog 56 #[.int .u8 S[k].toNat] W fun e w' => e = .returned (.bool false) ∧ Below W.heap.size W w') := Lib.hid (fun W => by have h := kdigit_is S[k] W W (Below.refl _ _); rw [hD] at h; exact h)
     by_cases h46 : S[k] = 46
     ·have q46 : (((S[k].toNat : Nat) : Int) == 46) = true := u8_eq_true S[k] 46 (by decide) h46
      have H46 := Lib.hid h46
      clear h46
      go_wp2_with (first
       | (go_at_call 56; with_reducible refine (A2.out _).mono ?_; rintro e wx ⟨rfl, q⟩; replace K0 := Lib.hid (K0.out.near (by first | exact Near.same _ | exact Near.one _) q); replace B := Lib.hid (goI B.out q); clear q)
       | fail "arm")
      go_round
      case rel => exact ⟨k + 1, by omega, by omega, by go_num, HNX.out (by unfold isNum; rw [hD, H46.out]; rfl), K0.out, B.out⟩
      case measure => simp [intOf]; omega
     ·have q46 : (((S[k].toNat : Nat) : Int) == 46) = false := u8_eq_false S[k] 46 (by decide) h46
      by_cases h47 : S[k] = 47
      ·have q47 : (((S[k].toNat : Nat) : Int) == 47) = true := u8_eq_true S[k] 47 (by decide) h47
       have H47 := Lib.hid h47
       clear h47
       go_wp2_with (first
        | (go_at_call 56; with_reducible refine (A2.out _).mono ?_; rintro e wx ⟨rfl, q⟩; replace K0 := Lib.hid (K0.out.near (by first | exact Near.same _ | exact Near.one _) q); replace B := Lib.hid (goI B.out q); clear q)
        | fail "arm")
       go_round
       case rel => exact ⟨k + 1, by omega, by omega, by go_num, HNX.out (by unfold isNum; rw [hD, H47.out]; rfl), K0.out, B.out⟩
       case measure => simp [intOf]; omega
      ·have q47 : (((S[k].toNat : Nat) : Int) == 47) = false := u8_eq_false S[k] 47 (by decide) h47
       have HS := Lib.hid (HST.out (by unfold isNum; rw [hD]; simp [h46, h47]))
       clear HNX HST
       go_upto_region 11 with (first
        | (go_at_call 56; with_reducible refine (A2.out _).mono ?_; rintro e wx ⟨rfl, q⟩; replace K0 := Lib.hid (K0.out.near (by first | exact Near.same _ | exact Near.one _) q); replace B := Lib.hid (goI B.out q); clear q)
        | fail "arm")
       obtain rfl : k = n := HS.out.trans HNN.out.symm
       clear HS
       by_cases he : E = 0
       ·have e1 : (E != 0) = false := by rw [he]; rfl
        go_upto_region 14 with (first
         | (go_at_call 53; with_reducible refine (P1.out _ (baseI B.out)).mono ?_; rintro e wx ⟨rfl, q⟩; replace K0 := Lib.hid (K0.out.near (by first | exact Near.same _ | exact Near.one _) q); replace B := Lib.hid (goI B.out q); clear q)
         | fail "arm")
        have z0 := K0.out.free 0
        have z1 := K0.out.free 1
        have z2 := K0.out.free 2
        have z3 := K0.out.free 3
        have z4 := K0.out.free 4
        have c0 := K0.out.at_ 0 _ rfl
        have c1 := K0.out.at_ 1 _ rfl
        have c2 := K0.out.at_ 2 _ rfl
        have c3 := K0.out.at_ 3 _ rfl
        have c4 := K0.out.at_ 4 _ rfl
        go_wp2
        have R := K0.out.set5 (.int .i64 2) (.string R0) (.string R0) (.int .i64 0) (.int .i64 0)
        have B1 := below_set5 B.out (Nat.le_refl _) (.int .i64 2) (.string R0) (.string R0) (.int .i64 0) (.int .i64 0)
        have e0 := R.at_ 0 _ rfl
        have e1 := R.at_ 1 _ rfl
        have e2 := R.at_ 2 _ rfl
        have e3 := R.at_ 3 _ rfl
        have e4 := R.at_ 4 _ rfl
        rw [HV.out.1 he]
        exact bodyPost_ret (v := fstV 2 R0 R0 k 0) (by simp [results, Tryz.results36, go_sem, e0, e1, e2, e3, e4, fstV]) rfl ⟨rfl, B1⟩
       ·have e1 : (E != 0) = true := by rw [bne_iff_ne]; exact he
        go_upto_region 13 with (first
         | (go_at_call 53; with_reducible refine (P1.out _ (baseI B.out)).mono ?_; rintro e wx ⟨rfl, q⟩; replace K0 := Lib.hid (K0.out.near (by first | exact Near.same _ | exact Near.one _) q); replace B := Lib.hid (goI B.out q); clear q)
         | fail "arm")
        have z0 := K0.out.free 0
        have z1 := K0.out.free 1
        have z2 := K0.out.free 2
        have z3 := K0.out.free 3
        have z4 := K0.out.free 4
        have c0 := K0.out.at_ 0 _ rfl
        have c1 := K0.out.at_ 1 _ rfl
        have c2 := K0.out.at_ 2 _ rfl
        have c3 := K0.out.at_ 3 _ rfl
        have c4 := K0.out.at_ 4 _ rfl
        go_wp2
        have R := K0.out.set5 (.int .i64 0) (.string ⟨#[]⟩) (.string ⟨#[]⟩) (.int .i64 0) (.int .i64 0)
        have B1 := below_set5 B.out (Nat.le_refl _) (.int .i64 0) (.string ⟨#[]⟩) (.string ⟨#[]⟩) (.int .i64 0) (.int .i64 0)
        have e0 := R.at_ 0 _ rfl
        have e1 := R.at_ 1 _ rfl
        have e2 := R.at_ 2 _ rfl
        have e3 := R.at_ 3 _ rfl
        have e4 := R.at_ 4 _ rfl
        rw [HV.out.2 he]
        exact bodyPost_ret (v := fstV 0 ⟨#[]⟩ ⟨#[]⟩ 0 2) (by simp [results, Tryz.results36, go_sem, e0, e1, e2, e3, e4, fstV]) rfl ⟨rfl, B1⟩
   ·obtain rfl : k = S.size := by omega
    have hst : S.size = 1 + ((S.data.toList.drop 1).takeWhile (isNum)).length := by
     rw [take_len_end (isNum) (S.data.toList.drop 1) (S.size - 1) (by rw [List.length_drop, ← Lib.size_eq]; omega) HALL.out (fun h => by rw [List.length_drop, ← Lib.size_eq] at h; omega)]
     omega
    have HS := Lib.hid hst
    clear hst HALL
    obtain rfl : n = S.size := HNN.out.trans HS.out.symm
    rw [show S.extract 0 S.size = S by simp] at P1
    clear HS
    by_cases he : E = 0
    ·have e1 : (E != 0) = false := by rw [he]; rfl
     go_upto_region 14 with (first
      | (go_at_call 53; with_reducible refine (P1.out _ (baseI B.out)).mono ?_; rintro e wx ⟨rfl, q⟩; replace K0 := Lib.hid (K0.out.near (by first | exact Near.same _ | exact Near.one _) q); replace B := Lib.hid (goI B.out q); clear q)
      | fail "arm")
     have z0 := K0.out.free 0
     have z1 := K0.out.free 1
     have z2 := K0.out.free 2
     have z3 := K0.out.free 3
     have z4 := K0.out.free 4
     have c0 := K0.out.at_ 0 _ rfl
     have c1 := K0.out.at_ 1 _ rfl
     have c2 := K0.out.at_ 2 _ rfl
     have c3 := K0.out.at_ 3 _ rfl
     have c4 := K0.out.at_ 4 _ rfl
     go_wp2
     have R := K0.out.set5 (.int .i64 2) (.string R0) (.string R0) (.int .i64 0) (.int .i64 0)
     have B1 := below_set5 B.out (Nat.le_refl _) (.int .i64 2) (.string R0) (.string R0) (.int .i64 0) (.int .i64 0)
     have e0 := R.at_ 0 _ rfl
     have e1 := R.at_ 1 _ rfl
     have e2 := R.at_ 2 _ rfl
     have e3 := R.at_ 3 _ rfl
     have e4 := R.at_ 4 _ rfl
     rw [HV.out.1 he]
     exact bodyPost_ret (v := fstV 2 R0 R0 S.size 0) (by simp [results, Tryz.results36, go_sem, e0, e1, e2, e3, e4, fstV]) rfl ⟨rfl, B1⟩
    ·have e1 : (E != 0) = true := by rw [bne_iff_ne]; exact he
     go_upto_region 13 with (first
      | (go_at_call 53; with_reducible refine (P1.out _ (baseI B.out)).mono ?_; rintro e wx ⟨rfl, q⟩; replace K0 := Lib.hid (K0.out.near (by first | exact Near.same _ | exact Near.one _) q); replace B := Lib.hid (goI B.out q); clear q)
      | fail "arm")
     have z0 := K0.out.free 0
     have z1 := K0.out.free 1
     have z2 := K0.out.free 2
     have z3 := K0.out.free 3
     have z4 := K0.out.free 4
     have c0 := K0.out.at_ 0 _ rfl
     have c1 := K0.out.at_ 1 _ rfl
     have c2 := K0.out.at_ 2 _ rfl
     have c3 := K0.out.at_ 3 _ rfl
     have c4 := K0.out.at_ 4 _ rfl
     go_wp2
     have R := K0.out.set5 (.int .i64 0) (.string ⟨#[]⟩) (.string ⟨#[]⟩) (.int .i64 0) (.int .i64 0)
     have B1 := below_set5 B.out (Nat.le_refl _) (.int .i64 0) (.string ⟨#[]⟩) (.string ⟨#[]⟩) (.int .i64 0) (.int .i64 0)
     have e0 := R.at_ 0 _ rfl
     have e1 := R.at_ 1 _ rfl
     have e2 := R.at_ 2 _ rfl
     have e3 := R.at_ 3 _ rfl
     have e4 := R.at_ 4 _ rfl
     rw [HV.out.2 he]
     exact bodyPost_ret (v := fstV 0 ⟨#[]⟩ ⟨#[]⟩ 0 2) (by simp [results, Tryz.results36, go_sem, e0, e1, e2, e3, e4, fstV]) rfl ⟨rfl, B1⟩


set_option maxRecDepth 100000 in
set_option maxHeartbeats 4000000 in
theorem token_quote (S : ByteArray) (w : World) (h0 : 0 < S.size) (hs : S.size ≤ 65536) (hl : isLet S[0] = false) (hD : isDig S[0] = false) (hQ : S[0] = 34) (V : Value) (hV : ∀ n, n = 1 + ((S.data.toList.drop 1).takeWhile (· != 34)).length → (n = S.size → V = fstV 0 ⟨#[]⟩ ⟨#[]⟩ 0 15) ∧ (n < S.size → V = fstV 3 (S.extract 1 n) ⟨#[]⟩ (n + 1 : Nat) 0)) :
  Calls Tryz.prog 36 #[.string S] w fun e w' => (e = .returned V) ∧ Below w.heap.size w w' := by
 have k0 := Blk.fresh w #[.int .i64 0, .string ⟨#[]⟩, .string ⟨#[]⟩, .int .i64 0, .int .i64 0] 38
 have b0 := (Below.refl w.heap.size w).alloc (Nat.le_refl _) (.cells #[.int .i64 0, .string ⟨#[]⟩, .string ⟨#[]⟩, .int .i64 0, .int .i64 0] 38)
 have K0 := Lib.hid k0
 have B := Lib.hid b0
 clear k0 b0
 have L1 : Hid (∀ W, Calls Tryz.prog 55 #[.int .u8 S[0].toNat] W fun e w' => e = .returned (.bool false) ∧ Below W.heap.size W w') := Lib.hid (fun W => by have h := kletter_is S[0] W W (Below.refl _ _); rw [hl] at h; exact h)
 have hM : S[0] ≠ 45 := by rw [hQ]; decide
 have D0 : Hid (∀ W, Calls Tryz.prog 56 #[.int .u8 S[0].toNat] W fun e w' => e = .returned (.bool false) ∧ Below W.heap.size W w') := Lib.hid (fun W => by have h := kdigit_is S[0] W W (Below.refl _ _); rw [hD] at h; exact h)
 have q45 : (((S[0].toNat : Nat) : Int) == 45) = false := u8_eq_false S[0] 45 (by decide) hM
 have q34 : (((S[0].toNat : Nat) : Int) == 34) = true := u8_eq_true S[0] 34 (by decide) hQ
 have HP := Lib.hid hV
 clear hV hl hD hQ hM
 go_enter Tryz.func36, Tryz.ntmps36
 go_upto_region 1 with (fail)
 generalize (w.alloc (Obj.cells #[.int .i64 0, .string ⟨#[]⟩, .string ⟨#[]⟩, .int .i64 0, .int .i64 0] 38)) = W0 at *
 go_upto_region 16 with (first
  | (go_at_call 55; with_reducible refine (L1.out _).mono ?_; rintro e wx ⟨rfl, q⟩; replace K0 := Lib.hid (K0.out.near (by first | exact Near.same _ | exact Near.one _) q); replace B := Lib.hid (goI B.out q); clear q)
  | (go_at_call 56; with_reducible refine (D0.out _).mono ?_; rintro e wx ⟨rfl, q⟩; replace K0 := Lib.hid (K0.out.near (by first | exact Near.same _ | exact Near.one _) q); replace B := Lib.hid (goI B.out q); clear q)
  | fail "arm")
 go_loopw [5] (fun i wx => ∃ k : Nat, 1 ≤ k ∧ k ≤ S.size ∧ i = .int .i64 k ∧ ((S.data.toList.drop 1).take (k - 1)).all (fun x => x != 34) = true ∧ Blk wx w.heap.size #[.int .i64 0, .string ⟨#[]⟩, .string ⟨#[]⟩, .int .i64 0, .int .i64 0] 38 ∧ Below w.heap.size w wx) (fun i _ => S.size - (intOf i).toNat)
 case atStart => exact ⟨1, Nat.le_refl _, h0, rfl, rfl, K0.out, B.out⟩
 case round =>
  clear K0 B
  obtain ⟨k, hk1, hk, rfl, hall, hK, hB⟩ := hrel
  have K0 := Lib.hid hK
  have B := Lib.hid hB
  have HALL := Lib.hid hall
  clear hK hB hall
  by_cases hlt : k < S.size
  ·have hd : k - 1 < (S.data.toList.drop 1).length := by rw [List.length_drop, ← Lib.size_eq]; omega
   have hg : (S.data.toList.drop 1)[k - 1] = S[k] := by
    have e1 : (S.data.toList.drop 1)[k - 1] = S.data.toList[k]'(by rw [← Lib.size_eq]; exact hlt) := by
     rw [List.getElem_drop]
     congr 1
     omega
    rw [e1]
    rfl
   have hnx := fun h => all_next (fun x => x != 34) (S.data.toList.drop 1) (k - 1) hd HALL.out h
   rw [hg, show k - 1 + 1 = k + 1 - 1 by omega] at hnx
   have hst : (fun x => x != 34) S[k] = false → k = 1 + ((S.data.toList.drop 1).takeWhile (fun x => x != 34)).length := fun h => by
    rw [take_len_end (fun x => x != 34) (S.data.toList.drop 1) (k - 1) (by omega) HALL.out (fun _ => by rw [hg]; exact h)]
    omega
   have HNX := Lib.hid hnx
   have HST := Lib.hid hst
   clear hnx hst hg hd
   by_cases h34 : S[k] = 34
   ·have q34k : (((S[k].toNat : Nat) : Int) == 34) = true := u8_eq_true S[k] 34 (by decide) h34
    have H34 := Lib.hid h34
    clear h34
    have HS := Lib.hid (HST.out (by rw [H34.out]; rfl))
    clear HNX HST
    go_upto_region 18 with (fail)
    have e1 : (((k : Nat) : Int) == ((S.size : Nat) : Int)) = false := by rw [beq_eq_false_iff_ne]; omega
    go_upto_region 20 with (fail)
    have z0 := K0.out.free 0
    have z1 := K0.out.free 1
    have z2 := K0.out.free 2
    have z3 := K0.out.free 3
    have z4 := K0.out.free 4
    have c0 := K0.out.at_ 0 _ rfl
    have c1 := K0.out.at_ 1 _ rfl
    have c2 := K0.out.at_ 2 _ rfl
    have c3 := K0.out.at_ 3 _ rfl
    have c4 := K0.out.at_ 4 _ rfl
    go_wp2
    have R := K0.out.set5 (.int .i64 3) (.string (S.extract 1 k)) (.string ⟨#[]⟩) (.int .i64 0) (.int .i64 0)
    have B1 := below_set5 B.out (Nat.le_refl _) (.int .i64 3) (.string (S.extract 1 k)) (.string ⟨#[]⟩) (.int .i64 0) (.int .i64 0)
    have e0 := R.at_ 0 _ rfl
    have e1 := R.at_ 1 _ rfl
    have e2 := R.at_ 2 _ rfl
    have e3 := R.at_ 3 _ rfl
    have e4 := R.at_ 4 _ rfl
    rw [(HP.out k HS.out).2 hlt, show (((k + 1 : Nat)) : Int) = (k : Int) + 1 by omega]
    exact bodyPost_ret (v := fstV 3 (S.extract 1 k) ⟨#[]⟩ ((k : Int) + 1) 0) (by simp [results, Tryz.results36, go_sem, e0, e1, e2, e3, e4, fstV]) rfl ⟨rfl, B1⟩
   ·have q34k : (((S[k].toNat : Nat) : Int) == 34) = false := u8_eq_false S[k] 34 (by decide) h34
    go_wp2
    go_round
    case rel => exact ⟨k + 1, by omega, by omega, by go_num, HNX.out (by rw [bne_iff_ne]; exact h34), K0.out, B.out⟩
    case measure => simp [intOf]; omega
  ·obtain rfl : k = S.size := by omega
   have hst : S.size = 1 + ((S.data.toList.drop 1).takeWhile (fun x => x != 34)).length := by
    rw [take_len_end (fun x => x != 34) (S.data.toList.drop 1) (S.size - 1) (by rw [List.length_drop, ← Lib.size_eq]; omega) HALL.out (fun h => by rw [List.length_drop, ← Lib.size_eq] at h; omega)]
    omega
   have HS := Lib.hid hst
   clear hst HALL
   have e1 : (((S.size : Nat) : Int) == ((S.size : Nat) : Int)) = true := beq_self_eq_true _
   go_upto_region 19 with (fail)
   have z0 := K0.out.free 0
   have z1 := K0.out.free 1
   have z2 := K0.out.free 2
   have z3 := K0.out.free 3
   have z4 := K0.out.free 4
   have c0 := K0.out.at_ 0 _ rfl
   have c1 := K0.out.at_ 1 _ rfl
   have c2 := K0.out.at_ 2 _ rfl
   have c3 := K0.out.at_ 3 _ rfl
   have c4 := K0.out.at_ 4 _ rfl
   go_wp2
   have R := K0.out.set5 (.int .i64 0) (.string ⟨#[]⟩) (.string ⟨#[]⟩) (.int .i64 0) (.int .i64 0)
   have B1 := below_set5 B.out (Nat.le_refl _) (.int .i64 0) (.string ⟨#[]⟩) (.string ⟨#[]⟩) (.int .i64 0) (.int .i64 0)
   have e0 := R.at_ 0 _ rfl
   have e1 := R.at_ 1 _ rfl
   have e2 := R.at_ 2 _ rfl
   have e3 := R.at_ 3 _ rfl
   have e4 := R.at_ 4 _ rfl
   rw [(HP.out S.size HS.out).1 rfl]
   exact bodyPost_ret (v := fstV 0 ⟨#[]⟩ ⟨#[]⟩ 0 15) (by simp [results, Tryz.results36, go_sem, e0, e1, e2, e3, e4, fstV]) rfl ⟨rfl, B1⟩


set_option maxRecDepth 100000 in
set_option maxHeartbeats 4000000 in
theorem token_mark (S : ByteArray) (w : World) (h0 : 0 < S.size) (hs : S.size ≤ 65536) (hl : isLet S[0] = false) (hn : NumF S) (hQ : S[0] ≠ 34) (V : Value) (hV : (1 < S.size → (S.extract 0 2).data.toList ∈ marks2 → V = fstV 4 (S.extract 0 2) ⟨#[]⟩ 2 0) ∧ ((1 < S.size → (S.extract 0 2).data.toList ∉ marks2) → (S[0] ∈ marks1 → V = fstV 4 (S.extract 0 1) ⟨#[]⟩ 1 0) ∧ (S[0] ∉ marks1 → V = fstV 0 ⟨#[]⟩ ⟨#[]⟩ 0 15))) :
  Calls Tryz.prog 36 #[.string S] w fun e w' => (e = .returned V) ∧ Below w.heap.size w w' := by
 have k0 := Blk.fresh w #[.int .i64 0, .string ⟨#[]⟩, .string ⟨#[]⟩, .int .i64 0, .int .i64 0] 38
 have b0 := (Below.refl w.heap.size w).alloc (Nat.le_refl _) (.cells #[.int .i64 0, .string ⟨#[]⟩, .string ⟨#[]⟩, .int .i64 0, .int .i64 0] 38)
 have K0 := Lib.hid k0
 have B := Lib.hid b0
 clear k0 b0
 have L1 : Hid (∀ W, Calls Tryz.prog 55 #[.int .u8 S[0].toNat] W fun e w' => e = .returned (.bool false) ∧ Below W.heap.size W w') := Lib.hid (fun W => by have h := kletter_is S[0] W W (Below.refl _ _); rw [hl] at h; exact h)
 have HV := Lib.hid hV
 clear hV hl
 go_enter Tryz.func36, Tryz.ntmps36
 go_upto_region 1 with (fail)
 generalize (w.alloc (Obj.cells #[.int .i64 0, .string ⟨#[]⟩, .string ⟨#[]⟩, .int .i64 0, .int .i64 0] 38)) = W0 at *
 obtain ⟨_, hD, hM | ⟨hM, h1⟩ | ⟨hM, h1, hE⟩⟩ := hn
 ·have D0 : Hid (∀ W, Calls Tryz.prog 56 #[.int .u8 S[0].toNat] W fun e w' => e = .returned (.bool false) ∧ Below W.heap.size W w') := Lib.hid (fun W => by have h := kdigit_is S[0] W W (Below.refl _ _); rw [hD] at h; exact h)
  have q45 : (((S[0].toNat : Nat) : Int) == 45) = false := u8_eq_false S[0] 45 (by decide) hM
  have q34 : (((S[0].toNat : Nat) : Int) == 34) = false := u8_eq_false S[0] 34 (by decide) hQ
  clear hM hD
  by_cases h2 : 1 < S.size
  ·have t2 : decide ((S.size : Int) > 1) = true := decide_eq_true (by omega)
   go_upto_region 23 with (first
    | (go_at_call 55; with_reducible refine (L1.out _).mono ?_; rintro e wx ⟨rfl, q⟩; replace K0 := Lib.hid (K0.out.near (by first | exact Near.same _ | exact Near.one _) q); replace B := Lib.hid (goI B.out q); clear q)
    | (go_at_call 56; with_reducible refine (D0.out _).mono ?_; rintro e wx ⟨rfl, q⟩; replace K0 := Lib.hid (K0.out.near (by first | exact Near.same _ | exact Near.one _) q); replace B := Lib.hid (goI B.out q); clear q)
    | fail "arm")
   have hm0 := K0.out.lt
   have KM := Lib.hid (Blk.fresh wx #[.string ⟨#[45, 62]⟩, .string ⟨#[60, 61]⟩, .string ⟨#[62, 61]⟩, .string ⟨#[33, 61]⟩] 9)
   replace K0 := Lib.hid (K0.out.alloc (.cells #[.string ⟨#[45, 62]⟩, .string ⟨#[60, 61]⟩, .string ⟨#[62, 61]⟩, .string ⟨#[33, 61]⟩] 9))
   replace B := Lib.hid (B.out.alloc B.out.size (.cells #[.string ⟨#[45, 62]⟩, .string ⟨#[60, 61]⟩, .string ⟨#[62, 61]⟩, .string ⟨#[33, 61]⟩] 9))
   generalize wx.alloc (Obj.cells #[.string ⟨#[45, 62]⟩, .string ⟨#[60, 61]⟩, .string ⟨#[62, 61]⟩, .string ⟨#[33, 61]⟩] 9) = W2 at *
   generalize wx.heap.size = m at *
   go_loopw [135] (fun i wq => ∃ k : Nat, k ≤ 4 ∧ i = .int .i64 k ∧ (∀ j, j < k → S.extract 0 2 ≠ mark2 j) ∧ Blk wq w.heap.size #[.int .i64 0, .string ⟨#[]⟩, .string ⟨#[]⟩, .int .i64 0, .int .i64 0] 38 ∧ Blk wq m #[.string ⟨#[45, 62]⟩, .string ⟨#[60, 61]⟩, .string ⟨#[62, 61]⟩, .string ⟨#[33, 61]⟩] 9 ∧ Below w.heap.size w wq) (fun i _ => 4 - (intOf i).toNat)
   case atStart => exact ⟨0, by omega, rfl, (fun j hj => by omega), K0.out, KM.out, B.out⟩
   case round =>
    clear K0 B KM
    obtain ⟨k, hk, rfl, hno, hK, hM2, hB⟩ := hrel
    have K0 := Lib.hid hK
    have KM := Lib.hid hM2
    have B := Lib.hid hB
    have HNO := Lib.hid hno
    clear hK hB hM2 hno
    by_cases hlt : k < 4
    ·have hc := mark2_cell KM.out hlt
     by_cases he : S.extract 0 2 = mark2 k
     ·have e2 : ((S.extract 0 2).toList == (mark2 k).toList) = true := by rw [he]; exact beq_self_eq_true _
      have HE := Lib.hid he
      clear he
      go_upto_region 26 with (fail)
      have z0 := K0.out.free 0
      have z1 := K0.out.free 1
      have z2 := K0.out.free 2
      have z3 := K0.out.free 3
      have z4 := K0.out.free 4
      have c0 := K0.out.at_ 0 _ rfl
      have c1 := K0.out.at_ 1 _ rfl
      have c2 := K0.out.at_ 2 _ rfl
      have c3 := K0.out.at_ 3 _ rfl
      have c4 := K0.out.at_ 4 _ rfl
      go_wp2
      have R := K0.out.set5 (.int .i64 4) (.string (mark2 k)) (.string ⟨#[]⟩) (.int .i64 0) (.int .i64 0)
      have B1 := below_set5 B.out (Nat.le_refl _) (.int .i64 4) (.string (mark2 k)) (.string ⟨#[]⟩) (.int .i64 0) (.int .i64 0)
      have e0 := R.at_ 0 _ rfl
      have e1 := R.at_ 1 _ rfl
      have e2 := R.at_ 2 _ rfl
      have e3 := R.at_ 3 _ rfl
      have e4 := R.at_ 4 _ rfl
      rw [HV.out.1 h2 (by rw [HE.out]; exact mark2_mem hlt), HE.out]
      exact bodyPost_ret (v := fstV 4 (mark2 k) ⟨#[]⟩ 2 0) (by simp [results, Tryz.results36, go_sem, e0, e1, e2, e3, e4, fstV]) rfl ⟨rfl, B1⟩
     ·have e2 : ((S.extract 0 2).toList == (mark2 k).toList) = false := by rw [beq_eq_false_iff_ne]; exact fun h => he (ba_toList h)
      have HE := Lib.hid he
      clear he
      go_wp2
      go_round
      case rel => exact ⟨k + 1, by omega, by go_num, (fun j hj => by rcases Nat.lt_succ_iff_lt_or_eq.1 hj with h | rfl; exact HNO.out j h; exact HE.out), K0.out, KM.out, B.out⟩
      case measure => simp [intOf]; omega
    ·obtain rfl : k = 4 := by omega
     have HM := Lib.hid (HV.out.2 (fun _ => mark2_all HNO.out))
     by_cases hm : S[0] ∈ marks1
     ·have H1 : Hid (∀ W, Calls Tryz.prog 35 #[.string ⟨#[40, 41, 91, 93, 123, 125, 58, 44, 59, 61, 60, 62, 43, 42, 47, 46, 64, 124, 38, 45]⟩, .int .u8 S[0].toNat] W fun e w' => e = .returned (.bool true) ∧ Below W.heap.size W w') := Lib.hid (fun W => by have h := has_is ⟨#[40, 41, 91, 93, 123, 125, 58, 44, 59, 61, 60, 62, 43, 42, 47, 46, 64, 124, 38, 45]⟩ S[0] W (by decide); rw [show decide (S[0] ∈ (ByteArray.mk #[40, 41, 91, 93, 123, 125, 58, 44, 59, 61, 60, 62, 43, 42, 47, 46, 64, 124, 38, 45]).data.toList) = true from decide_eq_true hm] at h; exact h)
      go_upto_region 30 with (first
       | (go_at_call 35; with_reducible refine (H1.out _).mono ?_; rintro e wx ⟨rfl, q⟩; replace K0 := Lib.hid (K0.out.near (by first | exact Near.same _ | exact Near.one _) q); replace B := Lib.hid (goI B.out q); clear q)
       | fail "arm")
      have z0 := K0.out.free 0
      have z1 := K0.out.free 1
      have z2 := K0.out.free 2
      have z3 := K0.out.free 3
      have z4 := K0.out.free 4
      have c0 := K0.out.at_ 0 _ rfl
      have c1 := K0.out.at_ 1 _ rfl
      have c2 := K0.out.at_ 2 _ rfl
      have c3 := K0.out.at_ 3 _ rfl
      have c4 := K0.out.at_ 4 _ rfl
      go_wp2
      have R := K0.out.set5 (.int .i64 4) (.string (S.extract 0 1)) (.string ⟨#[]⟩) (.int .i64 0) (.int .i64 0)
      have B1 := below_set5 B.out (Nat.le_refl _) (.int .i64 4) (.string (S.extract 0 1)) (.string ⟨#[]⟩) (.int .i64 0) (.int .i64 0)
      have e0 := R.at_ 0 _ rfl
      have e1 := R.at_ 1 _ rfl
      have e2 := R.at_ 2 _ rfl
      have e3 := R.at_ 3 _ rfl
      have e4 := R.at_ 4 _ rfl
      rw [HM.out.1 hm]
      exact bodyPost_ret (v := fstV 4 (S.extract 0 1) ⟨#[]⟩ 1 0) (by simp [results, Tryz.results36, go_sem, e0, e1, e2, e3, e4, fstV]) rfl ⟨rfl, B1⟩
     ·have H1 : Hid (∀ W, Calls Tryz.prog 35 #[.string ⟨#[40, 41, 91, 93, 123, 125, 58, 44, 59, 61, 60, 62, 43, 42, 47, 46, 64, 124, 38, 45]⟩, .int .u8 S[0].toNat] W fun e w' => e = .returned (.bool false) ∧ Below W.heap.size W w') := Lib.hid (fun W => by have h := has_is ⟨#[40, 41, 91, 93, 123, 125, 58, 44, 59, 61, 60, 62, 43, 42, 47, 46, 64, 124, 38, 45]⟩ S[0] W (by decide); rw [show decide (S[0] ∈ (ByteArray.mk #[40, 41, 91, 93, 123, 125, 58, 44, 59, 61, 60, 62, 43, 42, 47, 46, 64, 124, 38, 45]).data.toList) = false from decide_eq_false hm] at h; exact h)
      go_upto_region 29 with (first
       | (go_at_call 35; with_reducible refine (H1.out _).mono ?_; rintro e wx ⟨rfl, q⟩; replace K0 := Lib.hid (K0.out.near (by first | exact Near.same _ | exact Near.one _) q); replace B := Lib.hid (goI B.out q); clear q)
       | fail "arm")
      have z0 := K0.out.free 0
      have z1 := K0.out.free 1
      have z2 := K0.out.free 2
      have z3 := K0.out.free 3
      have z4 := K0.out.free 4
      have c0 := K0.out.at_ 0 _ rfl
      have c1 := K0.out.at_ 1 _ rfl
      have c2 := K0.out.at_ 2 _ rfl
      have c3 := K0.out.at_ 3 _ rfl
      have c4 := K0.out.at_ 4 _ rfl
      go_wp2
      have R := K0.out.set5 (.int .i64 0) (.string ⟨#[]⟩) (.string ⟨#[]⟩) (.int .i64 0) (.int .i64 0)
      have B1 := below_set5 B.out (Nat.le_refl _) (.int .i64 0) (.string ⟨#[]⟩) (.string ⟨#[]⟩) (.int .i64 0) (.int .i64 0)
      have e0 := R.at_ 0 _ rfl
      have e1 := R.at_ 1 _ rfl
      have e2 := R.at_ 2 _ rfl
      have e3 := R.at_ 3 _ rfl
      have e4 := R.at_ 4 _ rfl
      rw [HM.out.2 hm]
      exact bodyPost_ret (v := fstV 0 ⟨#[]⟩ ⟨#[]⟩ 0 15) (by simp [results, Tryz.results36, go_sem, e0, e1, e2, e3, e4, fstV]) rfl ⟨rfl, B1⟩
  ·have t2 : decide ((S.size : Int) > 1) = false := decide_eq_false (by omega)
   go_upto_region 28 with (first
    | (go_at_call 55; with_reducible refine (L1.out _).mono ?_; rintro e wx ⟨rfl, q⟩; replace K0 := Lib.hid (K0.out.near (by first | exact Near.same _ | exact Near.one _) q); replace B := Lib.hid (goI B.out q); clear q)
    | (go_at_call 56; with_reducible refine (D0.out _).mono ?_; rintro e wx ⟨rfl, q⟩; replace K0 := Lib.hid (K0.out.near (by first | exact Near.same _ | exact Near.one _) q); replace B := Lib.hid (goI B.out q); clear q)
    | fail "arm")
   have HM := Lib.hid (HV.out.2 (fun h => absurd h h2))
   by_cases hm : S[0] ∈ marks1
   ·have H1 : Hid (∀ W, Calls Tryz.prog 35 #[.string ⟨#[40, 41, 91, 93, 123, 125, 58, 44, 59, 61, 60, 62, 43, 42, 47, 46, 64, 124, 38, 45]⟩, .int .u8 S[0].toNat] W fun e w' => e = .returned (.bool true) ∧ Below W.heap.size W w') := Lib.hid (fun W => by have h := has_is ⟨#[40, 41, 91, 93, 123, 125, 58, 44, 59, 61, 60, 62, 43, 42, 47, 46, 64, 124, 38, 45]⟩ S[0] W (by decide); rw [show decide (S[0] ∈ (ByteArray.mk #[40, 41, 91, 93, 123, 125, 58, 44, 59, 61, 60, 62, 43, 42, 47, 46, 64, 124, 38, 45]).data.toList) = true from decide_eq_true hm] at h; exact h)
    go_upto_region 30 with (first
     | (go_at_call 35; with_reducible refine (H1.out _).mono ?_; rintro e wx ⟨rfl, q⟩; replace K0 := Lib.hid (K0.out.near (by first | exact Near.same _ | exact Near.one _) q); replace B := Lib.hid (goI B.out q); clear q)
     | fail "arm")
    have z0 := K0.out.free 0
    have z1 := K0.out.free 1
    have z2 := K0.out.free 2
    have z3 := K0.out.free 3
    have z4 := K0.out.free 4
    have c0 := K0.out.at_ 0 _ rfl
    have c1 := K0.out.at_ 1 _ rfl
    have c2 := K0.out.at_ 2 _ rfl
    have c3 := K0.out.at_ 3 _ rfl
    have c4 := K0.out.at_ 4 _ rfl
    go_wp2
    have R := K0.out.set5 (.int .i64 4) (.string (S.extract 0 1)) (.string ⟨#[]⟩) (.int .i64 0) (.int .i64 0)
    have B1 := below_set5 B.out (Nat.le_refl _) (.int .i64 4) (.string (S.extract 0 1)) (.string ⟨#[]⟩) (.int .i64 0) (.int .i64 0)
    have e0 := R.at_ 0 _ rfl
    have e1 := R.at_ 1 _ rfl
    have e2 := R.at_ 2 _ rfl
    have e3 := R.at_ 3 _ rfl
    have e4 := R.at_ 4 _ rfl
    rw [HM.out.1 hm]
    exact bodyPost_ret (v := fstV 4 (S.extract 0 1) ⟨#[]⟩ 1 0) (by simp [results, Tryz.results36, go_sem, e0, e1, e2, e3, e4, fstV]) rfl ⟨rfl, B1⟩
   ·have H1 : Hid (∀ W, Calls Tryz.prog 35 #[.string ⟨#[40, 41, 91, 93, 123, 125, 58, 44, 59, 61, 60, 62, 43, 42, 47, 46, 64, 124, 38, 45]⟩, .int .u8 S[0].toNat] W fun e w' => e = .returned (.bool false) ∧ Below W.heap.size W w') := Lib.hid (fun W => by have h := has_is ⟨#[40, 41, 91, 93, 123, 125, 58, 44, 59, 61, 60, 62, 43, 42, 47, 46, 64, 124, 38, 45]⟩ S[0] W (by decide); rw [show decide (S[0] ∈ (ByteArray.mk #[40, 41, 91, 93, 123, 125, 58, 44, 59, 61, 60, 62, 43, 42, 47, 46, 64, 124, 38, 45]).data.toList) = false from decide_eq_false hm] at h; exact h)
    go_upto_region 29 with (first
     | (go_at_call 35; with_reducible refine (H1.out _).mono ?_; rintro e wx ⟨rfl, q⟩; replace K0 := Lib.hid (K0.out.near (by first | exact Near.same _ | exact Near.one _) q); replace B := Lib.hid (goI B.out q); clear q)
     | fail "arm")
    have z0 := K0.out.free 0
    have z1 := K0.out.free 1
    have z2 := K0.out.free 2
    have z3 := K0.out.free 3
    have z4 := K0.out.free 4
    have c0 := K0.out.at_ 0 _ rfl
    have c1 := K0.out.at_ 1 _ rfl
    have c2 := K0.out.at_ 2 _ rfl
    have c3 := K0.out.at_ 3 _ rfl
    have c4 := K0.out.at_ 4 _ rfl
    go_wp2
    have R := K0.out.set5 (.int .i64 0) (.string ⟨#[]⟩) (.string ⟨#[]⟩) (.int .i64 0) (.int .i64 0)
    have B1 := below_set5 B.out (Nat.le_refl _) (.int .i64 0) (.string ⟨#[]⟩) (.string ⟨#[]⟩) (.int .i64 0) (.int .i64 0)
    have e0 := R.at_ 0 _ rfl
    have e1 := R.at_ 1 _ rfl
    have e2 := R.at_ 2 _ rfl
    have e3 := R.at_ 3 _ rfl
    have e4 := R.at_ 4 _ rfl
    rw [HM.out.2 hm]
    exact bodyPost_ret (v := fstV 0 ⟨#[]⟩ ⟨#[]⟩ 0 15) (by simp [results, Tryz.results36, go_sem, e0, e1, e2, e3, e4, fstV]) rfl ⟨rfl, B1⟩
 ·have D0 : Hid (∀ W, Calls Tryz.prog 56 #[.int .u8 S[0].toNat] W fun e w' => e = .returned (.bool false) ∧ Below W.heap.size W w') := Lib.hid (fun W => by have h := kdigit_is S[0] W W (Below.refl _ _); rw [hD] at h; exact h)
  have q45 : (((S[0].toNat : Nat) : Int) == 45) = true := u8_eq_true S[0] 45 (by decide) hM
  have t1 : decide ((S.size : Int) > 1) = false := decide_eq_false (by omega)
  have q34 : (((S[0].toNat : Nat) : Int) == 34) = false := u8_eq_false S[0] 34 (by decide) hQ
  clear hM hD
  by_cases h2 : 1 < S.size
  ·exact absurd h2 (by omega)
  ·have t2 : decide ((S.size : Int) > 1) = false := decide_eq_false (by omega)
   go_upto_region 28 with (first
    | (go_at_call 55; with_reducible refine (L1.out _).mono ?_; rintro e wx ⟨rfl, q⟩; replace K0 := Lib.hid (K0.out.near (by first | exact Near.same _ | exact Near.one _) q); replace B := Lib.hid (goI B.out q); clear q)
    | (go_at_call 56; with_reducible refine (D0.out _).mono ?_; rintro e wx ⟨rfl, q⟩; replace K0 := Lib.hid (K0.out.near (by first | exact Near.same _ | exact Near.one _) q); replace B := Lib.hid (goI B.out q); clear q)
    | fail "arm")
   have HM := Lib.hid (HV.out.2 (fun h => absurd h h2))
   by_cases hm : S[0] ∈ marks1
   ·have H1 : Hid (∀ W, Calls Tryz.prog 35 #[.string ⟨#[40, 41, 91, 93, 123, 125, 58, 44, 59, 61, 60, 62, 43, 42, 47, 46, 64, 124, 38, 45]⟩, .int .u8 S[0].toNat] W fun e w' => e = .returned (.bool true) ∧ Below W.heap.size W w') := Lib.hid (fun W => by have h := has_is ⟨#[40, 41, 91, 93, 123, 125, 58, 44, 59, 61, 60, 62, 43, 42, 47, 46, 64, 124, 38, 45]⟩ S[0] W (by decide); rw [show decide (S[0] ∈ (ByteArray.mk #[40, 41, 91, 93, 123, 125, 58, 44, 59, 61, 60, 62, 43, 42, 47, 46, 64, 124, 38, 45]).data.toList) = true from decide_eq_true hm] at h; exact h)
    go_upto_region 30 with (first
     | (go_at_call 35; with_reducible refine (H1.out _).mono ?_; rintro e wx ⟨rfl, q⟩; replace K0 := Lib.hid (K0.out.near (by first | exact Near.same _ | exact Near.one _) q); replace B := Lib.hid (goI B.out q); clear q)
     | fail "arm")
    have z0 := K0.out.free 0
    have z1 := K0.out.free 1
    have z2 := K0.out.free 2
    have z3 := K0.out.free 3
    have z4 := K0.out.free 4
    have c0 := K0.out.at_ 0 _ rfl
    have c1 := K0.out.at_ 1 _ rfl
    have c2 := K0.out.at_ 2 _ rfl
    have c3 := K0.out.at_ 3 _ rfl
    have c4 := K0.out.at_ 4 _ rfl
    go_wp2
    have R := K0.out.set5 (.int .i64 4) (.string (S.extract 0 1)) (.string ⟨#[]⟩) (.int .i64 0) (.int .i64 0)
    have B1 := below_set5 B.out (Nat.le_refl _) (.int .i64 4) (.string (S.extract 0 1)) (.string ⟨#[]⟩) (.int .i64 0) (.int .i64 0)
    have e0 := R.at_ 0 _ rfl
    have e1 := R.at_ 1 _ rfl
    have e2 := R.at_ 2 _ rfl
    have e3 := R.at_ 3 _ rfl
    have e4 := R.at_ 4 _ rfl
    rw [HM.out.1 hm]
    exact bodyPost_ret (v := fstV 4 (S.extract 0 1) ⟨#[]⟩ 1 0) (by simp [results, Tryz.results36, go_sem, e0, e1, e2, e3, e4, fstV]) rfl ⟨rfl, B1⟩
   ·have H1 : Hid (∀ W, Calls Tryz.prog 35 #[.string ⟨#[40, 41, 91, 93, 123, 125, 58, 44, 59, 61, 60, 62, 43, 42, 47, 46, 64, 124, 38, 45]⟩, .int .u8 S[0].toNat] W fun e w' => e = .returned (.bool false) ∧ Below W.heap.size W w') := Lib.hid (fun W => by have h := has_is ⟨#[40, 41, 91, 93, 123, 125, 58, 44, 59, 61, 60, 62, 43, 42, 47, 46, 64, 124, 38, 45]⟩ S[0] W (by decide); rw [show decide (S[0] ∈ (ByteArray.mk #[40, 41, 91, 93, 123, 125, 58, 44, 59, 61, 60, 62, 43, 42, 47, 46, 64, 124, 38, 45]).data.toList) = false from decide_eq_false hm] at h; exact h)
    go_upto_region 29 with (first
     | (go_at_call 35; with_reducible refine (H1.out _).mono ?_; rintro e wx ⟨rfl, q⟩; replace K0 := Lib.hid (K0.out.near (by first | exact Near.same _ | exact Near.one _) q); replace B := Lib.hid (goI B.out q); clear q)
     | fail "arm")
    have z0 := K0.out.free 0
    have z1 := K0.out.free 1
    have z2 := K0.out.free 2
    have z3 := K0.out.free 3
    have z4 := K0.out.free 4
    have c0 := K0.out.at_ 0 _ rfl
    have c1 := K0.out.at_ 1 _ rfl
    have c2 := K0.out.at_ 2 _ rfl
    have c3 := K0.out.at_ 3 _ rfl
    have c4 := K0.out.at_ 4 _ rfl
    go_wp2
    have R := K0.out.set5 (.int .i64 0) (.string ⟨#[]⟩) (.string ⟨#[]⟩) (.int .i64 0) (.int .i64 0)
    have B1 := below_set5 B.out (Nat.le_refl _) (.int .i64 0) (.string ⟨#[]⟩) (.string ⟨#[]⟩) (.int .i64 0) (.int .i64 0)
    have e0 := R.at_ 0 _ rfl
    have e1 := R.at_ 1 _ rfl
    have e2 := R.at_ 2 _ rfl
    have e3 := R.at_ 3 _ rfl
    have e4 := R.at_ 4 _ rfl
    rw [HM.out.2 hm]
    exact bodyPost_ret (v := fstV 0 ⟨#[]⟩ ⟨#[]⟩ 0 15) (by simp [results, Tryz.results36, go_sem, e0, e1, e2, e3, e4, fstV]) rfl ⟨rfl, B1⟩
 ·have D0 : Hid (∀ W, Calls Tryz.prog 56 #[.int .u8 S[0].toNat] W fun e w' => e = .returned (.bool false) ∧ Below W.heap.size W w') := Lib.hid (fun W => by have h := kdigit_is S[0] W W (Below.refl _ _); rw [hD] at h; exact h)
  have D1 : Hid (∀ W, Calls Tryz.prog 56 #[.int .u8 S[1].toNat] W fun e w' => e = .returned (.bool false) ∧ Below W.heap.size W w') := Lib.hid (fun W => by have h := kdigit_is S[1] W W (Below.refl _ _); rw [hE] at h; exact h)
  have q45 : (((S[0].toNat : Nat) : Int) == 45) = true := u8_eq_true S[0] 45 (by decide) hM
  have t1 : decide ((S.size : Int) > 1) = true := decide_eq_true (by omega)
  have q34 : (((S[0].toNat : Nat) : Int) == 34) = false := u8_eq_false S[0] 34 (by decide) hQ
  clear hM hD
  by_cases h2 : 1 < S.size
  ·have t2 : decide ((S.size : Int) > 1) = true := decide_eq_true (by omega)
   go_upto_region 23 with (first
    | (go_at_call 55; with_reducible refine (L1.out _).mono ?_; rintro e wx ⟨rfl, q⟩; replace K0 := Lib.hid (K0.out.near (by first | exact Near.same _ | exact Near.one _) q); replace B := Lib.hid (goI B.out q); clear q)
    | (go_at_call 56; with_reducible refine (D0.out _).mono ?_; rintro e wx ⟨rfl, q⟩; replace K0 := Lib.hid (K0.out.near (by first | exact Near.same _ | exact Near.one _) q); replace B := Lib.hid (goI B.out q); clear q)
    | (go_at_call 56; with_reducible refine (D1.out _).mono ?_; rintro e wx ⟨rfl, q⟩; replace K0 := Lib.hid (K0.out.near (by first | exact Near.same _ | exact Near.one _) q); replace B := Lib.hid (goI B.out q); clear q)
    | fail "arm")
   have hm0 := K0.out.lt
   have KM := Lib.hid (Blk.fresh wx #[.string ⟨#[45, 62]⟩, .string ⟨#[60, 61]⟩, .string ⟨#[62, 61]⟩, .string ⟨#[33, 61]⟩] 9)
   replace K0 := Lib.hid (K0.out.alloc (.cells #[.string ⟨#[45, 62]⟩, .string ⟨#[60, 61]⟩, .string ⟨#[62, 61]⟩, .string ⟨#[33, 61]⟩] 9))
   replace B := Lib.hid (B.out.alloc B.out.size (.cells #[.string ⟨#[45, 62]⟩, .string ⟨#[60, 61]⟩, .string ⟨#[62, 61]⟩, .string ⟨#[33, 61]⟩] 9))
   generalize wx.alloc (Obj.cells #[.string ⟨#[45, 62]⟩, .string ⟨#[60, 61]⟩, .string ⟨#[62, 61]⟩, .string ⟨#[33, 61]⟩] 9) = W2 at *
   generalize wx.heap.size = m at *
   go_loopw [135] (fun i wq => ∃ k : Nat, k ≤ 4 ∧ i = .int .i64 k ∧ (∀ j, j < k → S.extract 0 2 ≠ mark2 j) ∧ Blk wq w.heap.size #[.int .i64 0, .string ⟨#[]⟩, .string ⟨#[]⟩, .int .i64 0, .int .i64 0] 38 ∧ Blk wq m #[.string ⟨#[45, 62]⟩, .string ⟨#[60, 61]⟩, .string ⟨#[62, 61]⟩, .string ⟨#[33, 61]⟩] 9 ∧ Below w.heap.size w wq) (fun i _ => 4 - (intOf i).toNat)
   case atStart => exact ⟨0, by omega, rfl, (fun j hj => by omega), K0.out, KM.out, B.out⟩
   case round =>
    clear K0 B KM
    obtain ⟨k, hk, rfl, hno, hK, hM2, hB⟩ := hrel
    have K0 := Lib.hid hK
    have KM := Lib.hid hM2
    have B := Lib.hid hB
    have HNO := Lib.hid hno
    clear hK hB hM2 hno
    by_cases hlt : k < 4
    ·have hc := mark2_cell KM.out hlt
     by_cases he : S.extract 0 2 = mark2 k
     ·have e2 : ((S.extract 0 2).toList == (mark2 k).toList) = true := by rw [he]; exact beq_self_eq_true _
      have HE := Lib.hid he
      clear he
      go_upto_region 26 with (fail)
      have z0 := K0.out.free 0
      have z1 := K0.out.free 1
      have z2 := K0.out.free 2
      have z3 := K0.out.free 3
      have z4 := K0.out.free 4
      have c0 := K0.out.at_ 0 _ rfl
      have c1 := K0.out.at_ 1 _ rfl
      have c2 := K0.out.at_ 2 _ rfl
      have c3 := K0.out.at_ 3 _ rfl
      have c4 := K0.out.at_ 4 _ rfl
      go_wp2
      have R := K0.out.set5 (.int .i64 4) (.string (mark2 k)) (.string ⟨#[]⟩) (.int .i64 0) (.int .i64 0)
      have B1 := below_set5 B.out (Nat.le_refl _) (.int .i64 4) (.string (mark2 k)) (.string ⟨#[]⟩) (.int .i64 0) (.int .i64 0)
      have e0 := R.at_ 0 _ rfl
      have e1 := R.at_ 1 _ rfl
      have e2 := R.at_ 2 _ rfl
      have e3 := R.at_ 3 _ rfl
      have e4 := R.at_ 4 _ rfl
      rw [HV.out.1 h2 (by rw [HE.out]; exact mark2_mem hlt), HE.out]
      exact bodyPost_ret (v := fstV 4 (mark2 k) ⟨#[]⟩ 2 0) (by simp [results, Tryz.results36, go_sem, e0, e1, e2, e3, e4, fstV]) rfl ⟨rfl, B1⟩
     ·have e2 : ((S.extract 0 2).toList == (mark2 k).toList) = false := by rw [beq_eq_false_iff_ne]; exact fun h => he (ba_toList h)
      have HE := Lib.hid he
      clear he
      go_wp2
      go_round
      case rel => exact ⟨k + 1, by omega, by go_num, (fun j hj => by rcases Nat.lt_succ_iff_lt_or_eq.1 hj with h | rfl; exact HNO.out j h; exact HE.out), K0.out, KM.out, B.out⟩
      case measure => simp [intOf]; omega
    ·obtain rfl : k = 4 := by omega
     have HM := Lib.hid (HV.out.2 (fun _ => mark2_all HNO.out))
     by_cases hm : S[0] ∈ marks1
     ·have H1 : Hid (∀ W, Calls Tryz.prog 35 #[.string ⟨#[40, 41, 91, 93, 123, 125, 58, 44, 59, 61, 60, 62, 43, 42, 47, 46, 64, 124, 38, 45]⟩, .int .u8 S[0].toNat] W fun e w' => e = .returned (.bool true) ∧ Below W.heap.size W w') := Lib.hid (fun W => by have h := has_is ⟨#[40, 41, 91, 93, 123, 125, 58, 44, 59, 61, 60, 62, 43, 42, 47, 46, 64, 124, 38, 45]⟩ S[0] W (by decide); rw [show decide (S[0] ∈ (ByteArray.mk #[40, 41, 91, 93, 123, 125, 58, 44, 59, 61, 60, 62, 43, 42, 47, 46, 64, 124, 38, 45]).data.toList) = true from decide_eq_true hm] at h; exact h)
      go_upto_region 30 with (first
       | (go_at_call 35; with_reducible refine (H1.out _).mono ?_; rintro e wx ⟨rfl, q⟩; replace K0 := Lib.hid (K0.out.near (by first | exact Near.same _ | exact Near.one _) q); replace B := Lib.hid (goI B.out q); clear q)
       | fail "arm")
      have z0 := K0.out.free 0
      have z1 := K0.out.free 1
      have z2 := K0.out.free 2
      have z3 := K0.out.free 3
      have z4 := K0.out.free 4
      have c0 := K0.out.at_ 0 _ rfl
      have c1 := K0.out.at_ 1 _ rfl
      have c2 := K0.out.at_ 2 _ rfl
      have c3 := K0.out.at_ 3 _ rfl
      have c4 := K0.out.at_ 4 _ rfl
      go_wp2
      have R := K0.out.set5 (.int .i64 4) (.string (S.extract 0 1)) (.string ⟨#[]⟩) (.int .i64 0) (.int .i64 0)
      have B1 := below_set5 B.out (Nat.le_refl _) (.int .i64 4) (.string (S.extract 0 1)) (.string ⟨#[]⟩) (.int .i64 0) (.int .i64 0)
      have e0 := R.at_ 0 _ rfl
      have e1 := R.at_ 1 _ rfl
      have e2 := R.at_ 2 _ rfl
      have e3 := R.at_ 3 _ rfl
      have e4 := R.at_ 4 _ rfl
      rw [HM.out.1 hm]
      exact bodyPost_ret (v := fstV 4 (S.extract 0 1) ⟨#[]⟩ 1 0) (by simp [results, Tryz.results36, go_sem, e0, e1, e2, e3, e4, fstV]) rfl ⟨rfl, B1⟩
     ·have H1 : Hid (∀ W, Calls Tryz.prog 35 #[.string ⟨#[40, 41, 91, 93, 123, 125, 58, 44, 59, 61, 60, 62, 43, 42, 47, 46, 64, 124, 38, 45]⟩, .int .u8 S[0].toNat] W fun e w' => e = .returned (.bool false) ∧ Below W.heap.size W w') := Lib.hid (fun W => by have h := has_is ⟨#[40, 41, 91, 93, 123, 125, 58, 44, 59, 61, 60, 62, 43, 42, 47, 46, 64, 124, 38, 45]⟩ S[0] W (by decide); rw [show decide (S[0] ∈ (ByteArray.mk #[40, 41, 91, 93, 123, 125, 58, 44, 59, 61, 60, 62, 43, 42, 47, 46, 64, 124, 38, 45]).data.toList) = false from decide_eq_false hm] at h; exact h)
      go_upto_region 29 with (first
       | (go_at_call 35; with_reducible refine (H1.out _).mono ?_; rintro e wx ⟨rfl, q⟩; replace K0 := Lib.hid (K0.out.near (by first | exact Near.same _ | exact Near.one _) q); replace B := Lib.hid (goI B.out q); clear q)
       | fail "arm")
      have z0 := K0.out.free 0
      have z1 := K0.out.free 1
      have z2 := K0.out.free 2
      have z3 := K0.out.free 3
      have z4 := K0.out.free 4
      have c0 := K0.out.at_ 0 _ rfl
      have c1 := K0.out.at_ 1 _ rfl
      have c2 := K0.out.at_ 2 _ rfl
      have c3 := K0.out.at_ 3 _ rfl
      have c4 := K0.out.at_ 4 _ rfl
      go_wp2
      have R := K0.out.set5 (.int .i64 0) (.string ⟨#[]⟩) (.string ⟨#[]⟩) (.int .i64 0) (.int .i64 0)
      have B1 := below_set5 B.out (Nat.le_refl _) (.int .i64 0) (.string ⟨#[]⟩) (.string ⟨#[]⟩) (.int .i64 0) (.int .i64 0)
      have e0 := R.at_ 0 _ rfl
      have e1 := R.at_ 1 _ rfl
      have e2 := R.at_ 2 _ rfl
      have e3 := R.at_ 3 _ rfl
      have e4 := R.at_ 4 _ rfl
      rw [HM.out.2 hm]
      exact bodyPost_ret (v := fstV 0 ⟨#[]⟩ ⟨#[]⟩ 0 15) (by simp [results, Tryz.results36, go_sem, e0, e1, e2, e3, e4, fstV]) rfl ⟨rfl, B1⟩
  ·exact absurd h1 h2

end Go.Proofs.YtfhmgkicccfghaaGreatDoor
